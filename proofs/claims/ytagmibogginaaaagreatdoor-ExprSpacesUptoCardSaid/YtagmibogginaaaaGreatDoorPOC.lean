/- The walks and the plain laws that a law of spaces needs, part 3 of 7. -/
import Derived.Test.YtagmibogginaaaaGreatDoorPOB
import Derived.Shelf.SlSortFuncK.WholeK
import Derived.Shelf.GgSortFunc.Tiny
import Derived.Shelf.Strings.Builder1
import Derived.Shelf.Strings.Split
import Derived.RangeFuncIn
import Derived.Test.YtagmibogginaaaaGreatDoorRows
import Derived.ProofKit
import Derived.Deep.Slices
import Derived.Test.YtagmibogginaaaaGreatDoorProg
import Derived.KernelRfl
set_option linter.unusedVariables false
set_option linter.unusedSimpArgs false
namespace Go.Vx
open Go.RowKit Go.Proofs Go.Sort
theorem sorted_row {w : World} {base g m N cap k q : Nat} {e : TypeId} {vals : List Value} {α : Type} [Inhabited α] {enc : α -> List Value} {d : Array α} {os : Array Obj} (hown : w.ownsRow base e k (.slice (some ⟨g, 0, none⟩) N cap) N vals) (hm : m <= N) (hd : d.size = m) :
    w.grownBy (grow (putRowK enc k (Sort.ahead w q) g 0 d) os) (some g) /\ (grow (putRowK enc k (Sort.ahead w q) g 0 d) os).ownsRow base e k (.slice (some ⟨g, 0, none⟩) N cap) N ((flatK enc k d).toList ++ vals.drop (m * k)) := by
 obtain ⟨hl, hown⟩ := hown
 rcases hown with ⟨h, _⟩ | ⟨g', cap', cur, h, hb, hg, hn, hc, hs, ht⟩
 . cases h
 cases h
 have hgl : g < w.heap.size := (Array.getElem?_eq_some_iff.1 hg).1
 have hfl : (flatK enc k d).size = m * k := by rw [size_flatK, hd]
 have hmk : m * k <= N * k := Nat.mul_le_mul_right _ hm
 have hNk : N * k <= cap * k := Nat.mul_le_mul_right _ hn
 have hheap : (grow (putRowK enc k (Sort.ahead w q) g 0 d) os).heap[g]? = some (.cells (putCells id 0 (flatK enc k d) cur) e (0, 0)) := by
  show ((w.heap.modify g (onCells _)) ++ os)[g]? = _
  rw [Array.getElem?_append_left (by simpa using hgl), Array.getElem?_modify, if_pos rfl, hg]
  rfl
 refine ⟨⟨rfl, rfl, rfl, ?_, fun j hj hne => ?_⟩, ?_, .inr ⟨g, cap, _, rfl, hb, hheap, hn, hc, ?_, ?_⟩⟩
 . show w.heap.size <= ((w.heap.modify g (onCells _)) ++ os).size
   simp
 . show ((w.heap.modify g (onCells _)) ++ os)[j]? = _
   rw [Array.getElem?_append_left (by simpa using hj), Array.getElem?_modify, if_neg (fun e => hne (by rw [e]))]
 . rw [List.length_append, Array.length_toList, hfl, List.length_drop, hl]; omega
 . simp [putCells, hs]
 . apply List.ext_getElem?
   intro j
   rw [List.getElem?_take]
   by_cases hj : j < N * k
   . rw [if_pos hj]
     have hjc : j < cur.size := by rw [hs]; omega
     simp only [putCells, Array.getElem?_toList, Array.getElem?_mapIdx, Array.getElem?_eq_getElem hjc, Option.map_some, Nat.zero_le, true_and, Nat.zero_add, Nat.sub_zero, hfl]
     by_cases hjm : j < m * k
     . rw [if_pos hjm, List.getElem?_append_left (by rw [Array.length_toList, hfl]; exact hjm), Array.getElem?_toList]
       have hjf : j < (flatK enc k d).size := by rw [hfl]; exact hjm
       rw [Array.getElem?_eq_getElem hjf]
       exact congrArg some (getElem!_pos (flatK enc k d) j hjf)
     . rw [if_neg hjm, List.getElem?_append_right (by rw [Array.length_toList, hfl]; omega), Array.length_toList, hfl, List.getElem?_drop, show m * k + (j - m * k) = j by omega, <- ht, List.getElem?_take_of_lt hj, Array.getElem?_toList, Array.getElem?_eq_getElem hjc]
   . rw [if_neg hj, List.getElem?_eq_none]
     rw [List.length_append, Array.length_toList, hfl, List.length_drop, hl]; omega
structure SortC (P : Program) (f ty : Nat) (k fo g : Nat) : Prop where
 call : ∀ args w, (callFunc f args).run P w = .ok (.enter f args) w
 conc : P.concrete ty = true
 big : ∀ (α : Type) [Inhabited α] (enc : α -> List Value) (key : α -> List UInt8), (∀ x, (enc x).length = k) -> (∀ x, ∀ v ∈ enc x, v.oneCell' = true) -> (∀ x, (enc x)[fo]? = some (.string (bstr (key x)))) ->
  ∀ (blk c Bs : Nat) (d : Array α), 2 <= d.size -> d.size < 4611686018427387904 -> ∀ w, HoldsK enc k w blk 0 d -> blk < w.heap.size -> w.cell? ⟨Bs, 0, none⟩ = some (.slice (some ⟨blk, 0, none⟩) d.size c) -> Bs < w.heap.size -> Bs ≠ blk ->
  Calls P f #[.iface ty (.slice (some ⟨blk, 0, none⟩) d.size c), .func (.func g) #[] #[.pointer (some ⟨Bs, 0, none⟩)]] w fun e w' =>
   e = .returned (.tuple #[]) /\ ∃ d' n os, PermIn 0 d.size d d' /\ SortedIn (fun x y => Op.bytesLess (key x) (key y)) 0 d.size d' /\ w' = grow (putRowK enc k (Sort.ahead w n) blk 0 d') os
 tiny : ∀ p n c lb w, n <= 1 -> Calls P f #[.iface ty (.slice p n c), .func (.func g) #[] lb] w fun e w' => e = .returned (.tuple #[]) /\ ∃ os, w' = grow w os
def RowsUp (fo : Nat) (ys : List (List D)) : Prop := ys.Pairwise fun x y => ∀ a b, x[fo]? = some (.s a) -> y[fo]? = some (.s b) -> Op.bytesLess b a = false
def SRow (sz : TypeId -> Nat) (V : Vw) (k fo : Nat) : Type :=
 { p : List Value × List D // p.1.length = k /\ p.2.length = k /\ (∀ v ∈ p.1, v.oneCell' = true) /\ (∀ (j : Nat) v d, p.1[j]? = some v -> p.2[j]? = some d -> RI sz V v d) /\ ∃ l, p.2[fo]? = some (.s l) }
def SRow.key {sz : TypeId -> Nat} {V : Vw} {k fo : Nat} (x : SRow sz V k fo) : List UInt8 := match x.1.2[fo]? with | some (.s l) => l | _ => []
theorem put_same {a : Act} {t : Nat} {v : Value} (h : t < a.tmps.size) : (a.put (some t) v).eval (.tmp t) = v := by
 simp [Act.put, Act.eval, Array.getD, h]
theorem put_other {a : Act} {t t' : Nat} {v : Value} (h : t ≠ t') : (a.put (some t) v).eval (.tmp t') = a.eval (.tmp t') := by
 show (a.tmps.setIfInBounds t v).getD t' undef = a.tmps.getD t' undef
 rw [Array.getD_eq_getD_getElem?, Array.getD_eq_getD_getElem?, Array.getElem?_setIfInBounds_ne h]
theorem put_size {a : Act} {t : Nat} {v : Value} : (a.put (some t) v).tmps.size = a.tmps.size := by simp [Act.put]
section
variable {P : Program} {T : Tab} {Q : Exit → St → Prop}
theorem Ok.sortSlice (hT : TOk P T) {id : Nat} {t1 t2 t3 t4 p : Nat} {f ty g k fo i r m : Nat} {e : TypeId} {xs : List (List D)} {env : List (Nat × D)} {box : List (List D)} {row : Rows} {n : Nat}
    {y1 y2 y3 y4 : TypeId} {p1 p2 p3 p4 : String} {a1 a2 a3 a4 : Array Edge} {tys : Array TypeId} (hC : SortC P f ty k fo g)
    (hload : qop P T ⟨env, box, row, n⟩ ⟨some t1, .load ty (.tmp p), y1, p1, a1, none⟩ (fun d s' => d = .own r m /\ s' = ⟨env, box, row, n⟩))
    (hp : look env p = .bp i 0) (hb : box[i]? = some [.own r m]) (hr : row[r]? = some (some (e, xs))) (hm : m <= xs.length) (hk : szOf T e = k)
    (hn : p < n /\ t1 < n /\ t2 < n /\ t3 < n /\ t4 < n) (hd : t1 ≠ p /\ t2 ≠ p /\ t2 ≠ t3 /\ t3 ≠ t2)
    (hkeys : ∀ x ∈ xs.take m, ∃ l, x[fo]? = some (.s l)) (hm2 : m < 4611686018427387904)
    (h : ∀ ys, ys.Perm (xs.take m) -> RowsUp fo ys -> Q .normal ⟨(t4, .u) :: (t3, .u) :: (t2, .u) :: (t1, .u) :: env, box, row.set r (some (e, ys ++ xs.drop m)), n⟩) (he : e < BIG := by decide) :
    Ok P T (.region id #[⟨some t1, .load ty (.tmp p), y1, p1, a1, none⟩, ⟨some t2, .makeInterface ty (.tmp t1), y2, p2, a2, none⟩, ⟨some t3, .makeFunc (.func g) #[] #[.tmp p], y3, p3, a3, none⟩,
     ⟨some t4, .call ⟨.value (.func f), #[.tmp t2, .tmp t3], tys⟩, y4, p4, a4, none⟩] false) Q ⟨env, box, row, n⟩ := by
 refine ⟨fun w0 V0 V μ ω a w hS => wp_region_lit ?_⟩
 obtain ⟨hpn, hn1, hn2, hn3, hn4⟩ := hn
 obtain ⟨hd1, hd2, hd3, hd4⟩ := hd
 unfold wpList
 rw [if_pos (by simp [Region.wanted])]
 left
 refine (Vok.of_qop (E := .none) hT hS hload) _ _ ?_
 clear hS
 rintro _ v1 _ V μ ω w ⟨rfl, rfl⟩ hv1 hS _
 have rp := hS.slot hpn
 rw [hp] at rp
 obtain ⟨g1, hg1, hpv⟩ := rp.bp_
 have hsz : a.tmps.size = n := hS.tmps
 obtain ⟨A, N, c, hω, hnN, rfl⟩ := hv1.own_
 show wpList P _ _ [_, _, _] (a.put (some t1) _) w
 unfold wpList
 rw [if_pos (by simp [Region.wanted])]
 left
 unfold Oper.wp
 have r2 : (execOp (a.put (some t1) (.slice A m c)).eval ⟨some t2, .makeInterface ty (.tmp t1), y2, p2, a2, none⟩).run P w = .ok (.value (.iface ty (.slice A m c))) w := by
  simp only [execOp, put_same (a := a) (t := t1) (v := .slice A m c) (by omega), Sem.run_bind, run_makeInterface w ty _ hC.conc, Result.andThen_ok, Sem.run_pure]
 rw [r2]
 show wpList P _ _ [_, _] ((a.put (some t1) _).put (some t2) _) w
 unfold wpList
 rw [if_pos (by simp [Region.wanted])]
 left
 unfold Oper.wp
 have hpe : ((a.put (some t1) (.slice A m c)).put (some t2) (.iface ty (.slice A m c))).eval (.tmp p) = .pointer (some ⟨g1, 0, none⟩) := by
  rw [put_other hd2, put_other hd1]; exact hpv
 have r3 : (execOp ((a.put (some t1) (.slice A m c)).put (some t2) (.iface ty (.slice A m c))).eval ⟨some t3, .makeFunc (.func g) #[] #[.tmp p], y3, p3, a3, none⟩).run P w = .ok (.value (.func (.func g) #[] #[.pointer (some ⟨g1, 0, none⟩)])) w := by
  simp only [execOp, Instr.makeFunc, Sem.run_bind, Sem.run_pure, Result.andThen_ok, List.map_toArray, List.map_cons, List.map_nil, hpe]
 rw [r3]
 show wpList P _ _ [_] (((a.put (some t1) _).put (some t2) _).put (some t3) _) w
 generalize hA3 : ((a.put (some t1) (.slice A m c)).put (some t2) (.iface ty (.slice A m c))).put (some t3) (.func (.func g) #[] #[.pointer (some ⟨g1, 0, none⟩)]) = a3'
 have hs3 : a3'.tmps.size = n := by rw [<- hA3, put_size, put_size, put_size, hsz]
 have e2 : a3'.eval (.tmp t2) = .iface ty (.slice A m c) := by rw [<- hA3, put_other hd4, put_same (by rw [put_size]; omega)]
 have e3 : a3'.eval (.tmp t3) = .func (.func g) #[] #[.pointer (some ⟨g1, 0, none⟩)] := by rw [<- hA3, put_same (by rw [put_size, put_size]; omega)]
 have hS3 : Sim (szOf T) w0 V0 V μ ω ⟨(t3, .u) :: (t2, .u) :: (t1, .u) :: env, box, row, n⟩ a3' w := by
  rw [<- hA3]
  exact ((hS.put hn1 (.imm _ _ (.u _))).put hn2 (.imm _ _ (.u _))).put hn3 (.imm _ _ (.u _))
 unfold wpList
 rw [if_pos (by simp [Region.wanted])]
 left
 unfold Oper.wp
 have r4 : (execOp a3'.eval ⟨some t4, .call ⟨.value (.func f), #[.tmp t2, .tmp t3], tys⟩, y4, p4, a4, none⟩).run P w = .ok (.enter f #[.iface ty (.slice A m c), .func (.func g) #[] #[.pointer (some ⟨g1, 0, none⟩)]]) w := by
  simp only [execOp, resolve, Act.eval, Deferred.ofValue, invoke, Sem.run_bind, Sem.run_pure, Result.andThen_ok, List.map_toArray, List.map_cons, List.map_nil] at e2 e3 ⊢
  rw [e2, e3, hC.call]
  rfl
 rw [r4]
 show Calls P f _ w _
 have fin : ∀ (w' : World) (ys : List (List D)), (∀ ds, DefOk w0 V0 ds w -> DefOk w0 V0 ds w') -> ys.Perm (xs.take m) -> RowsUp fo ys -> Mem (szOf T) w0 V0 V μ ω box (row.set r (some (e, ys ++ xs.drop m))) w' ->
     ∃ s' V' μ' ω', Q .normal s' /\ Sim (szOf T) w0 V0 V' μ' ω' s' (a3'.put (some t4) (.tuple #[])) w' := fun w' ys hx h1 h2 hM =>
  let hP := hS3.put (v := .tuple #[]) hn4 (.imm _ _ (.u _))
  ⟨_, V, μ, ω, h ys h1 h2, Sim.mk hP.tmps (hx _ hP.defers) hP.env hM⟩
 by_cases hm1 : m <= 1
 . refine (hC.tiny A m c _ w hm1).mono ?_
   rintro e' w' ⟨rfl, os, rfl⟩
   have hrl : r < row.length := (List.getElem?_eq_some_iff.1 hr).1
   have hEx : Ext w (grow w os) := ⟨rfl, rfl, rfl, by show w.heap.size <= (w.heap ++ os).size; simp, fun j hj => by show (w.heap ++ os)[j]? = _; rw [Array.getElem?_append_left hj]⟩
   refine fin _ (xs.take m) (fun ds h => h.ext hEx) (.refl _) ?_ ?_
   . have hl : (xs.take m).length <= 1 := by rw [List.length_take]; omega
     unfold RowsUp
     match xs.take m, hl with
     | [], _ => simp
     | [_], _ => simp
   . rw [List.take_append_drop]
     have hrow : row.set r (some (e, xs)) = row := by
      apply List.ext_getElem?
      intro q
      by_cases hq : q = r
      . subst hq; rw [List.getElem?_set_self hrl, hr]
      . rw [List.getElem?_set_ne (Ne.symm hq)]
     rw [hrow]
     exact hS.mem.ext hEx
 . have hm2' : 2 <= m := by omega
   obtain ⟨A2, c2, vals, e1, hc, hmx, hA, hA2, hown, hR⟩ := hS.mem.rowShape he hω hr
   cases e1
   subst hk
   obtain ⟨blk, hblk⟩ : ∃ blk, A = some ⟨blk, 0, none⟩ := by
    rcases hown.2 with ⟨q, q2⟩ | ⟨g', cap, cur, q, _⟩
    . omega
    . cases q; exact ⟨g', rfl⟩
   subst hblk
   have hvl : vals.length = xs.length * szOf T e := hown.1
   have hF : ∀ i : Fin m, ∃ x : SRow (szOf T) V (szOf T e) fo, xs[i.1]? = some x.1.2 /\ ∀ j, j < szOf T e -> x.1.1[j]? = vals[i.1 * szOf T e + j]? := by
    intro i
    have hi : i.1 < xs.length := by omega
    have hx := List.getElem?_eq_getElem hi
    have hle : (i.1 + 1) * szOf T e <= xs.length * szOf T e := Nat.mul_le_mul_right _ hi
    rw [Nat.add_mul, Nat.one_mul] at hle
    have hget : ∀ j, j < szOf T e -> ((vals.drop (i.1 * szOf T e)).take (szOf T e))[j]? = vals[i.1 * szOf T e + j]? := fun j hj => by
     rw [List.getElem?_take_of_lt hj, List.getElem?_drop]
    have hlen := hR.len i.1 _ hx
    refine ⟨⟨((vals.drop (i.1 * szOf T e)).take (szOf T e), xs[i.1]), ?_, hlen, ?_, ?_, ?_⟩, hx, hget⟩
    . rw [List.length_take, List.length_drop]; omega
    . intro v hv
      exact hR.one v (List.mem_of_mem_drop (List.mem_of_mem_take hv))
    . intro j v d h1 h2
      have hj : j < szOf T e := by rw [<- hlen]; exact (List.getElem?_eq_some_iff.1 h2).1
      dsimp only at h1
      rw [hget j hj] at h1
      obtain ⟨u, hu1, hu2⟩ := hR.rel i.1 _ j d hx h2
      rw [h1] at hu1
      cases hu1
      exact hu2
    . exact hkeys _ (by
        have : (xs.take m)[i.1]? = some xs[i.1] := by rw [List.getElem?_take_of_lt i.2]; exact hx
        exact List.mem_of_getElem? this)
   let F : Fin m -> SRow (szOf T) V (szOf T e) fo := fun i => Classical.choose (hF i)
   have hF1 : ∀ i, xs[i.1]? = some (F i).1.2 := fun i => (Classical.choose_spec (hF i)).1
   have hF2 : ∀ i j, j < szOf T e -> (F i).1.1[j]? = vals[i.1 * szOf T e + j]? := fun i => (Classical.choose_spec (hF i)).2
   letI : Inhabited (SRow (szOf T) V (szOf T e) fo) := ⟨F ⟨0, by omega⟩⟩
   let d := Array.ofFn F
   have hds : d.size = m := Array.size_ofFn
   have hdg : ∀ i (hi : i < m), d[i]! = F ⟨i, hi⟩ := fun i hi => by
    rw [getElem!_pos d i (by rw [hds]; exact hi)]
    simp [d]
   have hkey : ∀ x : SRow (szOf T) V (szOf T e) fo, x.1.1[fo]? = some (.string (bstr x.key)) := by
    intro x
    obtain ⟨l, hl⟩ := x.2.2.2.2.2
    have hfo : fo < szOf T e := by rw [<- x.2.2.1]; exact (List.getElem?_eq_some_iff.1 hl).1
    have hfo1 : fo < x.1.1.length := by rw [x.2.1]; exact hfo
    have hv : x.1.1[fo]? = some x.1.1[fo] := List.getElem?_eq_getElem hfo1
    have hri := x.2.2.2.2.1 fo _ _ hv hl
    have hke : x.key = l := by unfold SRow.key; rw [hl]
    have hs := (RS.imm (μ := []) (ω := []) _ _ hri).str_
    rw [hke, hv, hs]
   have hpos : 0 < szOf T e := by
    obtain ⟨l, hl⟩ := (F ⟨0, by omega⟩).2.2.2.2.2
    have := (List.getElem?_eq_some_iff.1 hl).1
    rw [(F ⟨0, by omega⟩).2.2.1] at this
    omega
   have hheap : ∃ cur, w.heap[blk]? = some (.cells cur e (0, 0)) := by
    rcases hown.2 with ⟨q, _⟩ | ⟨g', cap, cur, q, _, hh, _⟩
    . cases q
    . cases q; exact ⟨cur, hh⟩
   obtain ⟨cur, hheap⟩ := hheap
   have hHold : HoldsK (fun x : SRow (szOf T) V (szOf T e) fo => x.1.1) (szOf T e) w blk 0 d := by
    intro j hj
    rw [size_flatK, hds] at hj
    have hjk : j / szOf T e < m := Nat.div_lt_of_lt_mul (by rw [Nat.mul_comm]; exact hj)
    have hjm := Nat.mod_lt j hpos
    refine ⟨?_, by simp [World.frozen?, hheap]⟩
    rw [get_flatK _ _ _ _ (by rw [hds]; exact hj), hdg _ hjk]
    have h3 := hF2 ⟨j / szOf T e, hjk⟩ (j % szOf T e) hjm
    have h4 : (F ⟨j / szOf T e, hjk⟩).1.1[j % szOf T e]? = some (F ⟨j / szOf T e, hjk⟩).1.1[j % szOf T e]! := by
     rw [getElem!_pos _ _ (by rw [(F ⟨j / szOf T e, hjk⟩).2.1]; exact hjm)]
     exact List.getElem?_eq_getElem _
    rw [h4, Nat.mul_comm, Nat.div_add_mod] at h3
    have := hown.cells (g := blk) rfl j _ h3.symm
    rw [add_lit] at this
    exact this
   obtain ⟨vs, tb, hh, hs, ho, hRb, _⟩ := hS.mem.hbox i g1 _ hg1 hb
   have hvs0 : 0 < vs.size := by rw [hs]; simp
   have hvs : ∃ v, vs[0]? = some v := ⟨vs[0], Array.getElem?_eq_getElem hvs0⟩
   obtain ⟨v0, hv0⟩ := hvs
   obtain ⟨Ab, Nb, cb, hωb, _, hvb⟩ := (hRb 0 v0 _ hv0 rfl).own_
   rw [hω] at hωb
   cases hωb
   have hBs : w.cell? ⟨g1, 0, none⟩ = some (.slice (some ⟨blk, 0, none⟩) m c) := by
    rw [cell_of_row w g1 0 vs tb (0, 0) hh, hv0, hvb]
   have hgl : g1 < w.heap.size := (Array.getElem?_eq_some_iff.1 hh).1
   have hne : g1 ≠ blk := fun e' => by
    have := hS.mem.uniq (.inl i) (.inr r) g1 hg1 ⟨_, _, hω, hr, by rw [e']; rfl⟩
    cases this
   have hcall := hC.big (SRow (szOf T) V (szOf T e) fo) (fun x => x.1.1) SRow.key (fun x => x.2.1) (fun x => x.2.2.2.1) hkey blk c g1 d (by rw [hds]; exact hm2') (by rw [hds]; exact hm2) w hHold (Array.getElem?_eq_some_iff.1 hheap).1 (by rw [hds]; exact hBs) hgl hne
   rw [hds] at hcall
   refine hcall.mono ?_
   rintro e' w' ⟨rfl, d', q, os, hperm, hsort, rfl⟩
   have hds' : d'.size = m := by rw [hperm.1, hds]
   obtain ⟨hgrow, hown'⟩ := sorted_row (q := q) (enc := fun x : SRow (szOf T) V (szOf T e) fo => x.1.1) (d := d') (os := os) hown hm hds'
   have hdmap : d.toList.map (fun x => x.1.2) = xs.take m := by
    apply List.ext_getElem?
    intro j
    rw [List.getElem?_map, Array.getElem?_toList]
    by_cases hj : j < m
    . rw [Array.getElem?_eq_getElem (by rw [hds]; exact hj), List.getElem?_take_of_lt hj, hF1 ⟨j, hj⟩]
      simp [d]
    . rw [Array.getElem?_eq_none (by rw [hds]; omega), List.getElem?_take, if_neg hj]
      rfl
   have hpl : d'.toList.Perm d.toList := by
    have := hperm.2.2
    rwa [show d'.extract 0 m = d' from by rw [<- hds']; simp, show d.extract 0 m = d from by rw [<- hds]; simp] at this
   have hdg' : ∀ (j : Nat) (x : SRow (szOf T) V (szOf T e) fo), d'.toList[j]? = some x -> d'[j]! = x := fun j x hx => by
    rw [Array.getElem?_toList] at hx
    obtain ⟨hj, rfl⟩ := Array.getElem?_eq_some_iff.1 hx
    exact getElem!_pos d' j hj
   refine fin _ (d'.toList.map fun x => x.1.2) (fun ds h => h.ownGrown hS.mem hω hr hgrow) (by rw [<- hdmap]; exact hpl.map _) ?_ ?_
   . unfold RowsUp
     rw [List.pairwise_map, List.pairwise_iff_getElem]
     intro i1 j1 hi1 hj1 hij a b ha hb'
     have s1 := hsort i1 j1 (Nat.zero_le _) hij (by simpa [hds'] using hj1)
     rw [hdg' i1 _ (List.getElem?_eq_getElem hi1), hdg' j1 _ (List.getElem?_eq_getElem hj1)] at s1
     have k1 : SRow.key d'.toList[i1] = a := by unfold SRow.key; rw [ha]
     have k2 : SRow.key d'.toList[j1] = b := by unfold SRow.key; rw [hb']
     dsimp only at s1
     rw [k1, k2] at s1
     exact s1
   . have hlen' : ((d'.toList.map fun x => x.1.2) ++ xs.drop m).length = xs.length := by
       rw [List.length_append, List.length_map, Array.length_toList, hds', List.length_drop]; omega
     have hωs : ω.set r (.slice (some ⟨blk, 0, none⟩) xs.length c) = ω := by
      apply List.ext_getElem?
      intro q
      by_cases hq : q = r
      . subst hq; rw [List.getElem?_set_self (List.getElem?_eq_some_iff.1 hω).1, hω]
      . rw [List.getElem?_set_ne (Ne.symm hq)]
     have hfl : (flatK (fun x : SRow (szOf T) V (szOf T e) fo => x.1.1) (szOf T e) d').toList.length = m * szOf T e := by rw [Array.length_toList, size_flatK, hds']
     have hflg : ∀ j, j < m * szOf T e -> (flatK (fun x : SRow (szOf T) V (szOf T e) fo => x.1.1) (szOf T e) d').toList[j]? = some (d'[j / szOf T e]!.1.1[j % szOf T e]!) := fun j hj => by
      rw [Array.getElem?_toList, Array.getElem?_eq_getElem (by rw [size_flatK, hds']; exact hj)]
      have := get_flatK (fun x : SRow (szOf T) V (szOf T e) fo => x.1.1) (szOf T e) d' j (by rw [hds']; exact hj)
      rw [getElem!_pos _ _ (by rw [size_flatK, hds']; exact hj)] at this
      rw [this]
     have hM := hS.mem.setRow_ (w' := grow (putRowK (fun x : SRow (szOf T) V (szOf T e) fo => x.1.1) (szOf T e) (Sort.ahead w q) blk 0 d') os) (v' := .slice (some ⟨blk, 0, none⟩) xs.length c) (e := e) (ys := (d'.toList.map fun x => x.1.2) ++ xs.drop m)
      (vals := (flatK (fun x : SRow (szOf T) V (szOf T e) fo => x.1.1) (szOf T e) d').toList ++ vals.drop (m * szOf T e)) hω hr hgrow (by rw [hlen']; exact hown') ?_ (.inl rfl) (box' := box) rfl ?_ (fun i cs cs' h1 h2 t h => by rw [h1] at h2; cases h2; exact h)
     . rw [hωs] at hM
       exact hM
     . refine ⟨fun u hu => ?_, fun i1 rw1 h1 => ?_, fun i1 rw1 j1 d1 h1 h2 => ?_⟩
       . rcases List.mem_append.1 hu with hu | hu
         . obtain ⟨j, hj⟩ := List.mem_iff_getElem?.1 hu
           have hjl : j < m * szOf T e := by rw [<- hfl]; exact (List.getElem?_eq_some_iff.1 hj).1
           rw [hflg j hjl] at hj
           cases hj
           generalize d'[j / szOf T e]! = x
           refine x.2.2.2.1 _ ?_
           have hx : j % szOf T e < x.1.1.length := by rw [x.2.1]; exact Nat.mod_lt j hpos
           rw [getElem!_pos x.1.1 _ hx]
           exact List.getElem_mem hx
         . exact hR.one u (List.mem_of_mem_drop hu)
       . by_cases hi1 : i1 < m
         . rw [List.getElem?_append_left (by rw [List.length_map, Array.length_toList, hds']; exact hi1), List.getElem?_map] at h1
           obtain ⟨x, _, rfl⟩ := Option.map_eq_some_iff.1 h1
           exact x.2.2.1
         . rw [List.getElem?_append_right (by rw [List.length_map, Array.length_toList, hds']; omega), List.getElem?_drop] at h1
           exact hR.len _ rw1 h1
       . by_cases hi1 : i1 < m
         . rw [List.getElem?_append_left (by rw [List.length_map, Array.length_toList, hds']; exact hi1), List.getElem?_map] at h1
           obtain ⟨x, hx, rfl⟩ := Option.map_eq_some_iff.1 h1
           have hj1 : j1 < szOf T e := by rw [<- x.2.2.1]; exact (List.getElem?_eq_some_iff.1 h2).1
           have hlt : i1 * szOf T e + j1 < m * szOf T e := by
            have : (i1 + 1) * szOf T e <= m * szOf T e := Nat.mul_le_mul_right _ hi1
            rw [Nat.add_mul] at this; omega
           have hdv : (i1 * szOf T e + j1) / szOf T e = i1 := by rw [Nat.mul_comm, Nat.mul_add_div hpos, Nat.div_eq_of_lt hj1, Nat.add_zero]
           have hmd : (i1 * szOf T e + j1) % szOf T e = j1 := by rw [Nat.mul_comm, Nat.mul_add_mod, Nat.mod_eq_of_lt hj1]
           have hdx := hdg' i1 x hx
           have hx1 : x.1.1[j1]? = some x.1.1[j1]! := by
            rw [getElem!_pos _ _ (by rw [x.2.1]; exact hj1)]
            exact List.getElem?_eq_getElem _
           refine ⟨x.1.1[j1]!, ?_, x.2.2.2.2.1 j1 _ d1 hx1 h2⟩
           rw [List.getElem?_append_left (by rw [hfl]; exact hlt), hflg _ hlt, hdv, hmd, hdx]
         . rw [List.getElem?_append_right (by rw [List.length_map, Array.length_toList, hds']; omega), List.getElem?_drop, List.length_map, Array.length_toList, hds', show m + (i1 - m) = i1 by omega] at h1
           obtain ⟨u, hu1, hu2⟩ := hR.rel i1 rw1 j1 d1 h1 h2
           have hge : m * szOf T e <= i1 * szOf T e := Nat.mul_le_mul_right _ (by omega)
           exact ⟨u, by rw [List.getElem?_append_right (by rw [hfl]; omega), hfl, List.getElem?_drop, show m * szOf T e + (i1 * szOf T e + j1 - m * szOf T e) = i1 * szOf T e + j1 by omega]; exact hu1, hu2⟩
     . intro i1 cs cs' h1 h2
       rw [h1] at h2
       cases h2
       refine ⟨rfl, fun j u dd dd' h3 h4 hrs => ?_⟩
       rw [h3] at h4
       cases h4
       rw [hωs]
       exact hrs
end
end Go.Vx
namespace Go.Vx
open Go.RowKit Go.Shelf Go.Proofs
structure CopyC (P : Program) (f t : Nat) : Prop where
 call : ∀ args w, (callFunc f args).run P w = .ok (.enter f args) w
 fresh : ∀ (b : Nat) (w : World), w.cell? ⟨b, 0, none⟩ = some (.pointer none) -> w.shape? b = some (t, 2) -> w.frozen? ⟨b, 0, none⟩ = false ->
  Calls P f #[.pointer (some ⟨b, 0, none⟩)] w fun e w' => e = .returned (.tuple #[]) /\ w' = w.setCell ⟨b, 0, none⟩ (.pointer (some ⟨b, 0, none⟩))
 used : ∀ (b : Nat) (w : World), w.cell? ⟨b, 0, none⟩ = some (.pointer (some ⟨b, 0, none⟩)) -> Calls P f #[.pointer (some ⟨b, 0, none⟩)] w fun e w' => e = .returned (.tuple #[]) /\ w' = w
structure StrC (P : Program) (f e : Nat) : Prop where
 call : ∀ args w, (callFunc f args).run P w = .ok (.enter f args) w
 run : ∀ (b g : Nat) (w : World) (l : List UInt8) (cap : Nat) (cur : Array Value), w.cell? ⟨b, 1, none⟩ = some (.slice (some ⟨g, 0, none⟩) l.length cap) -> w.heap[g]? = some (.cells cur e (0, 0)) -> l.length <= cap -> cap <= maxLen ->
  cur.size = cap -> cur.toList.take l.length = Lib.byteCells l -> l ≠ [] -> Calls P f #[.pointer (some ⟨b, 0, none⟩)] w fun e w' => e = .returned (.string (bstr l)) /\ w' = w.drew.freeze ⟨g, 0, none⟩ l.length
set_option maxHeartbeats 4000000 in
set_option maxRecDepth 100000 in
theorem strC {P : Program} {ρ : Ren} (L : Lays.n169 P ρ) (X : Builder.Extra P ρ) (hc : ∀ args w, (callFunc (ρ.f 169) args).run P w = .ok (.enter (ρ.f 169) args) w) : StrC P (ρ.f 169) (ρ.t 5) := by
 refine ⟨hc, fun b g w l cap cur hb hg hlc hcm hcs htk h0 => ?_⟩
 have hl0 : l.length ≠ 0 := by simpa using h0
 have c1 : w.drew.cell? ⟨b, 1, none⟩ = some (.slice (some ⟨g, 0, none⟩) l.length cap) := hb
 have hSD : (Builtin.unsafeSliceData_ #[(ρ.t 37)] (ρ.t 127) #[.slice (some ⟨g, 0, none⟩) l.length cap]).run P w.drew = .ok (.pointer (some ⟨g, 0, none⟩)) w.drew := Lib.run_unsafeSliceData_row _ _ _ _ _ _ (by omega)
 have hg' : w.drew.heap[g]? = some (.cells cur (ρ.t 5) (0, 0)) := hg
 have hUS : (Builtin.unsafeString_ #[(ρ.t 127), (ρ.t 3)] (ρ.t 9) #[.pointer (some ⟨g, 0, none⟩), .int .i64 l.length]).run P w.drew = .ok (.string ⟨l.toArray⟩) (w.drew.freeze ⟨g, 0, none⟩ l.length) := by
  refine Lib.run_unsafeString_row w.drew (ρ.t 127) (ρ.t 3) (ρ.t 9) (ρ.t 5) L.t127 X.cellsByte g cur.size (by simp [World.shape?, hg']) l h0 (by omega) (by unfold maxLen at hcm; omega) ?_
  intro j x hx
  have h1 : (cur.toList.take l.length)[j]? = some (.int .u8 x.toNat) := by
   rw [htk]
   simp [Lib.byteCells, hx]
  rw [List.getElem?_take] at h1
  split at h1
  . rw [add_lit, Nat.zero_add, cell_of_row w.drew g j cur (ρ.t 5) (0, 0) hg']
    simpa using h1
  . cases h1
 have mixed := L.mixed
 have t72 := L.t72; have a72 := L.a72; have z72 := L.z72; have v72 := L.v72; have u72 := run_underlying L.t72
 have t70 := L.t70; have a70 := L.a70; have z70 := L.z70; have v70 := L.v70; have u70 := run_underlying L.t70
 have t37 := L.t37; have a37 := L.a37; have z37 := L.z37; have v37 := L.v37; have u37 := run_underlying L.t37
 have t127 := L.t127; have a127 := L.a127; have z127 := L.z127; have v127 := L.v127; have u127 := run_underlying L.t127
 have t3 := L.t3; have a3 := L.a3; have z3 := L.z3; have v3 := L.v3; have u3 := run_underlying L.t3
 have t9 := L.t9; have a9 := L.a9; have z9 := L.z9; have v9 := L.v9; have u9 := run_underlying L.t9
 have t5 := X.t5; have a5 := X.a5; have z5 := X.z5; have v5 := X.v5; have u5 := run_underlying X.t5
 go_enter L.f169, Body.n169_ntmps ρ
 go_wp2
 go_region_o
 all_goals
  go_wp2
  go_ret
  exact ⟨rfl, rfl⟩
section
variable {w0 w w' : World} {V0 : Fr} {V : Vw} {μ : List Nat} {ω : List Value} {box : List (List D)} {row : Rows} {s : St} {a : Act} {P : Program} {T : Tab} {sz : TypeId → Nat}
theorem fz_heap (w : World) (g n : Nat) (hn : n ≠ 0) : (w.freeze ⟨g, 0, none⟩ n).heap = w.heap.modify g fun o => match o with
    | .cells c elem (lo, hi) => .cells c elem (if lo == hi then (0, 0 + n) else (min lo 0, max hi (0 + n)))
    | o => o := by
 unfold World.freeze
 rw [if_neg hn]
 congr 1
theorem freeze_other (w : World) (g k n : Nat) (h : k ≠ g) : (w.drew.freeze ⟨g, 0, none⟩ n).heap[k]? = w.heap[k]? := by
 by_cases hn : n = 0
 . subst hn; rfl
 . rw [fz_heap _ _ _ hn, Array.getElem?_modify, if_neg (Ne.symm h)]
   rfl
theorem freeze_size (w : World) (g n : Nat) : (w.drew.freeze ⟨g, 0, none⟩ n).heap.size = w.heap.size := by
 by_cases hn : n = 0
 . subst hn; rfl
 . rw [fz_heap _ _ _ hn, Array.size_modify]
   rfl
theorem freeze_cell (w : World) (g n : Nat) (p : Addr) : (w.drew.freeze ⟨g, 0, none⟩ n).cell? p = w.cell? p := by
 unfold World.cell?
 by_cases hp : p.block = g
 . by_cases hn : n = 0
   . subst hn; rfl
   . rw [fz_heap _ _ _ hn, Array.getElem?_modify, if_pos hp.symm]
     have hd : w.drew.heap[p.block]? = w.heap[p.block]? := rfl
     rw [hd]
     cases h : w.heap[p.block]? with
     | none => rfl
     | some o => cases o <;> rfl
 . rw [freeze_other _ _ _ _ hp]
theorem Mem.freeze (h : Mem sz w0 V0 V μ ω box row w) {g n : Nat} (hg0 : w0.heap.size <= g) (hno : ∀ l, ¬ Own μ ω row l g) : Mem sz w0 V0 V μ ω box row (w.drew.freeze ⟨g, 0, none⟩ n) := by
 refine ⟨Lib.below_freeze (h.below.trans (Below.drew (Below.refl _ w))) (p := ⟨g, 0, none⟩) hg0 n, ⟨h.vok.1, fun p v hp => by rw [freeze_cell]; exact h.vok.2 p v hp⟩, h.vle, h.vold, h.bl, fun i g' cs h1 h2 => ?_, h.rl, fun r v e xs h1 h2 => ?_, h.uniq, fun l g' hl => by rw [freeze_size]; exact h.new l g' hl, h.vmut⟩
 . obtain ⟨vs, t, a, b⟩ := h.hbox i g' cs h1 h2
   have hne : g' ≠ g := fun e => hno (.inl i) (by rw [<- e]; exact h1)
   exact ⟨vs, t, by rw [freeze_other _ _ _ _ hne]; exact a, b⟩
 . obtain ⟨vals, hown, b⟩ := h.hrow r v e xs h1 h2
   refine ⟨vals, ⟨hown.1, ?_⟩, b⟩
   rcases hown.2 with hn | ⟨g', cap, cur, e', fz, hv, hb, hg, rest⟩
   . exact .inl hn
   . have hne : g' ≠ g := fun e => hno (.inr r) ⟨v, _, h1, h2, by rw [hv, <- e]; rfl⟩
     exact .inr ⟨g', cap, cur, e', fz, hv, hb, by rw [freeze_other _ _ _ _ hne]; exact hg, rest⟩
theorem setCell_row {w : World} {g : Nat} {vs : Array Value} {t : TypeId} {fr : Nat × Nat} (hg : w.heap[g]? = some (.cells vs t fr)) (v : Value) : w.setCell ⟨g, 0, none⟩ v = w.setRow g (vs.setIfInBounds 0 v) := by
 unfold World.setCell World.setRow
 congr 1
 apply Array.ext_getElem?
 intro k
 simp only [Array.getElem?_modify]
 by_cases hk : g = k
 . subst hk
   simp [hg]
 . simp [hk]
theorem setK_mk {α : Type} {x : α} : ∀ {l : List α} {i : Nat} {K : List α -> Prop}, i < l.length -> K (l.set i x) -> setK l i x K
 | [], _, _, h, _ => absurd h (by simp)
 | _ :: _, 0, _, _, h => h
 | _ :: l, i + 1, K, hi, h => setK_mk (l := l) (K := fun r => K (_ :: r)) (by simpa using hi) h
theorem effW_fresh {f t i n : Nat} (C : CopyC P f t) {env : List (Nat × D)} {x : D} {K : D -> St -> Prop} (hb : box[i]? = some [.nilB t, x])
    (h : setK box i [.bp i 0, x] fun box => K (.tup []) ⟨env, box, row, n⟩) : effW P T ⟨env, box, row, n⟩ f [.bp i 0] K := by
 refine ⟨C.call, fun w0 V0 V μ ω a w vs hS hl hR => ?_⟩
 obtain ⟨v, rfl⟩ : ∃ v, vs = [v] := by
  match vs, hl with
  | [v], _ => exact ⟨v, rfl⟩
 obtain ⟨g, hg, rfl⟩ := (hR 0 v _ rfl rfl).bp_
 obtain ⟨us, t', hh, hs, ho, hrel, hty⟩ := hS.mem.hbox i g _ hg hb
 have ht : t = t' := hty
 subst ht
 have hs2 : us.size = 2 := hs
 have hu0 : us[0]? = some us[0] := Array.getElem?_eq_getElem (by omega)
 have hv0 : us[0] = .pointer none := by
  have key : ∀ u, RS (szOf T) V μ ω u (.nilB t) -> u = .pointer none := fun u hu => by cases hu with | imm _ _ hr => cases hr; rfl
  exact key _ (hrel 0 _ (.nilB t) hu0 rfl)
 obtain ⟨hil, h⟩ := setK_iff _ _ _ _ h
 have hcall := C.fresh g w (by rw [cell_of_row w g 0 us t (0, 0) hh, hu0, hv0]) (by simp [World.shape?, hh, hs2]) (by simp [World.frozen?, hh])
 refine hcall.mono ?_
 rintro e w' ⟨rfl, rfl⟩
 have hM := hS.mem.setBox (cs := [.bp i 0, x]) (vs := us.setIfInBounds 0 (.pointer (some ⟨g, 0, none⟩))) hg hil ⟨by simp [hs2], fun u hu => ?_, fun j u d h1 h2 => ?_⟩ fun t => trivial
 . rw [setCell_row hh]
   exact ⟨_, _, _, V, μ, ω, rfl, h, .tup [] #[] rfl (by simp), ⟨hS.tmps, hS.defers.setRow hh _, hS.env, hM⟩⟩
 . rw [Array.toList_setIfInBounds] at hu
   rcases List.mem_or_eq_of_mem_set hu with hu | rfl
   . exact ho u hu
   . rfl
 . cases j with
   | zero =>
    rw [Array.getElem?_setIfInBounds_self_of_lt (by omega)] at h1
    cases h1
    cases h2
    exact .bp i 0 g hg
   | succ j =>
    rw [Array.getElem?_setIfInBounds_ne (by omega)] at h1
    exact hrel (j + 1) u d h1 h2
theorem effW_used {f t i n : Nat} (C : CopyC P f t) {env : List (Nat × D)} {x : D} {K : D -> St -> Prop} (hb : box[i]? = some [.bp i 0, x])
    (h : K (.tup []) ⟨env, box, row, n⟩) : effW P T ⟨env, box, row, n⟩ f [.bp i 0] K := by
 refine ⟨C.call, fun w0 V0 V μ ω a w vs hS hl hR => ?_⟩
 obtain ⟨v, rfl⟩ : ∃ v, vs = [v] := by
  match vs, hl with
  | [v], _ => exact ⟨v, rfl⟩
 obtain ⟨g, hg, rfl⟩ := (hR 0 v _ rfl rfl).bp_
 obtain ⟨us, t', hh, hs, ho, hrel, hty⟩ := hS.mem.hbox i g _ hg hb
 have hs2 : us.size = 2 := hs
 have hu0 : us[0]? = some us[0] := Array.getElem?_eq_getElem (by omega)
 have hv0 : us[0] = .pointer (some ⟨g, 0, none⟩) := by
  obtain ⟨g2, hg2, e⟩ := (hrel 0 _ (.bp i 0) hu0 rfl).bp_
  rw [e]
  have hg3 := hS.mem
  rw [hg] at hg2
  cases hg2
  rfl
 refine (C.used g w (by rw [cell_of_row w g 0 us t' (0, 0) hh, hu0, hv0])).mono ?_
 rintro e w' ⟨rfl, rfl⟩
 exact ⟨_, _, _, V, μ, ω, rfl, h, .tup [] #[] rfl (by simp), hS⟩
theorem effK_string {f e i r m n : Nat} (C : StrC P f e) (h1 : szOf T e = 1) {env : List (Nat × D)} {x : D} {xs : List (List D)} {l : List UInt8} {K : D -> St -> Prop} (hb : box[i]? = some [x, .own r m]) (hr : row[r]? = some (some (e, xs)))
    (hm : m <= xs.length) (hl : xs.take m = l.map bcell) (h0 : l ≠ []) (h : pubK r ⟨env, box, row, n⟩ [] fun _ s' => K (.s l) s') (he : e < BIG := by decide) : effK P T ⟨env, box, row, n⟩ f [.bp i 0] K := by
 refine ⟨C.call, fun w0 V0 V μ ω a w vs hS hvl hR => ?_⟩
 obtain ⟨v, rfl⟩ : ∃ v, vs = [v] := by
  match vs, hvl with
  | [v], _ => exact ⟨v, rfl⟩
 obtain ⟨gb, hgb, rfl⟩ := (hR 0 v _ rfl rfl).bp_
 obtain ⟨us, t', hh, hs, ho, hrel, hty⟩ := hS.mem.hbox i gb _ hgb hb
 have hs2 : us.size = 2 := hs
 have hu1 : us[1]? = some us[1] := Array.getElem?_eq_getElem (by omega)
 have hown1 := hrel 1 _ (.own r m) hu1 rfl
 obtain ⟨A, N, c, hω, hn, hv1⟩ := hown1.own_
 obtain ⟨A2, c2, vals, e1, hc, hmx, hA, hA2, hown, hRR⟩ := hS.mem.rowShape he hω hr
 cases e1
 have hml : m = l.length := by have := congrArg List.length hl; rw [List.length_take, List.length_map] at this; omega
 have hlp : l.length ≠ 0 := by simpa using h0
 rcases hown.2 with ⟨hv, hz⟩ | ⟨g, cap, cur, hv, hbase, hg, h5, h6, h7, h8⟩
 . omega
 injection hv with hv2 hv3 hv4
 subst hv2 hv4
 rw [h1, Nat.mul_one] at h7 h8
 have hval : cur.toList.take l.length = Lib.byteCells l := by
  apply List.ext_getElem?
  intro j
  rw [List.getElem?_take]
  split
  . rename_i hj
    have hlj : l[j]? = some l[j] := List.getElem?_eq_getElem hj
    have hx : xs[j]? = some (bcell l[j]) := by
     have := congrArg (fun q => q[j]?) hl
     simp only [List.getElem?_map, hlj, Option.map_some] at this
     rw [List.getElem?_take] at this
     split at this
     . exact this
     . cases this
    obtain ⟨u, hu, hu2⟩ := hRR.rel j (bcell l[j]) 0 _ hx rfl
    rw [h1, Nat.mul_one, Nat.add_zero, <- h8, List.getElem?_take] at hu
    split at hu
    . rw [hu]
      cases hu2
      simp [Lib.byteCells, hlj]
    . cases hu
  . rw [List.getElem?_eq_none]
    simp [Lib.byteCells]
    omega
 obtain ⟨V', _, s', hk, _, hS', hle⟩ := pubK_sound (vs := []) (ds := []) (K := fun _ s' => K (.s l) s' /\ s'.row = row.set r none) hS ⟨rfl, fun j v d h => by simp at h⟩ (by
  simp only [pubK] at h ⊢
  rw [hr] at h ⊢
  simp only [subE_eq, subB_eq] at h ⊢
  obtain ⟨hrl, h⟩ := setK_iff _ _ _ _ h
  exact setK_mk hrl ⟨h, rfl⟩)
 refine (C.run gb g w l c cur (by rw [cell_of_row w gb 1 us t' (0, 0) hh, hu1, hv1, hml]) hg (by omega) h6 h7 hval h0).mono ?_
 rintro e' w' ⟨rfl, rfl⟩
 have hno : ∀ q, ¬ Own μ ω s'.row q g := by
  intro q hq
  rw [hk.2] at hq
  cases q with
  | inl j =>
   have := hS.mem.uniq (.inl j) (.inr r) g hq ⟨_, _, hω, hr, rfl⟩
   cases this
  | inr q =>
   obtain ⟨v, y, k1, k2, k3⟩ := hq
   by_cases hqr : q = r
   . subst hqr
     rw [List.getElem?_set_self (List.getElem?_eq_some_iff.1 hr).1] at k2
     cases k2
   . rw [List.getElem?_set_ne (Ne.symm hqr)] at k2
     have := hS.mem.uniq (.inr q) (.inr r) g ⟨v, y, k1, k2, k3⟩ ⟨_, _, hω, hr, rfl⟩
     cases this
     exact hqr rfl
 exact ⟨_, _, s', V', μ, ω, rfl, hk.1, .imm _ _ (.s l), ⟨hS'.tmps, hS'.defers.to (fun k o ho hn => by rw [freeze_other _ _ _ _ (fun e => by rw [e, hg] at ho; exact hn _ _ _ (Option.some.inj ho).symm)]; exact ho), hS'.env, hS'.mem.freeze hbase hno⟩, hle, .refl μ, .refl ω, fun p v hp => by rw [freeze_cell]; exact hp⟩
theorem effW_of_effK {f : Nat} {ds : List D} {K : D -> St -> Prop} (h : effK P T s f ds K) : effW P T s f ds K :=
 ⟨h.call, fun w0 V0 V μ ω a w vs hS hl hR => (h.run w0 V0 V μ ω a w vs hS hl hR).mono fun e w' ⟨v, d, s', V', μ', ω', h1, h2, h3, h4, _⟩ => ⟨v, d, s', V', μ', ω', h1, h2, h3, h4⟩⟩
end
end Go.Vx
namespace Go.Vx
open Go.RowKit
def planF (ops : Array Oper) (i : Nat) : List Mv -> Array Bool -> Bool
 | [], listed => (Region.ready .any ops listed) == [i]
 | .q i' :: r, listed => (Region.ready .any ops listed).contains i' && Region.free .any ops listed i' && ((ops[i']?).map isQ).getD false && planF ops i r (listed.setIfInBounds i' true)
 | .l i' :: r, listed => (Region.ready .any ops listed) == [i'] && planF ops i r (listed.setIfInBounds i' true)
def planPOk (ops : Array Oper) (A : Waits) (mvs : List Mv) (i : Nat) : Bool :=
 Region.noSelect ops && waitsB ops A && Nat.blt mvs.length ops.size && planF ops i mvs (Array.replicate ops.size false)
section
variable {w0 w w' : World} {V0 : Fr} {V : Vw} {μ : List Nat} {ω : List Value} {s : St} {a : Act} {P : Program} {T : Tab}
theorem Ok.region_throw {id t1 t2 n : Nat} {ty : TypeId} {env : List (Nat × D)} {box : List (List D)} {row : Rows} {Q : Exit -> St -> Prop} {y1 y2 y3 : TypeId} {p1 p2 p3 : String} {a1 a2 a3 : Array Edge}
    (hb : ∀ w, (Instr.build ty #[]).run P w = .ok (.agg #[]) w) (hc : P.concrete ty = true) (h1 : t1 < n) (h2 : t2 < n)
    (h : Q (.panic [{ v := .iface ty (.agg #[]), recovered := false }]) ⟨(t2, .u) :: (t1, .u) :: env, box, row, n⟩) :
    Ok P T (.region id #[⟨some t1, .build ty #[], y1, p1, a1, none⟩, ⟨some t2, .makeInterface ty (.tmp t1), y2, p2, a2, none⟩, ⟨none, .panic (.tmp t2), y3, p3, a3, none⟩] false) Q ⟨env, box, row, n⟩ := by
 refine ⟨fun w0 V0 V μ ω a w hS => wp_region_lit ?_⟩
 have hsz : a.tmps.size = n := hS.tmps
 have ps : ∀ {a : Act} {t : Nat} {v : Value}, t < a.tmps.size -> (a.put (some t) v).eval (.tmp t) = v := fun h => by simp [Act.put, Act.eval, Array.getD, h]
 unfold wpList
 rw [if_pos (by simp [Region.wanted])]
 left
 unfold Oper.wp
 have r1 : (execOp a.eval ⟨some t1, .build ty #[], y1, p1, a1, none⟩).run P w = .ok (.value (.agg #[])) w := by
  simp only [execOp, Sem.run_bind, Array.map_empty, List.map_toArray, List.map_nil, hb, Result.andThen_ok, Sem.run_pure]
 rw [r1]
 show wpList P _ _ [_, _] (a.put (some t1) _) w
 unfold wpList
 rw [if_pos (by simp [Region.wanted])]
 left
 unfold Oper.wp
 have r2 : (execOp (a.put (some t1) (.agg #[])).eval ⟨some t2, .makeInterface ty (.tmp t1), y2, p2, a2, none⟩).run P w = .ok (.value (.iface ty (.agg #[]))) w := by
  simp only [execOp, ps (a := a) (t := t1) (v := .agg #[]) (by omega), Sem.run_bind, run_makeInterface w ty _ hc, Result.andThen_ok, Sem.run_pure]
 rw [r2]
 show wpList P _ _ [_] ((a.put (some t1) _).put (some t2) _) w
 unfold wpList
 rw [if_pos (by simp [Region.wanted])]
 left
 unfold Oper.wp
 have r3 : (execOp ((a.put (some t1) (.agg #[])).put (some t2) (.iface ty (.agg #[]))).eval ⟨none, .panic (.tmp t2), y3, p3, a3, none⟩).run P w = .halt (.panic (.iface ty (.agg #[]))) w := by
  have e : ((a.put (some t1) (.agg #[])).put (some t2) (.iface ty (.agg #[]))).eval (.tmp t2) = .iface ty (.agg #[]) := ps (by simp [Act.put]; omega)
  simp [execOp, e, Instr.panic, goPanic]
 rw [r3]
 exact ⟨_, V, μ, ω, h, (hS.put h1 (.imm _ _ (.u _))).put h2 (.imm _ _ (.u _))⟩
end
end Go.Vx
namespace Go.Vx
open Go.RowKit
section
variable {P : Program} {T : Tab} {Q : Exit → St → Prop}
theorem ri_nil {sz : TypeId -> Nat} {V : Vw} (e : TypeId) : RI sz V (.slice none 0 0) (.lst e [] []) :=
 RI.lst e [] [] none ⟨0, 0, none⟩ 0 (fun _ _ => undef) (by simp) (by unfold maxLen; omega) (by simp) (by simp) (by simp) (by simp) (by simp)
theorem Ok.nilC {c : Code} (i j : Nat) (e : TypeId) {env : List (Nat × D)} {box : List (List D)} {cs : List D} {row : Rows} {n : Nat} (hi : box[i]? = some cs) (hj : cs[j]? = some .nilS)
    (h : setK cs j (.lst e [] []) fun cs' => setK box i cs' fun box' => Ok P T c Q ⟨env, box', row, n⟩) : Ok P T c Q ⟨env, box, row, n⟩ := by
 refine ⟨fun w0 V0 V μ ω a w hS => ?_⟩
 obtain ⟨hjl, h⟩ := setK_iff _ _ _ _ h
 obtain ⟨hil, h⟩ := setK_iff _ _ _ _ h
 have hM := hS.mem
 refine h.run w0 V0 V μ ω a w ⟨hS.tmps, hS.defers, hS.env, ?_⟩
 refine ⟨hM.below, hM.vok, hM.vle, hM.vold, by simpa using hM.bl, ?_, hM.rl, hM.hrow, hM.uniq, hM.new, hM.vmut⟩
 intro q g cs2 h1 h2
 by_cases hq : q = i
 . subst hq
   dsimp only at h2
   rw [List.getElem?_set_self hil] at h2
   cases h2
   obtain ⟨us, t', a1, b, c', d, ty⟩ := hM.hbox q g cs h1 hi
   refine ⟨us, t', a1, by simpa using b, c', fun k v d' e1 e2 => ?_, bTy_set ty j rfl⟩
   by_cases hk : k = j
   . subst hk
     rw [List.getElem?_set_self hjl] at e2
     cases e2
     rw [(d k v _ e1 hj).nilS_]
     exact .imm _ _ (ri_nil e)
   . rw [List.getElem?_set_ne (Ne.symm hk)] at e2
     exact d k v d' e1 e2
 . dsimp only at h2
   rw [List.getElem?_set_ne (Ne.symm hq)] at h2
   exact hM.hbox q g cs2 h1 h2
end
end Go.Vx
namespace Go.Vx
open Go.RowKit
section
variable {P : Program} {T : Tab} {Q : Exit → St → Prop}
theorem Ok.into {c : Code} (q r : Nat) {x : TypeId × List (List D)} {env : List (Nat × D)} {box : List (List D)} {row : Rows} {n : Nat} (hr : row[r]? = some (some x)) (hqr : q ≠ r) (hq : q < row.length)
    (h : subE q (fun _ => .u) env fun env => subB q (fun _ => .u) box fun box => subE r (fun m => .own q m) env fun env => subB r (fun m => .own q m) box fun box => setK row q (some x) fun row => setK row r none fun row => Ok P T c Q ⟨env, box, row, n⟩) :
    Ok P T c Q ⟨env, box, row, n⟩ := by
 refine ⟨fun w0 V0 V μ ω a w hS => ?_⟩
 simp only [subE_eq, subB_eq] at h
 obtain ⟨hq1, h⟩ := setK_iff _ _ _ _ h
 obtain ⟨hr1, h⟩ := setK_iff _ _ _ _ h
 have hM := hS.mem
 have hl : ω.length = row.length := hM.rl
 have hrr : r < row.length := (List.getElem?_eq_some_iff.1 hr).1
 obtain ⟨v, hv⟩ : ∃ v, ω[r]? = some v := ⟨_, List.getElem?_eq_getElem (by omega)⟩
 have hω : ∀ p u, p ≠ q -> ω[p]? = some u -> (ω.set q v)[p]? = some u := fun p u hp hu => by rw [List.getElem?_set_ne (Ne.symm hp)]; exact hu
 have hvq : (ω.set q v)[q]? = some v := List.getElem?_set_self (by omega)
 have hvr : (ω.set q v)[r]? = some v := by rw [List.getElem?_set_ne hqr]; exact hv
 have hdead : ∀ m u, RS (szOf T) V μ ω u (.own q m) -> RS (szOf T) V μ (ω.set q v) u .u := fun _ u _ => .imm _ _ (.u u)
 have hconv : ∀ m u, RS (szOf T) V μ (ω.set q v) u (.own r m) -> RS (szOf T) V μ (ω.set q v) u (.own q m) := by
  intro m u hu
  obtain ⟨A, N, c, h1, h2, rfl⟩ := hu.own_
  rw [hvr] at h1
  cases h1
  exact .own _ m A N c hvq h2
 have own : ∀ l g, Own μ (ω.set q v) ((row.set q (some x)).set r none) l g -> ∃ l', Own μ ω row l' g /\ ((l = .inr q /\ l' = .inr r) \/ (l = l' /\ l ≠ .inr r /\ l ≠ .inr q)) := by
  intro l g hl2
  cases l with
  | inl i => exact ⟨.inl i, hl2, .inr ⟨rfl, by simp, by simp⟩⟩
  | inr p =>
   obtain ⟨u, y, h1, h2, h3⟩ := hl2
   by_cases hpr : p = r
   . subst hpr
     rw [List.getElem?_set_self hr1] at h2
     cases h2
   . rw [List.getElem?_set_ne (Ne.symm hpr)] at h2
     by_cases hpq : p = q
     . subst hpq
       rw [hvq] at h1
       cases h1
       exact ⟨.inr r, ⟨v, x, hv, hr, h3⟩, .inl ⟨rfl, rfl⟩⟩
     . rw [List.getElem?_set_ne (Ne.symm hpq)] at h1 h2
       exact ⟨.inr p, ⟨u, y, h1, h2, h3⟩, .inr ⟨rfl, by simpa using hpr, by simpa using hpq⟩⟩
 refine h.run w0 V0 V μ (ω.set q v) a w ⟨hS.tmps, hS.defers, fun t => ?_, ?_⟩
 . show RS _ _ _ _ _ (look ((env.map fun x => (x.1, subDF q (fun _ => .u) x.2)).map fun x => (x.1, subDF r (fun m => .own q m) x.2)) t)
   rw [look_sub, look_sub]
   exact ((hS.env t).sub (fun _ _ h => h) hω hdead).sub (fun _ _ h => h) (fun _ _ _ h => h) hconv
 . refine ⟨hM.below, hM.vok, hM.vle, hM.vold, by simp [hM.bl], ?_, by simp [hl], ?_, ?_, ?_, ?_⟩
   . intro i g c' h1 h2
     simp only [List.getElem?_map, Option.map_eq_some_iff] at h2
     obtain ⟨_, ⟨cs, hcs, rfl⟩, rfl⟩ := h2
     obtain ⟨us, t', a1, b, c'', d, ty⟩ := hM.hbox i g cs h1 hcs
     refine ⟨us, t', a1, by simpa using b, c'', fun j u d' e1 e2 => ?_, bTy_sub (fun _ => rfl) (bTy_sub (fun _ => rfl) ty)⟩
     simp only [List.getElem?_map, Option.map_eq_some_iff] at e2
     obtain ⟨_, ⟨d0, hd0, rfl⟩, rfl⟩ := e2
     exact ((d j u d0 e1 hd0).sub1 (fun _ _ h => h) hω hdead).sub1 (fun _ _ h => h) (fun _ _ _ h => h) hconv
   . intro p u e' ys h1 h2
     by_cases hpr : p = r
     . subst hpr
       rw [List.getElem?_set_self hr1] at h2
       cases h2
     . rw [List.getElem?_set_ne (Ne.symm hpr)] at h2
       by_cases hpq : p = q
       . subst hpq
         rw [hvq] at h1
         cases h1
         rw [List.getElem?_set_self hq1] at h2
         cases h2
         exact hM.hrow r v e' ys hv hr
       . rw [List.getElem?_set_ne (Ne.symm hpq)] at h1 h2
         exact hM.hrow p u e' ys h1 h2
   . intro l l' g h1 h2
     obtain ⟨m, o1, c1⟩ := own l g h1
     obtain ⟨m', o2, c2⟩ := own l' g h2
     have := hM.uniq m m' g o1 o2
     rcases c1 with ⟨e1, e2⟩ | ⟨e1, e2, e3⟩ <;> rcases c2 with ⟨f1, f2⟩ | ⟨f1, f2, f3⟩
     . rw [e1, f1]
     . exact absurd (by rw [f1, <- this, e2]) f2
     . exact absurd (by rw [e1, this, f2]) e2
     . rw [e1, f1, this]
   . intro l g h1
     obtain ⟨m, o1, _⟩ := own l g h1
     exact hM.new m g o1
   . intro p u l hp h1
     obtain ⟨m, o1, _⟩ := own l _ h1
     exact hM.vmut p u m hp o1
end
end Go.Vx
namespace Go.Vx
open Go.RowKit Go.Shelf Go.Proofs
theorem split_one {P : Program} {ρ : Ren} (L : Lays.n146 P ρ) (hi9 : (P.info? (ρ.t 9)).map (fun i => (i.zero, i.size, i.bytes)) = some (some (.string ByteArray.empty), 1, 16)) (s : ByteArray) (c : UInt8) (w : World) (hs : s.size < 4294967281) :
    Calls P (ρ.f 146) #[.string s, .string ⟨#[c]⟩] w fun e w' =>
     e = .returned (.slice (some ⟨w.heap.size, 0, none⟩) (Lib.splitB ⟨#[c]⟩ 0 (Lib.countB s ⟨#[c]⟩) s).length (Lib.splitB ⟨#[c]⟩ 0 (Lib.countB s ⟨#[c]⟩) s).length) /\ w' = w.alloc (.cells ((Lib.splitB ⟨#[c]⟩ 0 (Lib.countB s ⟨#[c]⟩) s).map Value.string).toArray (ρ.t 9)) := by
 have h1 : 1 <= (ByteArray.mk #[c]).size := Nat.le_refl 1
 have hle := Lib.countB_le ⟨#[c]⟩ h1 s.size s (Nat.le_refl _)
 have hlen := Lib.splitB_all ⟨#[c]⟩ h1 0 _ s rfl
 have q : Calls P (ρ.f 221) #[.string s, .string ⟨#[c]⟩, .int .i64 (0 : Nat), .int .i64 (-1)] w _ := Any.strings_genSplit_core { L with } hi9 s ⟨#[c]⟩ 0 (-1) (Lib.countB s ⟨#[c]⟩ + 1) w hs h1 (Nat.zero_le _)
  (fun x cs hx => (Any.strings_Index_one { L with } x c _).mono fun e w' ⟨he, hw⟩ => ⟨he.trans (congrArg (fun i => Ending.returned (Value.int .i64 i)) (Lib.index_one _ _).symm), hw⟩)
  ((Any.strings_Count_one { L with } s c w).mono fun e w' ⟨he, hw⟩ => ⟨by rw [he]; show _ = Ending.returned (Value.int .i64 ((Lib.count s.data.toList [c] : Nat) : Int)); rw [Lib.count_one]; rfl, hw⟩)
  (by decide) (by decide) (by rw [if_pos (by decide)]; omega)
 rw [Nat.add_sub_cancel] at q
 have e2 : Lib.cellsOf (Lib.splitB ⟨#[c]⟩ 0 (Lib.countB s ⟨#[c]⟩) s) (Lib.countB s ⟨#[c]⟩ + 1) = ((Lib.splitB ⟨#[c]⟩ 0 (Lib.countB s ⟨#[c]⟩) s).map Value.string).toArray := by rw [<- hlen]; exact Lib.cellsOf_full _
 rw [e2] at q
 have t3 := L.t3; have t9 := L.t9; have t31 := L.t31
 have a3 := L.a3; have a9 := L.a9; have a31 := L.a31
 have z3 := L.z3; have v3 := L.v3; have z9 := L.z9; have v9 := L.v9; have z31 := L.z31; have v31 := L.v31
 have e221 : ∀ args w, (callFunc (ρ.f 221) args).run P w = .ok (.enter (ρ.f 221) args) w := enters_of L.f221 (by kernel_rfl) rfl
 go_enter L.f146, Body.n146_ntmps ρ
 go_wp2_with (go_at_fn (ρ.f 221); refine q.mono ?_; rintro e w' ⟨rfl, hw⟩; rw [hw])
 go_ret
 rw [hlen]
 exact ⟨rfl, rfl⟩
def cutL (c : UInt8) : List UInt8 -> List (List UInt8)
 | [] => [[]]
 | b :: r => if b = c then [] :: cutL c r else match cutL c r with
  | h :: t => (b :: h) :: t
  | [] => [[b]]
theorem cutL_none {c : UInt8} : ∀ {l : List UInt8}, c ∉ l -> cutL c l = [l]
 | [], _ => rfl
 | b :: r, h => by
  rw [List.mem_cons, not_or] at h
  rw [cutL, if_neg (Ne.symm h.1), cutL_none h.2]
theorem cutL_at {c : UInt8} : ∀ {a : List UInt8} {b : List UInt8}, c ∉ a -> cutL c (a ++ c :: b) = a :: cutL c b
 | [], b, _ => by rw [List.nil_append, cutL, if_pos rfl]
 | x :: a, b, h => by
  rw [List.mem_cons, not_or] at h
  rw [List.cons_append, cutL, if_neg (Ne.symm h.1), cutL_at h.2]
theorem indexByte_cases (c : UInt8) : ∀ l : List UInt8, (c ∉ l /\ Lib.indexByte l c = -1) \/ ∃ a b, l = a ++ c :: b /\ c ∉ a /\ Lib.indexByte l c = a.length
 | [] => .inl ⟨by simp, rfl⟩
 | x :: l => by
  by_cases h : x = c
  . subst h
    exact .inr ⟨[], l, rfl, by simp, by simp [Lib.indexByte]⟩
  . have e : (x == c) = false := beq_eq_false_iff_ne.2 h
    rcases indexByte_cases c l with ⟨h1, h2⟩ | ⟨a, b, h0, h1, h2⟩
    . refine .inl ⟨fun hm => ?_, by simp [Lib.indexByte, e, h2]⟩
      rcases List.mem_cons.1 hm with q | q
      . exact h q.symm
      . exact h1 q
    . refine .inr ⟨x :: a, b, by rw [h0, List.cons_append], fun hm => ?_, ?_⟩
      . rcases List.mem_cons.1 hm with q | q
        . exact h q.symm
        . exact h1 q
      . have h3 : ((a.length : Int) == -1) = false := beq_eq_false_iff_ne.2 (by omega)
        simp [Lib.indexByte, e, h2, h3]
theorem splitK_cut (c : UInt8) : ∀ (k : Nat) (l : List UInt8), l.count c = k -> Lib.splitK [c] 0 k l = cutL c l
 | 0, l, h => by
  rw [cutL_none (List.count_eq_zero.1 h)]
  rfl
 | k + 1, l, h => by
  rcases indexByte_cases c l with ⟨h1, h2⟩ | ⟨a, b, rfl, h1, h2⟩
  . rw [List.count_eq_zero.2 h1] at h; cases h
  . rw [Lib.splitK, Lib.index_one, h2]
    have e1 : ((a.length : Int) == -1) = false := beq_eq_false_iff_ne.2 (by omega)
    rw [if_neg (by rw [e1]; decide)]
    rw [List.count_append, List.count_eq_zero.2 h1, List.count_cons_self] at h
    rw [cutL_at h1, Int.toNat_natCast, Nat.add_zero, List.take_left' rfl, List.length_singleton, splitK_cut c k _ (by
     rw [<- List.drop_drop, List.drop_left' rfl]
     simp
     omega), <- List.drop_drop, List.drop_left' rfl]
    rfl
theorem splitB_cut (s : ByteArray) (c : UInt8) : (Lib.splitB ⟨#[c]⟩ 0 (Lib.countB s ⟨#[c]⟩) s).map (·.data.toList) = cutL c s.data.toList := by
 rw [Lib.splitB_data]
 exact splitK_cut c _ _ (Lib.count_one c _).symm
theorem RI.s_ {sz : TypeId -> Nat} {V : Vw} {v : Value} {l : List UInt8} (h : RI sz V v (.s l)) : v = .string (bstr l) := by cases h; rfl
theorem FSpec.of_texts {P : Program} {T : Tab} {f : FuncId} {ds : List D} {e : TypeId} {pieces : List ByteArray} (hcall : ∀ args w, (callFunc f args).run P w = .ok (.enter f args) w) (hsz : szOf T e = 1) (hm : pieces.length <= maxLen)
    (h : ∀ (V : Vw) (w : World) (args : Array Value), args.size = ds.length -> (∀ (j : Nat) v d, args[j]? = some v -> ds[j]? = some d -> RI (szOf T) V v d) -> Calls P f args w fun q w' =>
     q = .returned (.slice (some ⟨w.heap.size, 0, none⟩) pieces.length pieces.length) /\ w' = w.alloc (.cells (pieces.map Value.string).toArray e)) :
    FSpec P T f ds fun d rows => d = .own 0 pieces.length /\ rows = [some (e, pieces.map fun b => [.s b.data.toList])] := by
 refine ⟨hcall, fun V w args hV hl hR => (h V w args hl hR).mono ?_⟩
 rintro q w' ⟨rfl, rfl⟩
 refine ⟨V, [.slice (some ⟨w.heap.size, 0, none⟩) pieces.length pieces.length], _, _, _, rfl, ⟨rfl, rfl⟩, .own 0 _ _ _ _ rfl (Nat.le_refl _), (Below.refl _ _).alloc (Nat.le_refl _) _, fun _ _ h => h, hV.ext (Ext.alloc _ _), fun _ _ => rfl, rfl, ?_, ?_, ?_⟩
 . intro r v e' xs h1 h2
   cases r with
   | succ r => simp at h1
   | zero =>
    cases h1
    cases h2
    refine ⟨pieces.map Value.string, .of ⟨by rw [hsz, List.length_map, List.length_map, Nat.mul_one], .inr ⟨w.heap.size, pieces.length, _, ?_, Nat.le_refl _, heap_alloc_new w _, by rw [List.length_map]; exact Nat.le_refl _, hm, by rw [hsz]; simp, ?_⟩⟩, ?_, ?_, ?_⟩
    . rw [List.length_map]
    . rw [hsz, List.length_map, Nat.mul_one]
      show List.take _ (pieces.map Value.string) = _
      rw [List.take_of_length_le (by rw [List.length_map]; exact Nat.le_refl _)]
    . intro u hu
      obtain ⟨b, _, rfl⟩ := List.mem_map.1 hu
      rfl
    . intro i rw_ hi
      rw [List.getElem?_map] at hi
      obtain ⟨b, _, rfl⟩ := Option.map_eq_some_iff.1 hi
      rw [hsz]; rfl
    . intro i rw_ j d hi hj
      rw [List.getElem?_map] at hi
      obtain ⟨b, hb, rfl⟩ := Option.map_eq_some_iff.1 hi
      cases j with
      | succ j => simp at hj
      | zero =>
       cases hj
       refine ⟨.string b, by rw [hsz, Nat.mul_one, Nat.add_zero, List.getElem?_map, hb]; rfl, ?_⟩
       have : b = bstr b.data.toList := by simp [bstr]
       conv => lhs; rw [this]
       exact .s _
 . intro r r' v v' x x' g h1 _ h2 _ _ _
   cases r with
   | succ r => simp at h1
   | zero => cases r' with
    | succ r => simp at h2
    | zero => rfl
 . intro p u r v x hp h1 _ hb
   cases r with
   | succ r => simp at h1
   | zero =>
    cases h1
    have h3 := World.block_lt_of_cell? _ _ (hV.2 p u hp)
    simp only [Value.ownBlock, Option.some.injEq] at hb
    omega
theorem split_at {P : Program} {T : Tab} {ρ : Ren} (L : Lays.n146 P ρ) (hi9 : (P.info? (ρ.t 9)).map (fun i => (i.zero, i.size, i.bytes)) = some (some (.string ByteArray.empty), 1, 16))
    (hc : ∀ args w, (callFunc (ρ.f 146) args).run P w = .ok (.enter (ρ.f 146) args) w) (hsz : szOf T (ρ.t 9) = 1) (s : List UInt8) (c : UInt8) (hs : s.length < 4294967281) :
    FSpec P T (ρ.f 146) [.s s, .s [c]] fun d rows => d = .own 0 (cutL c s).length /\ rows = [some ((ρ.t 9), (cutL c s).map fun b => [.s b])] := by
 have e1 : (bstr s).data.toList = s := by simp [bstr]
 have hz : (bstr s).size = s.length := by rw [Lib.size_eq, e1]
 have e0 := splitB_cut (bstr s) c
 rw [e1] at e0
 have hlen : (Lib.splitB ⟨#[c]⟩ 0 (Lib.countB (bstr s) ⟨#[c]⟩) (bstr s)).length = (cutL c s).length := by rw [<- e0, List.length_map]
 have h := FSpec.of_texts (P := P) (T := T) (ds := [.s s, .s [c]]) (e := (ρ.t 9)) (pieces := Lib.splitB ⟨#[c]⟩ 0 (Lib.countB (bstr s) ⟨#[c]⟩) (bstr s)) hc hsz (by
     have := Lib.splitB_length_le ⟨#[c]⟩ 0 (Lib.countB (bstr s) ⟨#[c]⟩) (bstr s)
     have := Lib.countB_le ⟨#[c]⟩ (Nat.le_refl 1) (bstr s).size (bstr s) (Nat.le_refl _)
     unfold maxLen; omega) fun V w args hl hR => by
  match args, hl with
  | ⟨[a, b]⟩, _ =>
   have ha := (hR 0 a _ rfl rfl).s_
   have hb := (hR 1 b _ rfl rfl).s_
   subst ha hb
   exact split_one L hi9 (bstr s) c w (by rw [hz]; exact hs)
 have e3 : ((Lib.splitB ⟨#[c]⟩ 0 (Lib.countB (bstr s) ⟨#[c]⟩) (bstr s)).map fun b => [D.s b.data.toList]) = (cutL c s).map fun b => [.s b] := by rw [<- e0, List.map_map]; rfl
 rw [hlen, e3] at h
 exact h
end Go.Vx
namespace Go.Vx
open Go.RowKit
def memN : List Nat -> Nat -> Bool
 | [], _ => false
 | x :: r, t => match Nat.beq x t with | true => true | false => memN r t
theorem memN_iff : ∀ {l : List Nat} {t : Nat}, memN l t = true ↔ t ∈ l
 | [], t => by simp [memN]
 | x :: r, t => by
  unfold memN
  cases h : Nat.beq x t with
  | true =>
   have := beq_nat_true h
   simp [this]
  | false =>
   have : x ≠ t := fun e => by subst e; simp at h
   simp [memN_iff (l := r) (t := t), Ne.symm this]
def dstsN : List Oper -> List Nat
 | [] => []
 | o :: r => match o.dst with | some t => t :: dstsN r | none => dstsN r
theorem dstsN_mem : ∀ {l : List Oper} {o : Oper} {t : Nat}, o ∈ l -> o.dst = some t -> t ∈ dstsN l
 | [], o, t, h, _ => by simp at h
 | x :: r, o, t, h, hd => by
  unfold dstsN
  rcases List.mem_cons.1 h with rfl | h
  . rw [hd]; simp
  . have := dstsN_mem h hd
    split
    . simp [this]
    . exact this
def hidS (ds : List Nat) : List (Nat × D) -> (List (Nat × D) -> Prop) -> Prop
 | [], K => K []
 | (t, d) :: r, K => match memN ds t with | false => hidS ds r fun r => K ((t, d) :: r) | true => hidS ds r K
def hidSL (ds : List Nat) (l : List (Nat × D)) : List (Nat × D) := l.filter fun x => !memN ds x.1
theorem hidS_eq (ds : List Nat) : ∀ (l : List (Nat × D)) (K : List (Nat × D) -> Prop), hidS ds l K = K (hidSL ds l)
 | [], K => rfl
 | (t, d) :: r, K => by
  simp only [hidS, hidSL]
  cases h : memN ds t with
  | true => simp [hidS_eq ds r, hidSL, h]
  | false => simp [hidS_eq ds r, hidSL, h]
theorem hidSL_look (ds : List Nat) (l : List (Nat × D)) (t : Nat) : look (hidSL ds l) t = if t ∈ ds then .u else look l t := by
 induction l with
 | nil => simp [hidSL, look]
 | cons x l ih =>
  obtain ⟨q, d⟩ := x
  unfold hidSL
  cases h : memN ds q with
  | false =>
   have hnq : q ∉ ds := fun e => by rw [<- memN_iff, h] at e; cases e
   rw [List.filter_cons_of_pos (by simp [h])]
   show look ((q, d) :: hidSL ds l) t = _
   unfold look
   cases hq : Nat.beq q t with
   | true =>
    have := beq_nat_true hq
    subst this
    simp [hnq]
   | false => exact ih
  | true =>
   have hnq : q ∈ ds := memN_iff.1 h
   rw [List.filter_cons_of_neg (by simp [h])]
   show look (hidSL ds l) t = _
   rw [ih]
   split
   . rfl
   . rename_i hnt
     conv => rhs; unfold look
     cases hq : Nat.beq q t with
     | true => have := beq_nat_true hq; subst this; exact absurd hnq hnt
     | false => rfl
def callPanS (P : Program) (T : Tab) (ls : List Nat) (Q : Exit -> St -> Prop) (o : Oper) (s : St) : Prop :=
 match o.guard with
 | some _ => False
 | none => match o.op with
  | .call { callee := .value (.func f), args, argTypes } => expos T s.row argTypes.toList (s.gets args.toList) fun ds => ∃ v, PSpec P T f ds v /\ (match s with | ⟨env, box, row, n⟩ => hidS ls env fun env => Q (.panic [{ v := v, recovered := false }]) ⟨env, box, row, n⟩)
  | _ => False
def panAtS (P : Program) (T : Tab) (l : List Oper) (i : Nat) (Q : Exit -> St -> Prop) (s : St) : Prop := match l[i]? with | some o => callPanS P T (dstsN l) Q o s | none => False
section
variable {w0 w w' : World} {V0 : Fr} {V : Vw} {μ : List Nat} {ω : List Value} {s : St} {a : Act} {P : Program} {T : Tab}
theorem dopsF2_sound (hT : TOk P T) {ops : List Oper} {A : Waits} (hns : Region.noSelect ops.toArray = true) (hA : waitsB ops.toArray A = true) {Q : Exit -> Act -> World -> Prop} (hQ : ∀ c o v a w, o ∈ ops -> Q (.panic c) (Act.put a o.dst v) w -> Q (.panic c) a w) {i0 k : Nat} :
    ∀ (mvs : List Mv) (listed : Array Bool) (ps : Pends) (sps : List (Nat × Src)) (s : St) (V : Vw) (μ : List Nat) (ω : List Value) (a : Act) (w : World) (K : St -> Prop),
     planF ops.toArray i0 mvs listed = true -> Closed ops.toArray listed -> Sim (szOf T) w0 V0 V μ ω s a w -> All2 (PendOK V μ ω w) ps sps -> dops P T ops A mvs sps s K ->
     (∀ s V μ ω a w (next : Act -> World -> Prop), K s -> Sim (szOf T) w0 V0 V μ ω s a w -> wpOp P ops.toArray Q i0 next a w) -> wpAnyP P ops.toArray (befW A) Q (mvs.length + (k + 1)) ps listed a w
 | [], listed, ps, sps, s, V, μ, ω, a, w, K, hB, hcl, hS, hps, h, hq => by
  simp only [planF, beq_iff_eq] at hB
  rw [List.length_nil, Nat.zero_add]
  refine ⟨fun h0 => (by rw [hB] at h0; cases h0), fun j hj => ?_⟩
  rw [hB] at hj
  have hji : j = i0 := by simpa using hj
  subst hji
  exact hq s V μ ω a w _ h hS
 | .q i :: r, listed, ps, sps, s, V, μ, ω, a, w, K, hB, hcl, hS, hps, h, hq => by
  simp only [planF, Bool.and_eq_true] at hB
  obtain ⟨⟨⟨hr, hf⟩, hq1⟩, hB⟩ := hB
  simp only [dops] at h
  rw [List.length_cons, show r.length + 1 + (k + 1) = (r.length + (k + 1)) + 1 by omega]
  cases ho : ops[i]? with
  | none => rw [ho] at h; exact h.elim
  | some o =>
   rw [ho] at h
   dsimp only at h
   have ho' : ops.toArray[i]? = some o := by simpa using ho
   rw [ho'] at hq1
   have hri : i ∈ Region.ready .any ops.toArray listed := by simpa using hr
   have hall : ∀ x ∈ ps, x.2 w := fun x hx => let ⟨y, hy⟩ := hps.left x hx; hy.mono_
   rcases wantK_sound (o := o) hS h with ⟨hw, s1, h, hS⟩ | ⟨hw, s1, h, hS⟩
   . obtain ⟨d, v, s2, h, hr2, hS2, p, n, hsrc, hq2⟩ := qop_sound hT hS h
     obtain ⟨s3, h, hS3⟩ := putK_sound hS2 hr2 h
     refine wpAnyP_first (C := KeepN p n w) (v := v) (fun i j => befW_spec hA i j) ho' (Region.noSelect_spec hns) (fun c a w hc => hQ _ _ _ _ _ (List.mem_of_getElem? ho) hc) _ ps listed a w hcl (Region.free_spec ho' hf) hri
      (.inl ⟨hw, fun w' hk => quiet_value (by simpa using hq1) (hq2 w' ?_)⟩) (fun _ _ _ h => h) hall ?_
     . unfold QR
       split
       . exact hk
       . rename_i heq; simp [isQ, heq] at hq1
       . rename_i heq; simp [isQ, heq] at hq1
       . trivial
     . exact dopsF2_sound hT hns hA hQ r _ _ _ s3 V μ ω _ w K hB (hcl.set hri) hS3 (.cons ⟨rfl, p, n, w, rfl, hsrc, fun _ _ _ h => h⟩ hps) h hq
   . obtain ⟨s3, h, hS3⟩ := putK_sound hS (v := undef) (d := .tup []) (RS.tup [] #[] rfl (fun j v d h => by simp at h)) h
     refine wpAnyP_first (C := KeepN ⟨0, 0, none⟩ 0 w) (v := undef) (fun i j => befW_spec hA i j) ho' (Region.noSelect_spec hns) (fun c a w hc => hQ _ _ _ _ _ (List.mem_of_getElem? ho) hc) _ ps listed a w hcl (Region.free_spec ho' hf) hri
      (.inr ⟨hw, rfl⟩) (fun _ _ _ h => h) hall ?_
     exact dopsF2_sound hT hns hA hQ r _ _ _ s3 V μ ω _ w K hB (hcl.set hri) hS3 (.cons ⟨rfl, ⟨0, 0, none⟩, 0, w, rfl, SrcP.zero _, fun _ _ _ h => h⟩ hps) h hq
 | .l i :: r, listed, ps, sps, s, V, μ, ω, a, w, K, hB, hcl, hS, hps, h, hq => by
  simp only [planF, Bool.and_eq_true, beq_iff_eq] at hB
  obtain ⟨hr, hB⟩ := hB
  simp only [dops] at h
  rw [List.length_cons, show r.length + 1 + (k + 1) = (r.length + (k + 1)) + 1 by omega]
  cases ho : ops[i]? with
  | none => rw [ho] at h; exact h.elim
  | some o =>
   rw [ho] at h
   dsimp only at h
   have ho' : ops.toArray[i]? = some o := by simpa using ho
   have hri : i ∈ Region.ready .any ops.toArray listed := by rw [hr]; simp
   refine ⟨fun h0 => (by rw [hr] at h0; cases h0), fun j hj => ?_⟩
   rw [hr] at hj
   have hji : j = i := by simpa using hj
   subst hji
   unfold wpOp
   rw [ho']
   dsimp only
   rcases wantK_sound (o := o) hS h with ⟨hw, s1, h, hS⟩ | ⟨hw, s1, h, hS⟩
   . rw [if_pos hw]
     obtain ⟨h, hst⟩ := clearK_step hS.mem hps h
     refine .inl (dop_sound hT hS h _ _ fun d v s2 V2 μ2 ω2 w2 hk hr2 hS2 hstep => ?_)
     obtain ⟨h1, h2⟩ := hst _ _ _ _ hstep
     obtain ⟨s3, h, hS3⟩ := putK_sound hS2 hr2 hk
     exact ⟨h1, dopsF2_sound hT hns hA hQ r _ _ _ s3 _ _ _ _ w2 K hB (hcl.set hri) hS3 h2 h hq⟩
   . rw [if_neg (by rw [hw]; simp)]
     obtain ⟨s3, h, hS3⟩ := putK_sound hS (v := undef) (d := .tup []) (RS.tup [] #[] rfl (fun j v d h => by simp at h)) h
     exact ⟨fun x hx _ => let ⟨y, hy⟩ := hps.left x hx; hy.mono_, dopsF2_sound hT hns hA hQ r _ _ _ s3 _ _ _ _ w K hB (hcl.set hri) hS3 (hps.filter fun _ _ h => h.1) h hq⟩
theorem Ok.region_planpanS (hT : TOk P T) (hm : P.follows .mixedOrders = true) {s : St} {Q : Exit -> St -> Prop} {id : Nat} {l : List Oper} (A : Waits) (mvs : List Mv) (i0 : Nat) (hB : planPOk l.toArray A mvs i0 = true)
    (h : dops P T l A mvs [] s (panAtS P T l i0 Q)) : Ok P T (.region id l.toArray true) Q s := by
 refine ⟨fun w0 V0 V μ ω a w hS => ?_⟩
 simp only [planPOk, Bool.and_eq_true] at hB
 obtain ⟨⟨⟨hns, hA⟩, hlen⟩, hB⟩ := hB
 have hlt : mvs.length < l.toArray.size := blt_true hlen
 have hd : Ext w { w with drawn := w.drawn + 1 } := (Below.refl w.heap.size w).drew
 refine wp_mono (Q := fun e a' w' => ∃ c, e = .panic c /\ ∃ s' V' μ' ω', Q e s' /\ (∀ t, t ∈ dstsN l -> look s'.env t = .u) /\ Sim (szOf T) w0 V0 V' μ' ω' s' a' w') (wp_region_any hm ?_) ?_
 . refine wpAny_of_P (bef := befW A) _ [] _ _ _ ?_
   have hz : ∀ m j : Nat, (Array.replicate m false).getD j false = false := fun m j => by
    rcases Nat.lt_or_ge j m with h | h <;> simp [h]
   have hw := dopsF2_sound hT hns hA (Q := fun e a' w' => ∃ c, e = .panic c /\ ∃ s' V' μ' ω', Q e s' /\ (∀ t, t ∈ dstsN l -> look s'.env t = .u) /\ Sim (szOf T) w0 V0 V' μ' ω' s' a' w')
    (by
     rintro c o v a w ho ⟨_, _, s', V', μ', ω', hq, hhid, hS'⟩
     refine ⟨c, rfl, s', V', μ', ω', hq, hhid, ⟨?_, ?_, fun t => ?_, hS'.mem⟩⟩
     . have := hS'.tmps
       cases hd : o.dst <;> simpa [Act.put, hd] using this
     . have := hS'.defers
       cases hd : o.dst <;> simpa [Act.put, hd] using this
     . by_cases ht : t ∈ dstsN l
       . rw [hhid t ht]; exact .imm _ _ (.u _)
       . have := hS'.env t
         cases hd : o.dst with
         | none => rw [hd] at this; exact this
         | some d =>
          have hne : d ≠ t := fun e => ht (by rw [<- e]; exact dstsN_mem ho hd)
          rw [hd] at this
          unfold slotV at this ⊢
          split
          . rename_i hlt
            rw [if_pos hlt] at this
            have e1 : (a.put (some d) v).tmps.getD t undef = a.tmps.getD t undef := by
             show (a.tmps.setIfInBounds d v).getD t undef = _
             rw [Array.getD_eq_getD_getElem?, Array.getD_eq_getD_getElem?, Array.getElem?_setIfInBounds_ne hne]
            rw [<- e1]
            exact this
          . rename_i hlt
            rw [if_neg hlt] at this
            exact this) (i0 := i0) (k := l.toArray.size - mvs.length - 1) mvs _ [] [] s V μ ω a _ _ hB
    (fun j o _ hl => by rw [hz] at hl; cases hl) (hS.ext hd) .nil h ?_
   . rw [show mvs.length + (l.toArray.size - mvs.length - 1 + 1) = l.toArray.size by omega] at hw
     exact hw
   . intro s V μ ω a w next hk hS
     unfold panAtS at hk
     split at hk
     case h_2 => exact hk.elim
     rename_i o ho
     obtain ⟨dst, op, type, pos, after, guard⟩ := o
     unfold callPanS at hk
     split at hk
     . exact hk.elim
     rename_i hg
     dsimp only at hg
     subst hg
     split at hk
     case h_2 => exact hk.elim
     rename_i f args argTypes hop
     dsimp only at hop
     subst hop
     obtain ⟨es, ⟨v, hp, hq⟩, hes, hri⟩ := expos_sound hS.mem argTypes.toList (s.gets args.toList) (args.toList.map a.eval) _ (by simp [St.gets]) (hS.gets args.toList).2 hk
     unfold wpOp
     have ho' : l.toArray[i0]? = some ⟨dst, .call ⟨.value (.func f), args, argTypes⟩, type, pos, after, none⟩ := by simpa using ho
     rw [ho']
     dsimp only
     rw [if_pos (by simp [Region.wanted])]
     left
     unfold Oper.wp
     have hrun : (execOp a.eval ⟨dst, .call ⟨.value (.func f), args, argTypes⟩, type, pos, after, none⟩).run P w = .ok (.enter f (args.map a.eval)) w := by
      simp only [execOp, resolve, Act.eval, Deferred.ofValue, invoke, Sem.run_bind, Sem.run_pure, Result.andThen_ok]
      rw [show (#[] ++ args.map a.eval) ++ #[] = args.map a.eval by simp, hp.call]
     rw [hrun]
     show Calls P f (args.map a.eval) w _
     have hcalls := hp.run (heapV w) w (args.map a.eval) (.heap hS.mem.vok.gl (Ext.refl w)) (by simp [hes, St.gets]) (fun j v d h1 h2 => hri j v d (by simpa using h1) h2)
     refine hcalls.mono ?_
     rintro e w' ⟨rfl, hb⟩
     obtain ⟨env, box, row, n⟩ := s
     dsimp only at hq
     rw [hidS_eq] at hq
     have hS2 := hS.ext hb
     refine ⟨_, rfl, ⟨hidSL (dstsN l) env, box, row, n⟩, V, μ, ω, hq, fun t ht => by rw [hidSL_look, if_pos ht], ⟨hS2.tmps, hS2.defers, fun t => ?_, hS2.mem⟩⟩
     show RS _ _ _ _ (slotV V0 n a t) (look (hidSL (dstsN l) env) t)
     rw [hidSL_look]
     split
     . exact .imm _ _ (.u _)
     . exact hS2.env t
 . rintro e a' w' ⟨c, rfl, s', V', μ', ω', hk, _, hS'⟩
   exact ⟨s', V', μ', ω', hk, hS'⟩
end
section
variable {P : Program} {T : Tab}
theorem FSpec.of_deferK (k : Nat) (hT : TOk P T) {f : FuncId} {fn : Func} {c : Code} (hf : P.funcs[f]? = some fn) (hb : fn.body = some c) (hcall : ∀ args w, (callFunc f args).run P w = .ok (.enter f args) w) {ds : List D} {R : D -> Rows -> Prop} (hn : ds.length <= fn.ntmps)
    {g : FuncId} {pv : Value} {z1 z2 : List Value} (hD : DefSpec P g pv z1 z2) {zd1 zd2 : List D} (hz1 : z1.map ofVal = zd1) (hz2 : z2.map ofVal = zd2) (ho1 : ∀ v ∈ z1, v.oneCell' = true) (ho2 : ∀ v ∈ z2, v.oneCell' = true) {id t p q : Nat} {ty1 ty2 : TypeId} {p1 p2 : String} {e1 e2 : Array Edge} {Bs : List Code}
    (hflat : (flatC c).drop k = .region id #[⟨some t, .makeFunc (.func g) #[] #[.tmp p, .tmp q], ty1, p1, e1, none⟩, ⟨none, .defer ⟨.value (.tmp t), #[], #[]⟩, ty2, p2, e2, none⟩] false :: Bs)
    (h : OkL P T ((flatC c).take k) (defA P T fn R pv zd1 zd2 t p q Bs) ⟨envOf 0 ds, [], [], fn.ntmps⟩) : FSpec P T f ds R :=
 FSpec.of_defer hT hf hb hcall hn hz1 hz2 ho1 ho2 hD (by rw [<- hflat, List.take_append_drop]) h
end
end Go.Vx
namespace Go.Vx
open Go.RowKit
variable {P : Program} {T : Tab} {s : St}
theorem Ok.seqV {c1 c2 : Code} {Q : Exit -> St -> Prop} {ι : Type} (L Cs : List Nat) (k0 kb0 k kb : Nat) (C : ι -> List D) (B : ι -> List (List D) -> List (List D)) (R : ι -> Rows -> Rows) (I : ι -> Prop)
    (h : keepK L k0 kb0 s fun s0 => match s0 with
     | ⟨env, box, row, n⟩ => (Ok P T c1 (thenQ (fun s' => ∃ x, I x /\ keepK (catL Cs L) k kb s' fun s1 => s1 = ⟨envCat Cs (C x) env, B x box, R x row, n⟩) Q) s) /\
      ∀ x, I x -> envCatK Cs (C x) env fun env' => Ok P T c2 Q ⟨env', B x box, R x row, n⟩) : Ok P T (.seq c1 c2) Q s := by
 obtain ⟨⟨env, box, row, n⟩, h1, h2⟩ := keepK_some h
 exact Ok.seqK (catL Cs L) k kb (fun x => ⟨envCat Cs (C x) env, B x box, R x row, n⟩) I h1 fun x hx => by
  have := h2 x hx
  rwa [envCatK_eq] at this
theorem FSpec.mono {f : FuncId} {ds : List D} {R R' : D -> Rows -> Prop} (h : FSpec P T f ds R) (hR : ∀ d rows, R d rows -> R' d rows) : FSpec P T f ds R' :=
 ⟨h.1, fun V w args a b c => (h.2 V w args a b c).mono fun e w' ⟨V', ω, row, v, d, h1, h2, h3⟩ => ⟨V', ω, row, v, d, h1, hR _ _ h2, h3⟩⟩
end Go.Vx
namespace Go.Vx
open Go.RowKit
variable {P : Program} {T : Tab}
inductive Pk (box : List (List D)) : D -> D -> Prop
 | i (k n) : Pk box (.i k n) (.i k n)
 | s (l) : Pk box (.s l) (.s l)
 | bp (i off cs) (h : box[i]? = some cs) (hg : ∀ d ∈ cs.drop off, ∃ k n, d = .i k n) : Pk box (.bp i off) (.ep (cs.drop off))
theorem RS.i_ri {sz : TypeId -> Nat} {V V' : Vw} {μ : List Nat} {ω : List Value} {v : Value} {k : IntKind} {n : Int} (h : RS sz V μ ω v (.i k n)) : RI sz V' v (.i k n) /\ v.oneCell' = true := by
 cases h with
 | imm _ _ h => cases h; exact ⟨.i _ _, rfl⟩
theorem effK.peek {s : St} {f : FuncId} {ds es : List D} {K : D -> St -> Prop} {R : D -> Rows -> Prop} (hl : es.length = ds.length) (hp : ∀ (j : Nat) d e, ds[j]? = some d -> es[j]? = some e -> Pk s.box d e) (hf : FSpec P T f es R)
    (h : ∀ d rows, R d rows -> gRowsP rows /\ boolP d.ownOrG2 (match s with
     | ⟨env, box, row, n⟩ => shiftD row.length d fun d => catK row rows fun row => K d ⟨env, box, row, n⟩)) : effK P T s f ds K := by
 refine ⟨hf.call, fun w0 V0 V μ ω a w vs hS hvl hvR => ?_⟩
 have hri : ∀ (j : Nat) v e, vs[j]? = some v -> es[j]? = some e -> RI (szOf T) (heapV w) v e := by
  intro j v e h1 h2
  have hj : j < ds.length := by rw [<- hl]; exact (List.getElem?_eq_some_iff.1 h2).1
  have h3 := List.getElem?_eq_getElem hj
  have hr := hvR j v _ h1 h3
  generalize ds[j] = d0 at h3 hr
  cases hp j _ e h3 h2 with
  | i k n => exact hr.i_ri.1
  | s l => cases hr with
   | imm _ _ hr => cases hr; exact .s _
  | bp i off cs hb hg =>
   obtain ⟨g, rfl, hμ⟩ : ∃ g, v = .pointer (some ⟨g, off, none⟩) /\ μ[i]? = some g := by
    cases hr with
    | imm _ _ hr => cases hr
    | bp _ _ g h => exact ⟨g, rfl, h⟩
   obtain ⟨us, t, hu, hs, ho, hR', _⟩ := hS.mem.hbox i g cs hμ hb
   have key : ∀ (j : Nat) d, (cs.drop off)[j]? = some d -> ∃ hj : off + j < us.size, RI (szOf T) (heapV w) us[off + j] d /\ us[off + j].oneCell' = true := by
    intro j d hj
    have hj2 : cs[off + j]? = some d := by rw [List.getElem?_drop] at hj; exact hj
    have hlt : off + j < us.size := by rw [hs]; exact (List.getElem?_eq_some_iff.1 hj2).1
    obtain ⟨k, n, rfl⟩ := hg d (List.mem_of_getElem? hj)
    exact ⟨hlt, (hR' (off + j) us[off + j] _ (by simp [hlt]) hj2).i_ri⟩
   refine .ep _ ⟨g, off, none⟩ (fun j => us.getD (off + j) undef) (fun j d hj => ?_) (fun j d hj => ?_)
   . obtain ⟨hlt, h1, h2⟩ := key j d hj
     have hgd : us.getD (off + j) undef = us[off + j] := by simp [Array.getD, hlt]
     rw [hgd]
     refine ⟨?_, h2⟩
     have ha : (⟨g, off, none⟩ : Addr).add j = ⟨g, off + j, none⟩ := by cases j <;> simp [Addr.add]
     show w.cell? _ = _
     rw [ha]
     simp [World.cell?, hu, hlt]
   . obtain ⟨hlt, h1, h2⟩ := key j d hj
     have hgd : us.getD (off + j) undef = us[off + j] := by simp [Array.getD, hlt]
     rw [hgd]
     exact h1
 have hcalls := hf.run (heapV w) w vs.toArray (.heap hS.mem.vok.gl (Ext.refl w)) (by simp [hl, hvl]) (fun j v d h1 h2 => hri j v d (by simpa using h1) h2)
 refine hcalls.mono ?_
 rintro e w'' ⟨V', ω0, row0, v, d, rfl, hR, hrs, hres⟩
 obtain ⟨hg, hk⟩ := h d row0 hR
 obtain ⟨hd, hk⟩ := boolP_iff.1 hk
 have hres2 := hres.less hS.mem.vok hg
 have hrs2 := hrs.ownOrG2 (V' := fun p => if p.block < w.heap.size then V p else V' p) hd
 obtain ⟨env, box, row, n⟩ := s
 have hM := hS.mem.call hres2
 have hl : row.length = ω.length := hS.mem.rl.symm
 dsimp only at hk
 rw [hl] at hk
 obtain ⟨d', hk, hr⟩ := shiftD_sound (μ := μ) (ω' := ω ++ ω0) (VLe.refl _) (fun r u hu => by rw [List.getElem?_append_right (by omega), Nat.add_sub_cancel]; exact hu) hrs2 hk
 rw [catK_eq] at hk
 exact ⟨v, d', _, _, μ, ω ++ ω0, rfl, hk, hr, ⟨hS.tmps, hS.defers.ext hres2.below, fun t => (hS.env t).mono hres2.le (.refl μ) (.append _ _), hM⟩, hres2.le, .refl _, .append _ _, fun q v hq => by rw [hres2.below.cell (World.block_lt_of_cell? _ _ hq)]; exact hq⟩
end Go.Vx
namespace Go.Vx
open Go.RowKit
def fen (ρ : Option Nat) : Fence := { Fence.wide with round := ρ }
section
variable {P : Program} {T : Tab} {s : St} {Q : Exit → St → Prop} {w0 : World} {V0 : Fr}
theorem opIn_of {ρ : Option Nat} {o : Oper} {a : Act} {w : World} {next : Act -> World -> Prop} {R : Exit -> Act -> World -> Prop} (h : o.wp P a w next R) (hd : ∀ c, o.op ≠ .defer c) : o.wpIn (fen ρ) 0 P a w next R := by
 refine ⟨fun _ _ => trivial, ?_⟩
 show o.uponIn (fen ρ) 0 P a next R ((o.semAt ρ a.eval).run P w)
 rw [Oper.semAt_eq ρ _ _ hd]
 unfold Oper.wp at h
 generalize (execOp a.eval o).run P w = r at h
 unfold Oper.upon at h
 unfold Oper.uponIn
 split at h
 . exact h
 . exact h
 . exact h
 . refine ⟨(fun hh => by cases hh), ?_⟩
   exact (callsIn_wide (n := 0)).2 h
 . refine ⟨(fun hh => by cases hh), ?_⟩
   intro c cs _
   obtain ⟨v, w', hr, hs⟩ := h c cs
   exact ⟨v, w', hr, stepsIn_wide.2 hs⟩
 . exact h
 . exact h.elim
theorem vop_nodefer {o : Oper} {K : D -> St -> Prop} (h : vop P T s o K) : ∀ c, o.op ≠ .defer c := by
 intro c hc
 unfold vop at h
 rw [hc] at h
 dsimp only at h
 unfold qop at h
 rw [hc] at h
 exact h
theorem vopsIn_sound (hT : TOk P T) {ρ : Option Nat} {ops : List Oper} {R : Exit -> Act -> World -> Prop} : ∀ (rest : List Oper) (s : St) (V : Vw) (μ : List Nat) (ω : List Value) (a : Act) (w : World) (K : St -> Prop), Sim (szOf T) w0 V0 V μ ω s a w ->
    vops P T ops rest s K -> (∀ s V μ ω a w, K s -> Sim (szOf T) w0 V0 V μ ω s a w -> R .normal a w) -> wpListIn (fen ρ) 0 P ops.toArray R rest a w
 | [], s, V, μ, ω, a, w, K, hS, h, hq => hq s V μ ω a w h hS
 | o :: rest, s, V, μ, ω, a, w, K, hS, h, hq => by
  simp only [vops] at h
  unfold wpListIn
  rcases wantK_sound hS h with ⟨hw, s1, h, hS⟩ | ⟨hw, s1, h, hS⟩
  . rw [if_pos hw]
    refine opIn_of (vop_sound hT hS h _ _ fun d v s2 V2 μ2 ω2 w2 hk hr hS2 _ => ?_) (vop_nodefer h)
    obtain ⟨s3, h, hS3⟩ := putK_sound hS2 hr hk
    exact vopsIn_sound hT rest s3 _ _ _ _ _ K hS3 h hq
  . rw [if_neg (by rw [hw]; simp)]
    obtain ⟨s3, h, hS3⟩ := putK_sound hS (v := undef) (d := .tup []) (RS.tup [] #[] rfl (fun j v d h => by simp at h)) h
    exact ⟨fun _ _ => trivial, vopsIn_sound hT rest s3 _ _ _ _ _ K hS3 h hq⟩
structure OkR (P : Program) (T : Tab) (c : Code) (Q : Exit -> St -> Prop) (s : St) : Prop where
 run : ∀ (l : Nat) (w0 : World) (V0 : Fr) (V : Vw) (μ : List Nat) (ω : List Value) (a : Act) (w : World), (∃ r0, (l, Obj.loop r0) ∈ V0.kp) -> Sim (szOf T) w0 V0 V μ ω s a w ->
  c.wpIn (fen (some l)) 0 P (fun e a' w' => ∃ s' V' μ' ω', Q e s' /\ Sim (szOf T) w0 V0 V' μ' ω' s' a' w') a w
theorem OkR.mono {c : Code} {Q' : Exit -> St -> Prop} (h : OkR P T c Q s) (hq : ∀ e s, Q e s -> Q' e s) : OkR P T c Q' s := by
 refine ⟨fun l w0 V0 V μ ω a w hl hS => wpIn_mono (h.run l w0 V0 V μ ω a w hl hS) ?_⟩
 rintro e a' w' ⟨s', V', μ', ω', hk, hS'⟩
 exact ⟨s', V', μ', ω', hq _ _ hk, hS'⟩
theorem OkR.region (hT : TOk P T) {id : Nat} {l : List Oper} (h : vops P T l l s (Q .normal)) : OkR P T (.region id l.toArray false) Q s :=
 ⟨fun _ w0 V0 V μ ω a w _ hS => wpIn_region_lit (vopsIn_sound hT l s V μ ω a w _ hS h fun s' V' μ' ω' a' w' hk hS' => ⟨s', V', μ', ω', hk, hS'⟩)⟩
theorem OkR.seq {x y : Code} (h : OkR P T x (thenQ (OkR P T y Q) Q) s) : OkR P T (.seq x y) Q s := by
 refine ⟨fun l w0 V0 V μ ω a w hl hS => wpIn_seq (wpIn_mono (h.run l w0 V0 V μ ω a w hl hS) ?_)⟩
 rintro e a' w' ⟨s', V', μ', ω', hk, hS'⟩
 cases e with
 | normal => exact OkR.run hk l w0 V0 V' μ' ω' a' w' hl hS'
 | _ => exact ⟨s', V', μ', ω', hk, hS'⟩
theorem OkR.skip (h : Q .normal s) : OkR P T .skip Q s := ⟨fun _ _ _ V μ ω _ _ _ hS => wpIn_skip ⟨s, V, μ, ω, h, hS⟩⟩
theorem OkR.ret (h : Q .ret s) : OkR P T .ret Q s := ⟨fun _ _ _ V μ ω _ _ _ hS => wpIn_ret ⟨s, V, μ, ω, h, hS⟩⟩
theorem OkR.exit {id : Nat} (h : Q (.exit id) s) : OkR P T (.exit id) Q s := ⟨fun _ _ _ V μ ω _ _ _ hS => wpIn_exit ⟨s, V, μ, ω, h, hS⟩⟩
theorem OkR.block {id : Nat} {c : Code} (h : OkR P T c (blockQ id Q) s) : OkR P T (.block id c) Q s := by
 refine ⟨fun l w0 V0 V μ ω a w hl hS => wpIn_block (wpIn_mono (h.run l w0 V0 V μ ω a w hl hS) ?_)⟩
 rintro e a' w' ⟨s', V', μ', ω', hk, hS'⟩
 cases e with
 | exit id' =>
  simp only [blockQ] at hk
  simp only [Exit.inBlock]
  split at hk
  . rename_i hb
    rw [if_pos (beq_nat_true hb)]
    exact ⟨s', V', μ', ω', hk, hS'⟩
  . rename_i hb
    rw [if_neg (by rintro rfl; rw [Nat.beq_refl] at hb; cases hb)]
    exact ⟨s', V', μ', ω', hk, hS'⟩
 | _ => exact ⟨s', V', μ', ω', hk, hS'⟩
theorem OkR.cond {c : Operand} {x y : Code} (h : condK s c (OkR P T x Q) (OkR P T y Q)) : OkR P T (.cond c x y) Q s := by
 refine ⟨fun l w0 V0 V μ ω a w hl hS => ?_⟩
 have hc := hS.get c
 unfold condK at h
 split at h
 . rename_i hd; rw [hd] at hc; exact wpIn_cond_true hc.tt_ (h.run l w0 V0 V μ ω a w hl hS)
 . rename_i hd; rw [hd] at hc; exact wpIn_cond_false hc.ff_ (h.run l w0 V0 V μ ω a w hl hS)
 . rename_i p hd
   rw [hd] at hc
   obtain ⟨b, hb, hbp⟩ := hc.bool
   cases b with
   | true => exact wpIn_cond_true hb ((h.1 (hbp.1 rfl)).run l w0 V0 V μ ω a w hl (hS.know c (by rw [hb]; exact .imm _ _ .tt)))
   | false => exact wpIn_cond_false hb ((h.2 (fun hp => by simpa using hbp.2 hp)).run l w0 V0 V μ ω a w hl (hS.know c (by rw [hb]; exact .imm _ _ .ff)))
 . exact h.elim
end
end Go.Vx
namespace Go.Vx
open Go.RowKit
section
variable {P : Program} {T : Tab}
def wpG (P : Program) (G : FuncId -> Prop) (c : Code) (Q : Exit -> Act -> World -> Prop) (a : Act) (w : World) : Prop :=
 ∀ (b : Frame) (k : List Item) (cs : List Frame), G b.fn -> ∃ e a' w', Q e a' w' /\ Arrives P (lone (b.at a (.code c :: k)) cs w) b k cs e a' w'
variable {G : FuncId → Prop} {Q : Exit → Act → World → Prop} {a : Act} {w : World}
theorem wpG_of {c : Code} (h : c.wp P Q a w) : wpG P G c Q a w := fun b k cs _ => h b k cs
theorem wpG_mono {c : Code} {Q' : Exit -> Act -> World -> Prop} (h : wpG P G c Q a w) (hq : ∀ e a w, Q e a w -> Q' e a w) : wpG P G c Q' a w :=
 fun b k cs hG => let ⟨e, a', w', q, r⟩ := h b k cs hG; ⟨e, a', w', hq _ _ _ q, r⟩
theorem wpG_seq {x y : Code} (h : wpG P G x (Exit.then (wpG P G y Q) Q) a w) : wpG P G (Code.seq x y) Q a w := by
 intro b k cs hG
 obtain ⟨e, a₁, w₁, hq, harr⟩ := h b (.code y :: k) cs hG
 cases e with
 | normal =>
  obtain ⟨e₂, a₂, w₂, hq₂, harr₂⟩ := hq b k cs hG
  exact ⟨e₂, a₂, w₂, hq₂, .of_steps (.head step_seq harr) harr₂⟩
 | exit id => exact ⟨_, a₁, w₁, hq, .of_steps (.one step_seq) (.pass (x := .code y) rfl (fun _ _ => .inl (by simp)) harr)⟩
 | goto l => exact ⟨_, a₁, w₁, hq, .of_steps (.one step_seq) (.pass (x := .code y) rfl (fun _ _ => .inl (by simp)) harr)⟩
 | ret => exact ⟨_, a₁, w₁, hq, .of_steps (.one step_seq) (.pass (x := .code y) rfl (fun _ _ => .inl (by simp)) harr)⟩
 | panic ch => exact ⟨_, a₁, w₁, hq, .of_steps (.one step_seq) (.pass (x := .code y) rfl (fun _ _ => .inl (by simp)) harr)⟩
 | outgrown => exact ⟨_, a₁, w₁, hq, .of_steps (.one step_seq) (.pass (x := .code y) rfl (fun _ _ => .inl (by simp)) harr)⟩
theorem wpG_block {id : Nat} {c : Code} (h : wpG P G c (Exit.inBlock id Q) a w) : wpG P G (Code.block id c) Q a w := by
 intro b k cs hG
 obtain ⟨e, a₁, w₁, hq, harr⟩ := h b (.inBlock id :: k) cs hG
 cases e with
 | normal => exact ⟨.normal, a₁, w₁, hq, .head step_block (Steps.trans harr (.one step_inBlock))⟩
 | exit id' =>
  by_cases hid : id' = id
  . simp only [Exit.inBlock, hid, if_true] at hq
    exact ⟨.normal, a₁, w₁, hq, .head step_block (harr k (by simp [exitTo, hid]))⟩
  . simp only [Exit.inBlock, hid, if_false] at hq
    refine ⟨.exit id', a₁, w₁, hq, fun k' hk => .head step_block (harr k' ?_)⟩
    have : (id == id') = false := by simp; exact fun h => hid h.symm
    simp [exitTo, this, hk]
 | goto l => exact ⟨_, a₁, w₁, hq, fun k' hk => .head step_block (harr k' (by simp [gotoIn, hk]))⟩
 | ret => exact ⟨_, a₁, w₁, hq, .of_steps (.one step_block) harr⟩
 | panic ch => exact ⟨_, a₁, w₁, hq, .of_steps (.one step_block) harr⟩
 | outgrown => exact ⟨_, a₁, w₁, hq, .of_steps (b := b) (k := k) (cs := cs) (e := .outgrown) (.one step_block) harr⟩
end
end Go.Vx
namespace Go.Vx
open Go.RowKit
section
variable {P : Program} {T : Tab}
structure Yields (P : Program) (T : Tab) (l B : Nat) (xs : List (List D)) (J : Option Nat -> Vw -> World -> Prop) (Jp : List PanicEntry -> World -> Prop) : Prop where
 vok : ∀ k V W, J k V W -> VOk V W
 size : ∀ k V W, J k V W -> B <= W.heap.size
 grow : ∀ k V V' W W', J k V W -> Ext W W' -> VLe V V' -> VOk V' W' -> (∀ p v, V' p = some v -> V p = some v \/ W.heap.size <= p.block) -> J k V' W'
 shut : ∀ k V W D, J k V W -> B <= D -> W.heap[D]? = some (.deferred (some [])) -> J k V (W.putObj D (.deferred none))
 shutp : ∀ c W D, Jp c W -> B <= D -> W.heap[D]? = some (.deferred (some [])) -> Jp c (W.putObj D (.deferred none))
 round : ∀ (k : Nat) x V W (vs : List Value), xs[k]? = some x -> J (some k) V W -> vs.length = x.length -> (∀ (j : Nat) v d, vs[j]? = some v -> x[j]? = some d -> RI (szOf T) V v d) ->
  ∀ E : List (Nat × Obj), (∀ x ∈ E, B <= x.1 /\ W.heap[x.1]? = some x.2 /\ noC x.2) ->
  ∃ fn tmps assign body, (Instr.yield l vs.toArray).run P W = .ok (.round l fn tmps assign body) W /\
   RoundIn Fence.wide 0 P l fn tmps assign body W fun e W' => (∀ x ∈ E, W'.heap[x.1]? = some x.2) /\
    ((∃ V', VLe V V' /\ ((e = .returned (.bool true) /\ J (some (k + 1)) V' W') \/ (e = .returned (.bool false) /\ J none V' W'))) \/ ∃ c, e = .panicked c /\ Jp c W')
variable {w0 w w' : World} {V V' : Vw} {μ : List Nat} {ω : List Value} {box : List (List D)} {row : Rows} {s : St} {a : Act} {sz : TypeId → Nat}
theorem Mem.grow {F : Fr} (h : Mem sz w0 F V μ ω box row w) (he : Ext w w') (hV : VLe V V') (hok : VOk V' w') (hn : ∀ p v, V' p = some v -> V p = some v \/ w.heap.size <= p.block) : Mem sz w0 F V' μ ω box row w' := by
 have h1 := h.ext he
 refine ⟨h1.below, hok, fun p v hp => hV p v (h.vle p v hp), fun p hp => ?_, h1.bl, fun i g cs a b => ?_, h1.rl, fun r v e xs a b => ?_, h1.uniq, h1.new, fun p u l hp ho => ?_⟩
 . rw [<- h.vold p hp]
   cases hv : V' p with
   | none =>
    cases hv2 : V p with
    | none => rfl
    | some u => rw [hV p u hv2] at hv; cases hv
   | some u =>
    rcases hn p u hv with hq | hq
    . exact hq.symm
    . have := h.below.size; omega
 . obtain ⟨vs, t, c1, c2, c3, c4, c5⟩ := h1.hbox i g cs a b
   exact ⟨vs, t, c1, c2, c3, fun j v d e1 e2 => (c4 j v d e1 e2).mono hV (.refl _) (.refl _), c5⟩
 . obtain ⟨vals, c1, c2, c3, c4⟩ := h1.hrow r v e xs a b
   exact ⟨vals, c1, c2, c3, fun i rw j d e1 e2 => let ⟨u, x1, x2⟩ := c4 i rw j d e1 e2; ⟨u, x1, x2.mono hV⟩⟩
 . have hg := (h.new l p.block ho).2
   rcases hn p u hp with hq | hq
   . exact h.vmut p u l hq ho
   . omega
theorem Sim.grow {F : Fr} (h : Sim sz w0 F V μ ω s a w) (he : Ext w w') (hV : VLe V V') (hok : VOk V' w') (hn : ∀ p v, V' p = some v -> V p = some v \/ w.heap.size <= p.block) : Sim sz w0 F V' μ ω s a w' :=
 ⟨h.tmps, h.defers.ext he, fun t => (h.env t).mono hV (.refl _) (.refl _), h.mem.grow he hV hok hn⟩
end
end Go.Vx
namespace Go.Vx
open Go.RowKit
section
variable {P : Program} {T : Tab} {G : FuncId → Prop} {Q : Exit → St → Prop} {s : St}
structure OkG (P : Program) (T : Tab) (G : FuncId -> Prop) (c : Code) (Q : Exit -> St -> Prop) (s : St) : Prop where
 run : ∀ (w0 : World) (V0 : Fr) (V : Vw) (μ : List Nat) (ω : List Value) (a : Act) (w : World), Sim (szOf T) w0 V0 V μ ω s a w ->
  wpG P G c (fun e a' w' => ∃ s' V' μ' ω', Q e s' /\ Sim (szOf T) w0 V0 V' μ' ω' s' a' w') a w
theorem OkG.of {c : Code} (h : Ok P T c Q s) : OkG P T G c Q s := ⟨fun w0 V0 V μ ω a w hS => wpG_of (h.run w0 V0 V μ ω a w hS)⟩
theorem OkG.seq {x y : Code} (h : OkG P T G x (thenQ (OkG P T G y Q) Q) s) : OkG P T G (.seq x y) Q s := by
 refine ⟨fun w0 V0 V μ ω a w hS => wpG_seq (wpG_mono (h.run w0 V0 V μ ω a w hS) ?_)⟩
 rintro e a' w' ⟨s', V', μ', ω', hk, hS'⟩
 cases e with
 | normal => exact OkG.run hk w0 V0 V' μ' ω' a' w' hS'
 | _ => exact ⟨s', V', μ', ω', hk, hS'⟩
theorem OkG.block {id : Nat} {c : Code} (h : OkG P T G c (blockQ id Q) s) : OkG P T G (.block id c) Q s := by
 refine ⟨fun w0 V0 V μ ω a w hS => wpG_block (wpG_mono (h.run w0 V0 V μ ω a w hS) ?_)⟩
 rintro e a' w' ⟨s', V', μ', ω', hk, hS'⟩
 cases e with
 | exit id' =>
  simp only [blockQ] at hk
  simp only [Exit.inBlock]
  split at hk
  . rename_i hb
    rw [if_pos (beq_nat_true hb)]
    exact ⟨s', V', μ', ω', hk, hS'⟩
  . rename_i hb
    rw [if_neg (by rintro rfl; rw [Nat.beq_refl] at hb; cases hb)]
    exact ⟨s', V', μ', ω', hk, hS'⟩
 | _ => exact ⟨s', V', μ', ω', hk, hS'⟩
end
end Go.Vx
namespace Go.Vx
open Go.RowKit
section
variable {P : Program} {T : Tab}
structure PureS (sz : TypeId -> Nat) (B : Nat) (V : Vw) (env : List (Nat × D)) (n : Nat) (a : Act) (w : World) : Prop where
 tmps : a.tmps.size = n
 marks : ∃ ms : List Nat, a.defers = ms.map mkD /\ ms.Nodup /\ ∀ D ∈ ms, B <= D /\ w.heap[D]? = some (.deferred (some []))
 size : B <= w.heap.size
 vok : VOk V w
 env : ∀ t, RS sz V [] [] (slotV ⟨V, fun _ => undef, [], []⟩ n a t) (look env t)
theorem PureS.sim {B : Nat} {V : Vw} {env : List (Nat × D)} {n : Nat} {a : Act} {w : World} (h : PureS (szOf T) B V env n a w) : Sim (szOf T) w ⟨V, fun _ => undef, a.defers, []⟩ V [] [] ⟨env, [], [], n⟩ a w :=
 ⟨h.tmps, .start, h.env, (Mem.start h.vok).fr rfl⟩
def purE : List (Nat × D) -> (List (Nat × D) -> Prop) -> Prop
 | [], K => K []
 | (t, d) :: r, K => match immD d with | true => d.force fun d => purE r fun r => K ((t, d) :: r) | false => purE r fun r => K ((t, .u) :: r)
def purK (n : Nat) (s : St) (K : List (Nat × D) -> Prop) : Prop := match s with | ⟨env, _, _, m⟩ => eqN m n <| purE env K
theorem purE_sound {sz : TypeId -> Nat} {V : Vw} {μ : List Nat} {ω : List Value} : ∀ {env : List (Nat × D)} {K : List (Nat × D) -> Prop}, purE env K -> ∃ env', K env' /\ ∀ t v, RS sz V μ ω v (look env t) -> RI sz V v (look env' t)
 | [], K, h => ⟨[], h, fun t v _ => .u v⟩
 | (k, d) :: env, K, h => by
  simp only [purE] at h
  split at h
  . rename_i hd
    rw [D.force_eq] at h
    obtain ⟨env', h, he⟩ := purE_sound (sz := sz) (V := V) (μ := μ) (ω := ω) h
    refine ⟨_, h, fun t v hv => ?_⟩
    unfold look at hv ⊢
    cases hb : Nat.beq k t with
    | true => rw [hb] at hv; exact immD_ri hv hd
    | false => rw [hb] at hv; exact he t v hv
  . obtain ⟨env', h, he⟩ := purE_sound (sz := sz) (V := V) (μ := μ) (ω := ω) h
    refine ⟨_, h, fun t v hv => ?_⟩
    unfold look at hv ⊢
    cases hb : Nat.beq k t with
    | true => exact .u v
    | false => rw [hb] at hv; exact he t v hv
theorem PureS.after {B : Nat} {V V' : Vw} {env : List (Nat × D)} {n : Nat} {a a' : Act} {w w' : World} {μ' : List Nat} {ω' : List Value} {s' : St} {K : List (Nat × D) -> Prop} (h : PureS (szOf T) B V env n a w)
    (hS : Sim (szOf T) w ⟨V, fun _ => undef, a.defers, []⟩ V' μ' ω' s' a' w') (hK : purK n s' K) : ∃ env', K env' /\ PureS (szOf T) B V' env' n a' w' := by
 obtain ⟨env2, box, row, m⟩ := s'
 obtain ⟨hmn, hK2⟩ := eqN_iff hK
 subst hmn
 obtain ⟨env', hk, he⟩ := purE_sound (sz := szOf T) (V := V') (μ := μ') (ω := ω') hK2
 obtain ⟨ms, e1, e2, e3⟩ := h.marks
 obtain ⟨ms', f1, f2, f3⟩ := hS.defers.marks
 have hsz := h.size
 refine ⟨env', hk, hS.tmps, ⟨ms' ++ ms, ?_, ?_, fun D hD => ?_⟩, by have := hS.mem.below.size; omega, hS.mem.vok, fun t => .imm _ _ (he t _ (hS.env t))⟩
 . rw [f1, List.map_append]
   show ms'.map mkD ++ a.defers = _
   rw [e1]
 . refine List.nodup_append.2 ⟨f2, e2, fun x hx y hy e => ?_⟩
   have h1 := (f3 x hx).2.1
   have h2 := (Array.getElem?_eq_some_iff.1 (e3 y hy).2).1
   omega
 . rcases List.mem_append.1 hD with hD | hD
   . exact ⟨by have := (f3 D hD).2.1; omega, (f3 D hD).1⟩
   . exact ⟨(e3 D hD).1, by rw [hS.mem.below.block D (Array.getElem?_eq_some_iff.1 (e3 D hD).2).1]; exact (e3 D hD).2⟩
theorem fresh_of {F : Fr} {V V' : Vw} {μ : List Nat} {ω : List Value} {box : List (List D)} {row : Rows} {w w' : World} {sz : TypeId -> Nat} (h : Mem sz w F V' μ ω box row w') (hF : F.V = V) : ∀ p v, V' p = some v -> V p = some v \/ w.heap.size <= p.block := by
 intro p v hp
 by_cases hb : p.block < w.heap.size
 . left
   rw [<- hF, <- h.vold p hb]
   exact hp
 . right; omega
def yPost (P : Program) (T : Tab) (B : Nat) (J : Option Nat -> Vw -> World -> Prop) (Jp : List PanicEntry -> World -> Prop) (n : Nat) (Q : Exit -> Option Nat -> List (Nat × D) -> Prop) (e : Exit) (a' : Act) (w' : World) : Prop :=
 (∃ g' env' V', Q e g' env' /\ J g' V' w' /\ PureS (szOf T) B V' env' n a' w') \/
  ∃ ch, e = .panic ch /\ Jp ch w' /\ ∃ ms : List Nat, a'.defers = ms.map mkD /\ ms.Nodup /\ ∀ D ∈ ms, B <= D /\ w'.heap[D]? = some (.deferred (some []))
structure OkY (P : Program) (T : Tab) (l : Nat) (xs : List (List D)) (n : Nat) (c : Code) (Q : Exit -> Option Nat -> List (Nat × D) -> Prop) (g : Option Nat) (env : List (Nat × D)) : Prop where
 run : ∀ (B : Nat) J Jp, Yields P T l B xs J Jp -> ∀ (V : Vw) (a : Act) (w : World), J g V w -> PureS (szOf T) B V env n a w -> c.wp P (yPost P T B J Jp n Q) a w
variable {l : Nat} {xs : List (List D)} {n : Nat} {Q : Exit → Option Nat → List (Nat × D) → Prop} {g : Option Nat} {env : List (Nat × D)}
theorem OkY.mono {c : Code} {Q' : Exit -> Option Nat -> List (Nat × D) -> Prop} (h : OkY P T l xs n c Q g env) (hq : ∀ e g env, Q e g env -> Q' e g env) : OkY P T l xs n c Q' g env := by
 refine ⟨fun B J Jp hY V a w hJ hp => wp_mono (h.run B J Jp hY V a w hJ hp) ?_⟩
 rintro e a' w' (⟨g', env', V', hk, h1, h2⟩ | h)
 . exact .inl ⟨g', env', V', hq _ _ _ hk, h1, h2⟩
 . exact .inr h
def thenY (N : Option Nat -> List (Nat × D) -> Prop) (Q : Exit -> Option Nat -> List (Nat × D) -> Prop) : Exit -> Option Nat -> List (Nat × D) -> Prop
 | .normal, g, env => N g env
 | e, g, env => Q e g env
theorem OkY.seq {x y : Code} (h : OkY P T l xs n x (thenY (OkY P T l xs n y Q) Q) g env) : OkY P T l xs n (.seq x y) Q g env := by
 refine ⟨fun B J Jp hY V a w hJ hp => wp_seq (wp_mono (h.run B J Jp hY V a w hJ hp) ?_)⟩
 rintro e a' w' (⟨g', env', V', hk, h1, h2⟩ | ⟨ch, rfl, h⟩)
 . cases e with
   | normal => exact OkY.run hk B J Jp hY V' a' w' h1 h2
   | _ => exact .inl ⟨g', env', V', hk, h1, h2⟩
 . exact .inr ⟨ch, rfl, h⟩
theorem OkY.skip (h : Q .normal g env) : OkY P T l xs n .skip Q g env := ⟨fun _ _ _ _ V _ _ hJ hp => wp_skip (.inl ⟨g, env, V, h, hJ, hp⟩)⟩
theorem OkY.ret (h : Q .ret g env) : OkY P T l xs n .ret Q g env := ⟨fun _ _ _ _ V _ _ hJ hp => wp_ret (.inl ⟨g, env, V, h, hJ, hp⟩)⟩
theorem OkY.exit {id : Nat} (h : Q (.exit id) g env) : OkY P T l xs n (.exit id) Q g env := ⟨fun _ _ _ _ V _ _ hJ hp => wp_exit (.inl ⟨g, env, V, h, hJ, hp⟩)⟩
def blockY (id : Nat) (Q : Exit -> Option Nat -> List (Nat × D) -> Prop) : Exit -> Option Nat -> List (Nat × D) -> Prop
 | .exit id', g, env => match Nat.beq id' id with | true => Q .normal g env | false => Q (.exit id') g env
 | e, g, env => Q e g env
theorem OkY.block {id : Nat} {c : Code} (h : OkY P T l xs n c (blockY id Q) g env) : OkY P T l xs n (.block id c) Q g env := by
 refine ⟨fun B J Jp hY V a w hJ hp => wp_block (wp_mono (h.run B J Jp hY V a w hJ hp) ?_)⟩
 rintro e a' w' (⟨g', env', V', hk, h1, h2⟩ | ⟨ch, rfl, h⟩)
 . cases e with
   | exit id' =>
    simp only [blockY] at hk
    simp only [Exit.inBlock]
    split at hk
    . rename_i hb
      rw [if_pos (beq_nat_true hb)]
      exact .inl ⟨g', env', V', hk, h1, h2⟩
    . rename_i hb
      rw [if_neg (by rintro rfl; rw [Nat.beq_refl] at hb; cases hb)]
      exact .inl ⟨g', env', V', hk, h1, h2⟩
   | _ => exact .inl ⟨g', env', V', hk, h1, h2⟩
 . exact .inr ⟨ch, rfl, h⟩
def condY (env : List (Nat × D)) (n : Nat) (c : Operand) (X Y : List (Nat × D) -> Prop) : Prop :=
 condK ⟨env, [], [], n⟩ c (fun s => X s.env) (fun s => Y s.env)
theorem PureS.know {B : Nat} {V : Vw} {a : Act} {w : World} (hp : PureS (szOf T) B V env n a w) (c : Operand) {d : D} (hd : RS (szOf T) V [] [] (a.eval c) d) : PureS (szOf T) B V ((⟨env, [], [], n⟩ : St).know c d).env n a w := by
 have h := hp.sim.know c hd
 have hn : ((⟨env, [], [], n⟩ : St).know c d).n = n := by
  unfold St.know
  split
  . split <;> rfl
  . rfl
 refine ⟨hp.tmps, hp.marks, hp.size, hp.vok, fun t => ?_⟩
 have := h.env t
 rw [hn] at this
 exact this
theorem OkY.cond {c : Operand} {x y : Code} (h : condY env n c (OkY P T l xs n x Q g) (OkY P T l xs n y Q g)) : OkY P T l xs n (.cond c x y) Q g env := by
 refine ⟨fun B J Jp hY V a w hJ hp => ?_⟩
 have hc := hp.sim.get c
 unfold condY condK at h
 split at h
 . rename_i hd; rw [hd] at hc; exact wp_cond_true hc.tt_ (h.run B J Jp hY V a w hJ hp)
 . rename_i hd; rw [hd] at hc; exact wp_cond_false hc.ff_ (h.run B J Jp hY V a w hJ hp)
 . rename_i p hd
   rw [hd] at hc
   obtain ⟨b, hb, hbp⟩ := hc.bool
   cases b with
   | true => exact wp_cond_true hb ((h.1 (hbp.1 rfl)).run B J Jp hY V a w hJ (hp.know c (by rw [hb]; exact .imm _ _ .tt)))
   | false => exact wp_cond_false hb ((h.2 (fun hp => by simpa using hbp.2 hp)).run B J Jp hY V a w hJ (hp.know c (by rw [hb]; exact .imm _ _ .ff)))
 . exact h.elim
def selE (env : List (Nat × D)) : List Nat -> (List (Nat × D) -> Prop) -> Prop
 | [], K => K []
 | t :: L, K => (look env t).force fun d => selE env L fun r => K ((t, d) :: r)
theorem selE_sound {sz : TypeId -> Nat} {V : Vw} {env : List (Nat × D)} : ∀ {L : List Nat} {K : List (Nat × D) -> Prop}, selE env L K -> ∃ env', K env' /\ ∀ t v, RS sz V [] [] v (look env t) -> RS sz V [] [] v (look env' t)
 | [], K, h => ⟨[], h, fun t v _ => .imm _ _ (.u v)⟩
 | x :: L, K, h => by
  simp only [selE, D.force_eq] at h
  obtain ⟨env', h, he⟩ := selE_sound (sz := sz) (V := V) h
  refine ⟨_, h, fun t v hv => ?_⟩
  show RS sz V [] [] v (match Nat.beq x t with | true => look env x | false => look env' t)
  cases hb : Nat.beq x t with
  | true => rw [<- beq_nat_true hb] at hv; exact hv
  | false => exact he t v hv
theorem OkY.keep {c : Code} (L : List Nat) (h : selE env L fun env => OkY P T l xs n c Q g env) : OkY P T l xs n c Q g env := by
 refine ⟨fun B J Jp hY V a w hJ hp => ?_⟩
 obtain ⟨env', hk, he⟩ := selE_sound (sz := szOf T) (V := V) h
 exact hk.run B J Jp hY V a w hJ ⟨hp.tmps, hp.marks, hp.size, hp.vok, fun t => he t _ (hp.env t)⟩
theorem OkY.loop {c : Code} {ι : Type} (I : ι -> Option Nat -> List (Nat × D) -> Prop) (m : ι -> Nat) (x0 : ι) (h0 : I x0 g env)
    (round : ∀ x g env, I x g env -> OkY P T l xs n c (thenY (fun g' env' => ∃ x', m x' < m x /\ I x' g' env') Q) g env) : OkY P T l xs n (.loop c) Q g env := by
 refine ⟨fun B J Jp hY V a w hJ hp => ?_⟩
 refine wp_loop_at (fun k a w => ∃ x g env V, m x = k /\ I x g env /\ J g V w /\ PureS (szOf T) B V env n a w) ?_ ⟨x0, g, env, V, rfl, h0, hJ, hp⟩
 rintro k a w ⟨x, g, env, V, rfl, hI, hJ, hp⟩
 refine wp_mono ((round x g env hI).run B J Jp hY V a w hJ hp) ?_
 rintro e a' w' (⟨g', env', V', hk, h1, h2⟩ | ⟨ch, rfl, h⟩)
 . cases e with
   | normal =>
    obtain ⟨x', hlt, hI'⟩ := hk
    exact ⟨m x', hlt, x', g', env', V', rfl, hI', h1, h2⟩
   | _ => exact .inl ⟨g', env', V', hk, h1, h2⟩
 . exact .inr ⟨ch, rfl, h⟩
structure OkZ (P : Program) (T : Tab) (l : Nat) (xs : List (List D)) (n : Nat) (c : Code) (Q : Exit -> Option Nat -> List (Nat × D) -> Prop) (g : Option Nat) (s : St) : Prop where
 run : ∀ (B : Nat) J Jp, Yields P T l B xs J Jp -> ∀ (V : Vw) (a0 : Act) (w0 : World) (env : List (Nat × D)), J g V w0 -> PureS (szOf T) B V env n a0 w0 ->
  ∀ (V' : Vw) (μ : List Nat) (ω : List Value) (a : Act) (w : World), Sim (szOf T) w0 ⟨V, fun _ => undef, a0.defers, []⟩ V' μ ω s a w -> c.wp P (yPost P T B J Jp n Q) a w
theorem OkZ.seq {x y : Code} {s : St} (h : Ok P T x (thenQ (OkZ P T l xs n y Q g) (fun e s' => purK n s' fun env' => Q e g env')) s) : OkZ P T l xs n (.seq x y) Q g s := by
 refine ⟨fun B J Jp hY V a0 w0 env hJ hp V' μ ω a w hS => wp_seq (wp_mono (h.run w0 _ V' μ ω a w hS) ?_)⟩
 rintro e a' w' ⟨s', V2, μ', ω', hq, hS2⟩
 have pur : ∀ e, purK n s' (fun env' => Q e g env') -> yPost P T B J Jp n Q e a' w' := fun e hq => by
  obtain ⟨env', hk, hp'⟩ := hp.after hS2 hq
  exact .inl ⟨g, env', V2, hk, hY.grow g V V2 w0 w' hJ hS2.mem.below hS2.mem.vle hS2.mem.vok (fresh_of hS2.mem rfl), hp'⟩
 cases e with
 | normal => exact OkZ.run hq B J Jp hY V a0 w0 env hJ hp V2 μ' ω' a' w' hS2
 | _ => exact pur _ hq
theorem effW.of {s : St} {f : FuncId} {ds : List D} {K : D -> St -> Prop} (h : effK P T s f ds K) : effW P T s f ds K :=
 ⟨h.call, fun w0 V0 V μ ω a w vs hS hl hR => (h.run w0 V0 V μ ω a w vs hS hl hR).mono fun _ _ ⟨v, d, s', V', μ', ω', h1, h2, h3, h4, _⟩ => ⟨v, d, s', V', μ', ω', h1, h2, h3, h4⟩⟩
end
end Go.Vx
namespace Go.Vx
open Go.RowKit
section
variable {P : Program} {T : Tab} {l : Nat} {x : List D} {n : Nat} {Q : Exit → List (Nat × D) → Prop} {s : St}
structure OkO (P : Program) (T : Tab) (l : Nat) (x : List D) (n : Nat) (c : Code) (Q : Exit -> List (Nat × D) -> Prop) (s : St) : Prop where
 run : ∀ (B : Nat) J Jp, Yields P T l B [x] J Jp -> (∀ V W, ¬ J (some 1) V W) -> ∀ (V : Vw) (a0 : Act) (w0 : World) (env : List (Nat × D)), J (some 0) V w0 -> PureS (szOf T) B V env n a0 w0 ->
  ∀ (V' : Vw) (μ : List Nat) (ω : List Value) (a : Act) (w : World), Sim (szOf T) w0 ⟨V, fun _ => undef, a0.defers, []⟩ V' μ ω s a w -> c.wp P (yPost P T B J Jp n fun e g env => g = none /\ Q e env) a w
theorem OkO.seq {c y : Code} (h : Ok P T c (thenQ (OkO P T l x n y Q) (fun _ _ => False)) s) : OkO P T l x n (.seq c y) Q s := by
 refine ⟨fun B J Jp hY h1 V a0 w0 env hJ hp V' μ ω a w hS => wp_seq (wp_mono (h.run w0 _ V' μ ω a w hS) ?_)⟩
 rintro e a' w' ⟨s', V2, μ', ω', hq, hS2⟩
 cases e with
 | normal => exact OkO.run hq B J Jp hY h1 V a0 w0 env hJ hp V2 μ' ω' a' w' hS2
 | _ => exact False.elim hq
def thenO (N : List (Nat × D) -> Prop) (Q : Exit -> List (Nat × D) -> Prop) : Exit -> List (Nat × D) -> Prop
 | .normal, env => N env
 | e, env => Q e env
def blockO (id : Nat) (Q : Exit -> List (Nat × D) -> Prop) : Exit -> List (Nat × D) -> Prop
 | .exit id', env => match Nat.beq id' id with | true => Q .normal env | false => Q (.exit id') env
 | e, env => Q e env
theorem OkO.block {id : Nat} {c : Code} (h : OkO P T l x n c (blockO id Q) s) : OkO P T l x n (.block id c) Q s := by
 refine ⟨fun B J Jp hY h1 V a0 w0 env hJ hp V' μ ω a w hS => wp_block (wp_mono (h.run B J Jp hY h1 V a0 w0 env hJ hp V' μ ω a w hS) ?_)⟩
 rintro e a' w' (⟨g', env', V', ⟨rfl, hk⟩, h1, h2⟩ | ⟨ch, rfl, h⟩)
 . cases e with
   | exit id' =>
    simp only [blockO] at hk
    simp only [Exit.inBlock]
    split at hk
    . rename_i hb
      rw [if_pos (beq_nat_true hb)]
      exact .inl ⟨none, env', V', ⟨rfl, hk⟩, h1, h2⟩
    . rename_i hb
      rw [if_neg (by rintro rfl; rw [Nat.beq_refl] at hb; cases hb)]
      exact .inl ⟨none, env', V', ⟨rfl, hk⟩, h1, h2⟩
   | _ => exact .inl ⟨none, env', V', ⟨rfl, hk⟩, h1, h2⟩
 . exact .inr ⟨ch, rfl, h⟩
theorem OkO.loop {c : Code} (h : OkO P T l x n c (thenO (fun _ => False) Q) s) : OkO P T l x n (.loop c) Q s := by
 refine ⟨fun B J Jp hY h1 V a0 w0 env hJ hp V' μ ω a w hS => wp_loop_at (fun k a1 w1 => k = 0 /\ a1 = a /\ w1 = w) ?_ ⟨rfl, rfl, rfl⟩⟩
 rintro k a1 w1 ⟨rfl, rfl, rfl⟩
 refine wp_mono (h.run B J Jp hY h1 V a0 w0 env hJ hp V' μ ω _ _ hS) ?_
 rintro e a' w' (⟨g', env', V', ⟨rfl, hk⟩, h1, h2⟩ | ⟨ch, rfl, h⟩)
 . cases e with
   | normal => exact False.elim hk
   | _ => exact .inl ⟨none, env', V', ⟨rfl, hk⟩, h1, h2⟩
 . exact .inr ⟨ch, rfl, h⟩
end
end Go.Vx
namespace Go.Vx
open Go.RowKit
section
variable {P : Program} {T : Tab}
structure PureE (sz : TypeId -> Nat) (B : Nat) (E : List (Nat × Obj)) (V : Vw) (env : List (Nat × D)) (n : Nat) (a : Act) (w : World) : Prop where
 tmps : a.tmps.size = n
 marks : ∃ ms : List Nat, a.defers = ms.map mkD /\ ms.Nodup /\ ∀ D ∈ ms, B <= D /\ w.heap[D]? = some (.deferred (some [])) /\ ∀ x ∈ E, x.1 ≠ D
 size : B <= w.heap.size
 vok : VOk V w
 env : ∀ t, RS sz V [] [] (slotV ⟨V, fun _ => undef, [], []⟩ n a t) (look env t)
 kept : ∀ x ∈ E, B <= x.1 /\ w.heap[x.1]? = some x.2 /\ noC x.2
theorem PureE.sim {B : Nat} {E : List (Nat × Obj)} {V : Vw} {env : List (Nat × D)} {n : Nat} {a : Act} {w : World} (h : PureE (szOf T) B E V env n a w) : Sim (szOf T) w ⟨V, fun _ => undef, a.defers, []⟩ V [] [] ⟨env, [], [], n⟩ a w :=
 ⟨h.tmps, .start, h.env, (Mem.start h.vok).fr rfl⟩
theorem PureE.after {B : Nat} {E : List (Nat × Obj)} {V V' : Vw} {env : List (Nat × D)} {n : Nat} {a a' : Act} {w w' : World} {μ' : List Nat} {ω' : List Value} {s' : St} {K : List (Nat × D) -> Prop} (h : PureE (szOf T) B E V env n a w)
    (hS : Sim (szOf T) w ⟨V, fun _ => undef, a.defers, []⟩ V' μ' ω' s' a' w') (hK : purK n s' K) : ∃ env', K env' /\ PureE (szOf T) B E V' env' n a' w' := by
 obtain ⟨env2, box, row, m⟩ := s'
 obtain ⟨hmn, hK2⟩ := eqN_iff hK
 subst hmn
 obtain ⟨env', hk, he⟩ := purE_sound (sz := szOf T) (V := V') (μ := μ') (ω := ω') hK2
 obtain ⟨ms, e1, e2, e3⟩ := h.marks
 obtain ⟨ms', f1, f2, f3⟩ := hS.defers.marks
 have hsz := h.size
 have hlt : ∀ x ∈ E, x.1 < w.heap.size := fun x hx => (Array.getElem?_eq_some_iff.1 (h.kept x hx).2.1).1
 refine ⟨env', hk, hS.tmps, ⟨ms' ++ ms, ?_, ?_, fun D hD => ?_⟩, by have := hS.mem.below.size; omega, hS.mem.vok, fun t => .imm _ _ (he t _ (hS.env t)), fun x hx => ?_⟩
 . rw [f1, List.map_append]
   show ms'.map mkD ++ a.defers = _
   rw [e1]
 . refine List.nodup_append.2 ⟨f2, e2, fun x hx y hy e => ?_⟩
   have h1 := (f3 x hx).2.1
   have h2 := (Array.getElem?_eq_some_iff.1 (e3 y hy).2.1).1
   omega
 . rcases List.mem_append.1 hD with hD | hD
   . exact ⟨by have := (f3 D hD).2.1; omega, (f3 D hD).1, fun x hx => by have := (f3 D hD).2.1; have := hlt x hx; omega⟩
   . exact ⟨(e3 D hD).1, by rw [hS.mem.below.block D (Array.getElem?_eq_some_iff.1 (e3 D hD).2.1).1]; exact (e3 D hD).2.1, (e3 D hD).2.2⟩
 . obtain ⟨k1, k2, k3⟩ := h.kept x hx
   exact ⟨k1, by rw [hS.mem.below.block x.1 (hlt x hx)]; exact k2, k3⟩
def yPostE (P : Program) (T : Tab) (B : Nat) (E : List (Nat × Obj)) (V0 : Vw) (J : Option Nat -> Vw -> World -> Prop) (Jp : List PanicEntry -> World -> Prop) (n : Nat) (Q : Exit -> Option Nat -> List (Nat × D) -> Prop) (e : Exit) (a' : Act) (w' : World) : Prop :=
 (∃ g' env' V', Q e g' env' /\ J g' V' w' /\ VLe V0 V' /\ PureE (szOf T) B E V' env' n a' w') \/
  ∃ ch, e = .panic ch /\ Jp ch w' /\ (∀ x ∈ E, w'.heap[x.1]? = some x.2) /\ ∃ ms : List Nat, a'.defers = ms.map mkD /\ ms.Nodup /\ ∀ D ∈ ms, B <= D /\ w'.heap[D]? = some (.deferred (some [])) /\ ∀ x ∈ E, x.1 ≠ D
structure OkE (P : Program) (T : Tab) (l : Nat) (xs : List (List D)) (n : Nat) (c : Code) (Q : Exit -> Option Nat -> List (Nat × D) -> Prop) (g : Option Nat) (env : List (Nat × D)) : Prop where
 run : ∀ (B : Nat) (E : List (Nat × Obj)) J Jp, Yields P T l B xs J Jp -> ∀ (V : Vw) (a : Act) (w : World), J g V w -> PureE (szOf T) B E V env n a w -> c.wp P (yPostE P T B E V J Jp n Q) a w
variable {l : Nat} {xs : List (List D)} {n : Nat} {Q : Exit → Option Nat → List (Nat × D) → Prop} {g : Option Nat} {env : List (Nat × D)}
theorem yPostE.up {B : Nat} {E : List (Nat × Obj)} {V0 V1 : Vw} {J : Option Nat -> Vw -> World -> Prop} {Jp : List PanicEntry -> World -> Prop} {e : Exit} {a : Act} {w : World} (h : yPostE P T B E V1 J Jp n Q e a w) (hV : VLe V0 V1) : yPostE P T B E V0 J Jp n Q e a w := by
 rcases h with ⟨g', env', V', h1, h2, h3, h4⟩ | h
 . exact .inl ⟨g', env', V', h1, h2, fun p v hp => h3 p v (hV p v hp), h4⟩
 . exact .inr h
theorem OkE.seq {x y : Code} (h : OkE P T l xs n x (thenY (OkE P T l xs n y Q) Q) g env) : OkE P T l xs n (.seq x y) Q g env := by
 refine ⟨fun B E J Jp hY V a w hJ hp => wp_seq (wp_mono (h.run B E J Jp hY V a w hJ hp) ?_)⟩
 rintro e a' w' (⟨g', env', V', hk, h1, hv, h2⟩ | ⟨ch, rfl, h⟩)
 . cases e with
   | normal => exact wp_mono (OkE.run hk B E J Jp hY V' a' w' h1 h2) fun _ _ _ h => h.up hv
   | _ => exact .inl ⟨g', env', V', hk, h1, hv, h2⟩
 . exact .inr ⟨ch, rfl, h⟩
theorem OkE.skip (h : Q .normal g env) : OkE P T l xs n .skip Q g env := ⟨fun _ _ _ _ _ V _ _ hJ hp => wp_skip (.inl ⟨g, env, V, h, hJ, fun _ _ h => h, hp⟩)⟩
theorem OkE.ret (h : Q .ret g env) : OkE P T l xs n .ret Q g env := ⟨fun _ _ _ _ _ V _ _ hJ hp => wp_ret (.inl ⟨g, env, V, h, hJ, fun _ _ h => h, hp⟩)⟩
theorem OkE.exit {id : Nat} (h : Q (.exit id) g env) : OkE P T l xs n (.exit id) Q g env := ⟨fun _ _ _ _ _ V _ _ hJ hp => wp_exit (.inl ⟨g, env, V, h, hJ, fun _ _ h => h, hp⟩)⟩
theorem OkE.block {id : Nat} {c : Code} (h : OkE P T l xs n c (blockY id Q) g env) : OkE P T l xs n (.block id c) Q g env := by
 refine ⟨fun B E J Jp hY V a w hJ hp => wp_block (wp_mono (h.run B E J Jp hY V a w hJ hp) ?_)⟩
 rintro e a' w' (⟨g', env', V', hk, h1, hv, h2⟩ | ⟨ch, rfl, h⟩)
 . cases e with
   | exit id' =>
    simp only [blockY] at hk
    simp only [Exit.inBlock]
    split at hk
    . rename_i hb
      rw [if_pos (beq_nat_true hb)]
      exact .inl ⟨g', env', V', hk, h1, hv, h2⟩
    . rename_i hb
      rw [if_neg (by rintro rfl; rw [Nat.beq_refl] at hb; cases hb)]
      exact .inl ⟨g', env', V', hk, h1, hv, h2⟩
   | _ => exact .inl ⟨g', env', V', hk, h1, hv, h2⟩
 . exact .inr ⟨ch, rfl, h⟩
theorem PureE.know {B : Nat} {E : List (Nat × Obj)} {V : Vw} {a : Act} {w : World} (hp : PureE (szOf T) B E V env n a w) (c : Operand) {d : D} (hd : RS (szOf T) V [] [] (a.eval c) d) : PureE (szOf T) B E V ((⟨env, [], [], n⟩ : St).know c d).env n a w := by
 have h := hp.sim.know c hd
 have hn : ((⟨env, [], [], n⟩ : St).know c d).n = n := by
  unfold St.know
  split
  . split <;> rfl
  . rfl
 refine ⟨hp.tmps, hp.marks, hp.size, hp.vok, fun t => ?_, hp.kept⟩
 have := h.env t
 rw [hn] at this
 exact this
theorem OkE.cond {c : Operand} {x y : Code} (h : condY env n c (OkE P T l xs n x Q g) (OkE P T l xs n y Q g)) : OkE P T l xs n (.cond c x y) Q g env := by
 refine ⟨fun B E J Jp hY V a w hJ hp => ?_⟩
 have hc := hp.sim.get c
 unfold condY condK at h
 split at h
 . rename_i hd; rw [hd] at hc; exact wp_cond_true hc.tt_ (h.run B E J Jp hY V a w hJ hp)
 . rename_i hd; rw [hd] at hc; exact wp_cond_false hc.ff_ (h.run B E J Jp hY V a w hJ hp)
 . rename_i p hd
   rw [hd] at hc
   obtain ⟨b, hb, hbp⟩ := hc.bool
   cases b with
   | true => exact wp_cond_true hb ((h.1 (hbp.1 rfl)).run B E J Jp hY V a w hJ (hp.know c (by rw [hb]; exact .imm _ _ .tt)))
   | false => exact wp_cond_false hb ((h.2 (fun hp => by simpa using hbp.2 hp)).run B E J Jp hY V a w hJ (hp.know c (by rw [hb]; exact .imm _ _ .ff)))
 . exact h.elim
theorem PureE.envs {B : Nat} {E : List (Nat × Obj)} {V : Vw} {a : Act} {w : World} {env' : List (Nat × D)} (hp : PureE (szOf T) B E V env n a w) (he : ∀ t v, RS (szOf T) V [] [] v (look env t) -> RS (szOf T) V [] [] v (look env' t)) : PureE (szOf T) B E V env' n a w :=
 ⟨hp.tmps, hp.marks, hp.size, hp.vok, fun t => he t _ (hp.env t), hp.kept⟩
theorem OkE.keep {c : Code} (L : List Nat) (h : selE env L fun env => OkE P T l xs n c Q g env) : OkE P T l xs n c Q g env := by
 refine ⟨fun B E J Jp hY V a w hJ hp => ?_⟩
 obtain ⟨env', hk, he⟩ := selE_sound (sz := szOf T) (V := V) h
 exact hk.run B E J Jp hY V a w hJ (hp.envs he)
structure OkF (P : Program) (T : Tab) (l : Nat) (xs : List (List D)) (n : Nat) (c : Code) (Q : Exit -> Option Nat -> List (Nat × D) -> Prop) (g : Option Nat) (s : St) : Prop where
 run : ∀ (B : Nat) (E : List (Nat × Obj)) J Jp, Yields P T l B xs J Jp -> ∀ (V : Vw) (a0 : Act) (w0 : World) (env : List (Nat × D)), J g V w0 -> PureE (szOf T) B E V env n a0 w0 ->
  ∀ (V' : Vw) (μ : List Nat) (ω : List Value) (a : Act) (w : World), Sim (szOf T) w0 ⟨V, fun _ => undef, a0.defers, []⟩ V' μ ω s a w -> c.wp P (yPostE P T B E V J Jp n Q) a w
theorem OkF.seq {x y : Code} {s : St} (h : Ok P T x (thenQ (OkF P T l xs n y Q g) (fun e s' => purK n s' fun env' => Q e g env')) s) : OkF P T l xs n (.seq x y) Q g s := by
 refine ⟨fun B E J Jp hY V a0 w0 env hJ hp V' μ ω a w hS => wp_seq (wp_mono (h.run w0 _ V' μ ω a w hS) ?_)⟩
 rintro e a' w' ⟨s', V2, μ', ω', hq, hS2⟩
 have pur : ∀ e, purK n s' (fun env' => Q e g env') -> yPostE P T B E V J Jp n Q e a' w' := fun e hq => by
  obtain ⟨env', hk, hp'⟩ := hp.after hS2 hq
  exact .inl ⟨g, env', V2, hk, hY.grow g V V2 w0 w' hJ hS2.mem.below hS2.mem.vle hS2.mem.vok (fresh_of hS2.mem rfl), hS2.mem.vle, hp'⟩
 cases e with
 | normal => exact OkF.run hq B E J Jp hY V a0 w0 env hJ hp V2 μ' ω' a' w' hS2
 | _ => exact pur _ hq
theorem OkF.cond {c : Operand} {x y : Code} {s : St} (h : condK s c (OkF P T l xs n x Q g) (OkF P T l xs n y Q g)) : OkF P T l xs n (.cond c x y) Q g s := by
 refine ⟨fun B E J Jp hY V a0 w0 env hJ hp V' μ ω a w hS => ?_⟩
 have hc := hS.get c
 unfold condK at h
 split at h
 . rename_i hd; rw [hd] at hc; exact wp_cond_true hc.tt_ (h.run B E J Jp hY V a0 w0 env hJ hp V' μ ω a w hS)
 . rename_i hd; rw [hd] at hc; exact wp_cond_false hc.ff_ (h.run B E J Jp hY V a0 w0 env hJ hp V' μ ω a w hS)
 . rename_i p hd
   rw [hd] at hc
   obtain ⟨b, hb, hbp⟩ := hc.bool
   cases b with
   | true => exact wp_cond_true hb ((h.1 (hbp.1 rfl)).run B E J Jp hY V a0 w0 env hJ hp V' μ ω a w (hS.know c (by rw [hb]; exact .imm _ _ .tt)))
   | false => exact wp_cond_false hb ((h.2 (fun hp => by simpa using hbp.2 hp)).run B E J Jp hY V a0 w0 env hJ hp V' μ ω a w (hS.know c (by rw [hb]; exact .imm _ _ .ff)))
 . exact h.elim
end
end Go.Vx
namespace Go.Vx.Hp
section
variable {α : Type} {lt : α → α → Prop}
theorem set_perm {ys : List α} {i : Nat} {a b : α} (hi : ys[i]? = some a) : (b :: ys).Perm (a :: ys.set i b) := by
 induction ys generalizing i with
 | nil => simp at hi
 | cons y ys ih =>
  cases i with
  | zero => simp at hi; subst hi; simpa using List.Perm.swap _ _ _
  | succ i =>
   simp only [List.getElem?_cons_succ] at hi
   simp only [List.set_cons_succ]
   exact (List.Perm.swap _ _ _).trans (((ih hi).cons y).trans (List.Perm.swap _ _ _))
end
end Go.Vx.Hp
namespace Go.Vx
open Go.RowKit Go.ChangeShapes Go.WideShapes
open Go.Proofs.YtagmibogginaaaaGreatDoor (Rows.uptoBulk Rows.uptoBulkAll)
inductive Shp where
 | bool | int (k : IntKind) | str | slice (e : TypeId) (cells : List Shp)
def shpFs (F : TypeId -> Option (List Shp)) : Nat -> List (Nat × TypeId) -> Option (List Shp)
 | _, [] => some []
 | k, (o, t) :: r => match Nat.beq o k, F t with
  | true, some l => (match shpFs F (k + l.length) r with | some m => some (l ++ m) | none => none)
  | _, _ => none
def lenIs (s : Nat) (o : Option (List Shp)) : Option (List Shp) := match o with | some l => (match Nat.beq s l.length with | true => some l | false => none) | none => none
def shpC (T : Tab) : Nat -> TypeId -> Option (List Shp)
 | 0, _ => none
 | f + 1, t => match T t with
  | some ⟨s, _, .bool, _⟩ => lenIs s (some [.bool])
  | some ⟨s, _, .int k, _⟩ => lenIs s (some [.int k])
  | some ⟨s, _, .str, _⟩ => lenIs s (some [.str])
  | some ⟨s, _, .slice e, _⟩ => lenIs s (match shpC T f e with | some l => some [.slice e l] | none => none)
  | some ⟨s, _, .struct fs, _⟩ => lenIs s (shpFs (shpC T f) 0 fs)
  | _ => none
mutual
/-- A cell of such a type; lists and texts of at most B. -/
def TyS (B : Nat) : Shp → D → Prop
  | .bool, d => ∃ p, d = .b p
  | .int k, d => ∃ n, d = .i k n ∧ (Lit.int k n).wf = true
  | .str, d => ∃ l, d = .s l ∧ l.length ≤ B
  | .slice e l, d => ∃ rows room, d = .lst e rows room ∧ rows.length + room.length ≤ B ∧ ∀ r, r ∈ rows ++ room → TySs B l r
/-- .. a row of cells. -/
def TySs (B : Nat) : List Shp → List D → Prop
  | [], [] => True
  | s :: ss, d :: ds => TyS B s d ∧ TySs B ss ds
  | [], _ :: _ => False
  | _ :: _, [] => False
end
def TyA (T : Tab) (B : Nat) (t : TypeId) (l : List Shp) (x : D) : Prop :=
 match T t with
 | some ⟨_, _, .struct _, _⟩ => ∃ row, x = .agg row /\ TySs B l row
 | _ => TySs B l [x]
theorem TySs.append {B : Nat} : ∀ {ts us : List Shp} {ds es : List D}, TySs B ts ds -> TySs B us es -> TySs B (ts ++ us) (ds ++ es)
 | [], _, [], _, _, h => h
 | _ :: _, _, _ :: _, _, h, h' => by
  simp only [TySs, List.cons_append] at h ⊢
  exact ⟨h.1, TySs.append h.2 h'⟩
 | [], _, _ :: _, _, h, _ => by simp [TySs] at h
 | _ :: _, _, [], _, h, _ => by simp [TySs] at h
theorem lenIs_some {s : Nat} {o : Option (List Shp)} {l : List Shp} (h : lenIs s o = some l) : o = some l /\ s = l.length := by
 unfold lenIs at h
 split at h
 . split at h
   . rename_i hb
     cases h
     exact ⟨rfl, Nat.eq_of_beq_eq_true hb⟩
   . cases h
 . cases h
theorem shpC_len {T : Tab} {f : Nat} {t : TypeId} {l : List Shp} (h : shpC T f t = some l) : szOf T t = l.length /\ ∃ ti, T t = some ti := by
 cases f with
 | zero => simp [shpC] at h
 | succ f =>
  simp only [shpC] at h
  split at h
  all_goals first
   | (cases h)
   | (rename_i ht; have := lenIs_some h; rw [szOf_eq ht]; exact ⟨this.2, _, ht⟩)
section
variable {H : Type} {enc : TypeId × Value → H} {P : Program} {T : Tab} {w : World} {held : Bool}
theorem bulk_mem {d : DataW H} : ∀ {l : List (DataW H)}, d ∈ l -> Rows.uptoBulk d <= Rows.uptoBulkAll l
 | [], h => by cases h
 | x :: r, h => by
  simp only [Rows.uptoBulkAll]
  rcases List.mem_cons.1 h with rfl | h
  . omega
  . have := bulk_mem h; omega
theorem bulk_one (d : DataW H) : 1 <= Rows.uptoBulk d := by
 cases d with
 | lit l => cases l <;> simp [Rows.uptoBulk]
 | _ => simp [Rows.uptoBulk]
theorem bulk_length : ∀ (l : List (DataW H)), l.length <= Rows.uptoBulkAll l
 | [] => by simp [Rows.uptoBulkAll]
 | x :: r => by have := bulk_one x; have := bulk_length r; simp only [Rows.uptoBulkAll, List.length_cons]; omega
def CellsR (T : Tab) (w : World) (cs : List Value) (row : List D) : Prop :=
 cs.length = row.length /\ ∀ (j : Nat) v d, cs[j]? = some v -> row[j]? = some d -> RI (szOf T) (heapV w) v d /\ v.oneCell' = true
theorem CellsR.append {cs cs' : List Value} {row row' : List D} (h : CellsR T w cs row) (h' : CellsR T w cs' row') : CellsR T w (cs ++ cs') (row ++ row') := by
 refine ⟨by simp [h.1, h'.1], fun j v d h1 h2 => ?_⟩
 by_cases hj : j < cs.length
 . rw [List.getElem?_append_left hj] at h1
   rw [List.getElem?_append_left (by rw [<- h.1]; exact hj)] at h2
   exact h.2 j v d h1 h2
 . rw [List.getElem?_append_right (by omega)] at h1
   rw [List.getElem?_append_right (by rw [<- h.1]; omega), <- h.1] at h2
   exact h'.2 _ v d h1 h2
theorem CellsR.one {v : Value} {d : D} (h : RI (szOf T) (heapV w) v d) (h1 : v.oneCell' = true) : CellsR T w [v] [d] := by
 refine ⟨rfl, fun j v' d' h2 h3 => ?_⟩
 cases j with
 | zero => simp at h2 h3; subst h2 h3; exact ⟨h, h1⟩
 | succ j => simp at h2
theorem cells_of (hT : TOk P T) {t : TypeId} (h : ∃ ti, T t = some ti) : szOf T t = P.cellsOf t := by
 obtain ⟨ti, ht⟩ := h
 obtain ⟨i, z, h1, h2, _⟩ := (hT t ti ht).info
 rw [szOf_eq ht]
 simp [Program.cellsOf, h1, h2]
theorem fields_ri {f B : Nat} {k : Nat} (ih : ∀ t cs x l, shpC T f t = some l -> (B = maxLen \/ Rows.uptoBulk x.1 <= B) -> DataW.trod enc P w 0 (fun _ => true) held k t cs = some x -> ∃ row, TySs B l row /\ CellsR T w cs row)
    (hT : TOk P T) (cs : List Value) :
    ∀ (fs : List (Nat × TypeId)) (o : Nat) (xs : List (DataW H × List MemPlace)) (l : List Shp), shpFs (shpC T f) o fs = some l ->
     (B = maxLen \/ Rows.uptoBulkAll (xs.map (·.1)) <= B) -> xs.length = fs.length ->
     (∀ (i : Nat) p, fs[i]? = some p -> DataW.trod enc P w 0 (fun _ => true) held k p.2 ((cs.drop p.1).take (P.cellsOf p.2)) = xs[i]?) ->
     cs.length = o + l.length -> ∃ row, TySs B l row /\ CellsR T w (cs.drop o) row
 | [], o, xs, l, h1, _, _, _, hl => ⟨[], by simp [shpFs] at h1; subst h1; simp [TySs], by
     simp [shpFs] at h1
     subst h1
     have : cs.drop o = [] := List.drop_of_length_le (by rw [hl]; simp)
     rw [this]
     exact ⟨rfl, fun j v d h => by simp at h⟩⟩
 | (o', t) :: r, o, xs, l, h1, hB, hxl, hx, hl => by
  simp only [shpFs] at h1
  split at h1
  case h_2 => cases h1
  rename_i l0 hb ht
  split at h1
  case h_2 => cases h1
  rename_i m hm
  cases h1
  have ho : o' = o := Nat.eq_of_beq_eq_true hb
  obtain ⟨hs, hti⟩ := shpC_len ht
  subst ho
  cases xs with
  | nil => simp at hxl
  | cons x0 xs =>
   have h0 := hx 0 _ rfl
   simp only [List.getElem?_cons_zero] at h0
   have hb0 : B = maxLen \/ Rows.uptoBulk x0.1 <= B := by
    rcases hB with hB | hB
    . exact .inl hB
    . right; simp only [List.map_cons, Rows.uptoBulkAll] at hB; omega
   have hb1 : B = maxLen \/ Rows.uptoBulkAll (xs.map (·.1)) <= B := by
    rcases hB with hB | hB
    . exact .inl hB
    . right; simp only [List.map_cons, Rows.uptoBulkAll] at hB; omega
   simp only [List.length_append] at hl
   obtain ⟨row0, a0, r0⟩ := ih _ _ _ _ ht hb0 h0
   obtain ⟨row1, a1, r1⟩ := fields_ri ih hT cs r (o' + l0.length) xs m hm hb1 (by simpa using hxl) (fun i p hp => by
    have := hx (i + 1) p (by simpa using hp)
    simpa using this) (by omega)
   refine ⟨row0 ++ row1, a0.append a1, ?_⟩
   have hc : cs.drop o' = (cs.drop o').take (P.cellsOf t) ++ cs.drop (o' + l0.length) := by
    rw [<- cells_of hT hti, hs, <- List.drop_drop, List.take_append_drop]
   rw [hc]
   exact r0.append r1
theorem trod_ri (hT : TOk P T) (B : Nat) (hBm : B <= maxLen) : ∀ (f k : Nat) (t : TypeId) (cs : List Value) (x : DataW H × List MemPlace) (l : List Shp), shpC T f t = some l -> (B = maxLen \/ Rows.uptoBulk x.1 <= B) ->
    DataW.trod enc P w 0 (fun _ => true) held k t cs = some x -> ∃ row, TySs B l row /\ CellsR T w cs row
 | 0, _, _, _, _, _, h, _, _ => by simp [shpC] at h
 | f + 1, k, t, cs, x, l, hok, hB, h => by
  cases ht : T t with
  | none => simp [shpC, ht] at hok
  | some ti =>
   obtain ⟨s, b, kd, z⟩ := ti
   have hG := (hT t _ ht).kind
   cases kd with
   | bool =>
    obtain ⟨v, rfl, rfl⟩ := DataW.trod_bool hG h
    simp only [shpC, ht] at hok
    obtain ⟨hok, _⟩ := lenIs_some hok
    cases hok
    refine ⟨[.b (v = true)], ?_, .one (.b _ _ Iff.rfl) rfl⟩
    simp only [TySs, TyS, and_true]
    exact ⟨_, rfl⟩
   | int kk =>
    obtain ⟨n, rfl, rfl, hw⟩ := DataW.trod_int hG h
    simp only [shpC, ht] at hok
    obtain ⟨hok, _⟩ := lenIs_some hok
    cases hok
    refine ⟨[.i kk n], ?_, .one (.i _ _) rfl⟩
    simp [TySs, TyS, hw]
   | str =>
    obtain ⟨v, rfl, rfl, hl⟩ := DataW.trod_string hG h
    simp only [shpC, ht] at hok
    obtain ⟨hok, _⟩ := lenIs_some hok
    cases hok
    refine ⟨[.s v.data.toList], ?_, .one (by have := RI.s (sz := szOf T) (V := heapV w) v.data.toList; rwa [bstr_data] at this) rfl⟩
    simp only [TySs, TyS, and_true]
    refine ⟨_, rfl, ?_⟩
    have hl' : v.data.toList.length <= maxLen := by rw [Array.length_toList]; exact hl
    rcases hB with rfl | hB
    . exact hl'
    . simp only [Rows.uptoBulk] at hB; omega
   | slice e =>
    simp only [shpC, ht] at hok
    obtain ⟨hok, _⟩ := lenIs_some hok
    split at hok
    case h_2 => cases hok
    rename_i le hle
    cases hok
    obtain ⟨hse, hti⟩ := shpC_len hle
    have hce := cells_of hT hti
    rcases Go.Deep.open_slice hG h with ⟨rfl, rfl⟩ | ⟨a, len, cap, m, n, Df, Pl, rfl, _, hlc, hcm, hm, rfl, hx⟩
    . refine ⟨[.lst e [] []], ?_, .one (RI.lst e [] [] none ⟨0, 0, none⟩ 0 (fun _ _ => undef) (by simp) (by unfold maxLen; omega) (by simp) (by simp) (by simp) (by simp) (by simp)) rfl⟩
      simp only [TySs, TyS, and_true]
      exact ⟨[], [], rfl, Nat.zero_le _, fun r hr => by cases hr⟩
    . simp only [if_true] at hm
      subst hm
      have hbi : ∀ i, i < m -> (B = maxLen \/ Rows.uptoBulk (Df i) <= B) := by
       intro i hi
       rcases hB with hB | hB
       . exact .inl hB
       . right
         simp only [Rows.uptoBulk] at hB
         by_cases hil : i < len
         . have := bulk_mem (d := Df i) (l := (List.range len).map Df) (List.mem_map.2 ⟨i, by simpa using hil, rfl⟩)
           omega
         . have := bulk_mem (d := Df i) (l := (List.range (m - len)).map fun j => Df (len + j)) (List.mem_map.2 ⟨i - len, by simp; omega, by rw [show len + (i - len) = i by omega]⟩)
           omega
      have hmB : m <= B := by
       rcases hB with rfl | hB
       . exact hcm
       . simp only [Rows.uptoBulk] at hB
         have h1 := bulk_length ((List.range len).map Df)
         have h2 := bulk_length ((List.range (m - len)).map fun j => Df (len + j))
         simp at h1 h2
         omega
      have key : ∀ i, i < m -> ∃ p : List Value × List D, w.cells? 0 (a.add (i * szOf T e)) (szOf T e) = some p.1 /\ TySs B le p.2 /\ CellsR T w p.1 p.2 := by
       intro i hi
       obtain ⟨cs', h1, h2⟩ := hx i hi
       obtain ⟨row, h3, h4⟩ := trod_ri hT B hBm f n e cs' _ le hle (hbi i hi) h2
       exact ⟨(cs', row), by rw [hce]; exact h1, h3, h4⟩
      obtain ⟨g, hg⟩ := Go.Deep.choose_lt key
      have hat : ∀ (i : Nat) row, (((List.range len).map fun i => (g i).2) ++ ((List.range (m - len)).map fun j => (g (len + j)).2))[i]? = some row -> i < m /\ row = (g i).2 := by
       intro i row hr
       by_cases hil : i < len
       . rw [List.getElem?_append_left (by simpa using hil)] at hr
         simp [hil] at hr
         exact ⟨by omega, hr.symm⟩
       . rw [List.getElem?_append_right (by simp; omega)] at hr
         simp only [List.length_map, List.length_range, List.getElem?_map, Option.map_eq_some_iff] at hr
         obtain ⟨j, hj, rfl⟩ := hr
         have hj2 := List.getElem?_eq_some_iff.1 hj
         obtain ⟨hj3, hj4⟩ := hj2
         simp at hj3 hj4
         refine ⟨by omega, by rw [<- hj4, show len + (i - len) = i by omega]⟩
      have hcell : ∀ i, i < m -> (g i).1.length = szOf T e /\ ∀ j, j < szOf T e -> w.cell? ((a.add (i * szOf T e)).add j) = (g i).1[j]? := by
       intro i hi
       obtain ⟨_, h2, h3⟩ := World.cells?_some (hg i hi).1
       exact ⟨h2, h3⟩
      refine ⟨[.lst e ((List.range len).map fun i => (g i).2) ((List.range (m - len)).map fun j => (g (len + j)).2)], ?_, .one ?_ rfl⟩
      . simp only [TySs, TyS, and_true]
        refine ⟨_, _, rfl, by simp; omega, fun r hr => ?_⟩
        obtain ⟨i, hi⟩ := List.getElem?_of_mem hr
        obtain ⟨h1, rfl⟩ := hat i r hi
        exact (hg i h1).2.1
      . have hres := RI.lst (sz := szOf T) (V := heapV w) e ((List.range len).map fun i => (g i).2) ((List.range (m - len)).map fun j => (g (len + j)).2) (some a) a m (fun i j => (g i).1.getD j undef)
          (by simp; omega) hcm (fun _ => rfl) (fun hno => by cases hno)
          (fun i row hr => by
           obtain ⟨h1, rfl⟩ := hat i row hr
           rw [<- (hg i h1).2.2.1, (hcell i h1).1])
          (fun i row j d hr hd => by
           obtain ⟨h1, rfl⟩ := hat i row hr
           have hj : j < (g i).1.length := by rw [(hg i h1).2.2.1]; exact (List.getElem?_eq_some_iff.1 hd).1
           have h2 := (hcell i h1).2 j (by rw [<- (hcell i h1).1]; exact hj)
           have hv : (g i).1[j]? = some ((g i).1.getD j undef) := by simp [List.getD, List.getElem?_eq_getElem hj]
           refine ⟨?_, ((hg i h1).2.2.2 j _ d hv hd).2⟩
           show w.cell? _ = _
           rw [<- add_add, h2, hv])
          (fun i row j d hr hd => by
           obtain ⟨h1, rfl⟩ := hat i row hr
           have hj : j < (g i).1.length := by rw [(hg i h1).2.2.1]; exact (List.getElem?_eq_some_iff.1 hd).1
           have hv : (g i).1[j]? = some ((g i).1.getD j undef) := by simp [List.getD, List.getElem?_eq_getElem hj]
           exact ((hg i h1).2.2.2 j _ d hv hd).1)
        simpa using hres
   | struct fs =>
    simp only [shpC, ht] at hok
    obtain ⟨hok, hs⟩ := lenIs_some hok
    obtain ⟨fa, hu, hfa⟩ := hG
    obtain ⟨xs, n, _, rfl, hl, hxl, hx⟩ := DataW.trod_struct hu h
    have hc : P.cellsOf t = s := by
     obtain ⟨i, z', h1, h2, _⟩ := (hT t _ ht).info
     simp [Program.cellsOf, h1, h2]
    have hfl : fs.length = fa.size := by rw [<- hfa]; simp
    obtain ⟨row, h1, h2⟩ := fields_ri (fun t cs x l a b c => trod_ri hT B hBm f n t cs x l a b c) hT cs fs 0 xs l hok (by
        rcases hB with hB | hB
        . exact .inl hB
        . right; simp only [Rows.uptoBulk] at hB; omega) (by rw [hxl, hfl]) (fun i p hp => by
        rw [<- hfa] at hp
        simp only [List.getElem?_map, Option.map_eq_some_iff] at hp
        obtain ⟨fd, h3, rfl⟩ := hp
        exact hx i fd (by simpa using h3)) (by rw [hl, hc, hs, Nat.zero_add])
    exact ⟨row, h1, by simpa using h2⟩
   | array n e => simp [shpC, ht] at hok
   | ptr e => simp [shpC, ht] at hok
   | other => simp [shpC, ht] at hok
end
end Go.Vx
namespace Go.Vx
open Go.RowKit Go.ChangeShapes Go.WideShapes
open Go.Proofs.YtagmibogginaaaaGreatDoor (Rows.uptoBulk Rows.uptoBulkAll)
def shapes (T : Tab) (f : Nat) : List TypeId -> Option (List (List Shp))
 | [] => some []
 | t :: ts => match shpC T f t, shapes T f ts with | some l, some r => some (l :: r) | _, _ => none
def TyAs (T : Tab) (B : Nat) : List TypeId -> List (List Shp) -> List D -> Prop
 | [], [], [] => True
 | t :: ts, l :: ls, x :: xs => TyA T B t l x /\ TyAs T B ts ls xs
 | _, _, _ => False
section
variable {H : Type} {enc : TypeId × Value → H} {P : Program} {T : Tab} {w : World}
theorem arg_ri (hT : TOk P T) {B : Nat} (hBm : B <= maxLen) {f base : Nat} {r : Reach} {t : TypeId} {v : Value} {d : DataW H} {ps : List MemPlace} {l : List Shp} (hs : shpC T f t = some l) (hB : B = maxLen \/ Rows.uptoBulk d <= B)
    (hv : Value.okWide P w r base t v) (h : DataW.Trod enc P w 0 (fun _ => true) true t v d ps) : ∃ x, TyA T B t l x /\ RI (szOf T) (heapV w) v x := by
 obtain ⟨k, hk⟩ := h
 obtain ⟨row, h1, h2⟩ := trod_ri hT B hBm f k t _ _ l hs hB hk
 obtain ⟨hz, ti, ht⟩ := shpC_len hs
 obtain ⟨s, b, kd, z⟩ := ti
 have hG := (hT t _ ht).kind
 have one : ∀ u, v = u -> u.cells = #[u] -> TyA T B t l = (fun x => TySs B l [x]) -> ∃ x, TyA T B t l x /\ RI (szOf T) (heapV w) v x := by
  rintro u rfl hu he
  rw [hu] at h2
  obtain ⟨h3, h4⟩ := h2
  match row, h3 with
  | [x], _ => exact ⟨x, by rw [he]; exact h1, (h4 0 v x rfl rfl).1⟩
 cases kd with
 | bool => obtain ⟨u, rfl⟩ := okWide_bool hG hv; exact one _ rfl rfl (by funext x; simp [TyA, ht])
 | int kk => obtain ⟨u, rfl⟩ := okWide_int hG hv; exact one _ rfl rfl (by funext x; simp [TyA, ht])
 | str => obtain ⟨u, rfl⟩ := okWide_string hG hv; exact one _ rfl rfl (by funext x; simp [TyA, ht])
 | slice e => obtain ⟨a, m, n, rfl⟩ := okWide_slice hG hv; exact one _ rfl rfl (by funext x; simp [TyA, ht])
 | struct fs =>
  obtain ⟨fa, hu, _⟩ := hG
  obtain ⟨cs, rfl, _⟩ := okWide_struct hu hv
  refine ⟨.agg row, by simp only [TyA, ht]; exact ⟨row, rfl, h1⟩, ?_⟩
  simp only [Value.cells] at h2
  refine RI.agg row cs (by simpa using h2.1) (fun u hu => ?_) (fun j u d a b => (h2.2 j u d (by simpa using a) b).1)
  obtain ⟨j, hj⟩ := List.getElem?_of_mem hu
  have hl : j < row.length := by rw [<- h2.1]; exact (List.getElem?_eq_some_iff.1 hj).1
  exact (h2.2 j u _ hj (List.getElem?_eq_getElem hl)).2
 | array n e => cases f with | zero => simp [shpC] at hs | succ f => simp [shpC, ht] at hs
 | ptr e => cases f with | zero => simp [shpC] at hs | succ f => simp [shpC, ht] at hs
 | other => cases f with | zero => simp [shpC] at hs | succ f => simp [shpC, ht] at hs
theorem args_ri (hT : TOk P T) {B : Nat} (hBm : B <= maxLen) {f base : Nat} {r : Reach} : ∀ (ts : List TypeId) (ls : List (List Shp)) (vs : List Value) (ds : List (DataW H)) (ps : List MemPlace), shapes T f ts = some ls ->
    (B = maxLen \/ Rows.uptoBulkAll ds <= B) -> (∀ (j : Nat) t v, ts[j]? = some t -> vs[j]? = some v -> Value.okWide P w r base t v) -> DataW.TrodAll enc P w 0 (fun _ => true) true ts vs ds ps ->
    ∃ xs, TyAs T B ts ls xs /\ vs.length = xs.length /\ ∀ (j : Nat) v x, vs[j]? = some v -> xs[j]? = some x -> RI (szOf T) (heapV w) v x
 | [], ls, vs, ds, ps, hs, _, _, h => by
  obtain ⟨rfl, rfl, rfl⟩ := trodAll_nil h
  cases hs
  exact ⟨[], trivial, rfl, fun j v x h => by simp at h⟩
 | t :: ts, ls, vs, ds, ps, hs, hB, hv, h => by
  obtain ⟨v, vs', d, ds', p, q, rfl, rfl, rfl, h1, h2⟩ := trodAll_cons h
  simp only [shapes] at hs
  split at hs
  case h_2 => cases hs
  rename_i l r h3 h4
  cases hs
  obtain ⟨x, hx1, hx2⟩ := arg_ri hT hBm h3 (by
   rcases hB with hB | hB
   . exact .inl hB
   . right; simp only [Rows.uptoBulkAll] at hB; omega) (hv 0 t v rfl rfl) h1
  obtain ⟨xs, hy1, hy2, hy3⟩ := args_ri hT hBm ts r vs' ds' q h4 (by
   rcases hB with hB | hB
   . exact .inl hB
   . right; simp only [Rows.uptoBulkAll] at hB; omega) (fun j t' v' a b => hv (j + 1) t' v' (by simpa using a) (by simpa using b)) h2
  refine ⟨x :: xs, ⟨hx1, hy1⟩, by simp [hy2], fun j v' x' a b => ?_⟩
  cases j with
  | zero => simp at a b; subst a b; exact hx2
  | succ j => exact hy3 j v' x' (by simpa using a) (by simpa using b)
theorem stays (hl : laidOutB P = true) {W W' : World} (hb : Below W.heap.size W W') {sp : Nat -> Bool} : ∀ (ts : List TypeId) (vs : List Value) (ds : List (DataW H)) (ps : List MemPlace), (∀ t ∈ ts, P.readableRec t = true /\ t < P.types.size) ->
    (∀ p ∈ ps, p.block < W.heap.size) -> (∀ p ∈ ps, sp p.block = true) -> DataW.TrodAll enc P W 0 (fun _ => true) true ts vs ds ps -> DataW.TrodAll enc P W' 0 sp true ts vs ds ps
 | [], vs, ds, ps, _, _, _, h => by
  obtain ⟨rfl, rfl, rfl⟩ := trodAll_nil h
  exact trodAll_mk0
 | t :: ts, vs, ds, ps, ht, h1, h2, h => by
  obtain ⟨v, vs', d, ds', p, q, rfl, rfl, rfl, h3, h4⟩ := trodAll_cons h
  refine ⟨p, q, WideElems.Trod_stays hl (ht t (by simp)).1 (ht t (by simp)).2 h3 (fun x hx => hb.same (h1 x (by simp [hx]))) (fun x hx => h2 x (by simp [hx])),
   stays hl hb ts vs' ds' q (fun t' hm => ht t' (by simp [hm])) (fun x hx => h1 x (by simp [hx])) (fun x hx => h2 x (by simp [hx])) h4, rfl⟩
theorem trod_len : ∀ {ts : List TypeId} {vs : List Value} {ds : List (DataW H)} {ps : List MemPlace}, DataW.TrodAll enc P w 0 (fun _ => true) true ts vs ds ps -> ds.length = ts.length
 | [], _, _, _, h => by obtain ⟨rfl, rfl, rfl⟩ := trodAll_nil h; rfl
 | _ :: _, _, _, _, h => by
  obtain ⟨v, vs', d, ds', p, q, rfl, rfl, rfl, _, h4⟩ := trodAll_cons h
  simp [trod_len h4]
theorem law_calls (hT : TOk P T) {B : Nat} (hBm : B <= maxLen) {f : FuncId} {fn : Func} {s : ChangeSpec} {ls : List (List Shp)} {n : Nat} {tb : TypeId} {ts : List TypeId} (hp : fn.params.toList = ts) (hr : fn.resultTypes = #[tb]) (htb : P.underlying tb = some .bool)
    (hsv : s.vars = []) (hs : ∀ (ds : List (DataW H)), ds.length = ts.length -> s.fn H ds = { results := [.lit (.bool true)], args := ds })
    (hl : laidOutB P = true) (hts : ∀ t ∈ ts, P.readableRec t = true /\ t < P.types.size) (hsh : shapes T n ts = some ls)
    (hlaw : ∀ xs, TyAs T B ts ls xs -> FSpec P T f xs (fun d _ => d = .b True))
    (W : World) (base : Nat) (args : Array Value) (ds gs : List (DataW H)) (before : List MemPlace)
    (hval : ∀ (j : Nat) t v, fn.params[j]? = some t -> args[j]? = some v -> Value.okWide P W .any base t v)
    (hW : DataW.Whole enc P fn.params.toList s.vars false W args.toList ds gs before) (hB : B = maxLen \/ Rows.uptoBulkAll (ds ++ gs) <= B)
    (hgl : VLe glV (heapV W) := by intro p v hp; unfold glV glD at hp; split at hp <;> cases hp) :
    Calls P f args W fun e W' => ∃ v, e = .returned v /\ s.post enc P fn false true false false W args v W' := by
 have hlt := hW.lt
 obtain ⟨p, q, hA, hV, rfl, hfz, hnd⟩ := id hW
 rw [hsv] at hV
 obtain ⟨rfl, rfl⟩ := trodVars_none hV
 simp only [List.append_nil] at hlt hB hfz
 rw [hp] at hA
 obtain ⟨xs, h1, h2, h3⟩ := args_ri hT hBm ts ls args.toList ds p hsh hB (fun j t v a b => hval j t v (by rw [<- hp] at a; simpa using a) (by simpa using b)) hA
 have hdl : ds.length = ts.length := trod_len hA
 refine ((hlaw xs h1).run (heapV W) W args ⟨hgl, fun _ _ h => h⟩ (by simpa using h2) (fun j v d a b => h3 j v d (by simpa using a) b)).mono fun e W' hx => ?_
 obtain ⟨V', ω, row, v, d, rfl, hd, hRS, hres⟩ := hx
 subst hd
 obtain ⟨b, rfl, hbt⟩ := hRS.bool
 have hbt : b = true := hbt.2 trivial
 subst hbt
 refine ⟨_, rfl, ?_⟩
 have hb := hres.below
 have hargs : ∀ sp : Nat -> Bool, (∀ x ∈ p, sp x.block = true) -> DataW.TrodAll enc P W' 0 sp true fn.params.toList args.toList ds p := fun sp hsp => by
  rw [hp]; exact stays hl hb ts args.toList ds p hts hlt hsp hA
 have hrs : ∀ (b : Nat) (sp : Nat -> Bool) (hd : Bool), DataW.TrodAll enc P W' b sp hd fn.resultTypes.toList ((Value.bool true).resultList fn.resultTypes.size) [.lit (.bool true)] [] := fun b sp hd => by
  rw [hr]
  exact trodAll_mk1 (shut_bool htb _)
 have hsf := hs ds hdl
 refine ⟨ds, [], p, [], p, [], by simpa using hW, ?_, ?_, ?_, ?_, ?_⟩
 . rw [List.append_nil, hsf]; exact hrs _ _ _
 . rw [List.append_nil, hsf]; exact hargs _ fun x hx => by simpa using hlt x hx
 . rw [hsv, List.append_nil, hsf]; exact rfl
 . exact World.keptBut_mono (fun x hx => ⟨hx, by simpa using hx⟩) (hb.frame (· ∈ p))
 . intro _
   refine ⟨?_, ?_⟩
   . exact ok_one hr rfl (okWide_bool_mk htb _)
   . refine ⟨_, [], ([] ++ p) ++ [], ⟨[] ++ p, [], trodAll_append (hargs _ (fun _ _ => rfl)) (hrs 0 _ _), ?_, rfl, ?_, fun h => by cases h⟩, fun x hx _ => by simpa using hx⟩
     . rw [hsv]; rfl
     . intro b off hx
       have hin : MemPlace.cell b off ∈ p := by simpa using hx
       rw [hb.frozen (hlt _ hin)]
       exact hfz b off hin
end
end Go.Vx
namespace Go.Vx
open Go.RowKit
theorem ss_cons {B : Nat} {s : Shp} {ss : List Shp} {r : List D} (h : TySs B (s :: ss) r) : ∃ d ds, r = d :: ds /\ TySs B [s] [d] /\ TySs B ss ds := by
 cases r with
 | nil => simp [TySs] at h
 | cons d ds => simp only [TySs] at h; exact ⟨d, ds, rfl, by simpa only [TySs, and_true] using h.1, h.2⟩
theorem ss_nil {B : Nat} {r : List D} (h : TySs B [] r) : r = [] := by
 cases r with
 | nil => rfl
 | cons d ds => simp [TySs] at h
theorem as_cons {T : Tab} {B : Nat} {t : TypeId} {ts : List TypeId} {l : List Shp} {ls : List (List Shp)} {xs : List D} (h : TyAs T B (t :: ts) (l :: ls) xs) : ∃ x r, xs = x :: r /\ TyA T B t l x /\ TyAs T B ts ls r := by
 cases xs with
 | nil => exact h.elim
 | cons x r => exact ⟨x, r, rfl, h.1, h.2⟩
theorem as_nil {T : Tab} {B : Nat} {xs : List D} (h : TyAs T B [] [] xs) : xs = [] := by
 cases xs with
 | nil => rfl
 | cons x r => exact h.elim
def isSt : Option TI -> Bool | some ⟨_, _, .struct _, _⟩ => true | _ => false
theorem leaf {T : Tab} {B : Nat} {t : TypeId} {l : List Shp} {x : D} (h : TyA T B t l x) (ht : isSt (T t) = false) : TySs B l [x] := by
 unfold TyA at h
 split at h
 . rename_i h1; rw [h1] at ht; cases ht
 . exact h
theorem list_of {α : Type} {f : α -> List D} {p : α -> Prop} : ∀ {rows : List (List D)}, (∀ r ∈ rows, ∃ a, r = f a /\ p a) -> ∃ l : List α, rows = l.map f /\ ∀ a ∈ l, p a
 | [], _ => ⟨[], rfl, by simp⟩
 | r :: rows, h => by
  obtain ⟨a, rfl, ha⟩ := h r (by simp)
  obtain ⟨l, rfl, hl⟩ := list_of (rows := rows) fun r hr => h r (by simp [hr])
  exact ⟨a :: l, rfl, by simpa using ⟨ha, hl⟩⟩
theorem lst_of {B : Nat} {α : Type} {f : α -> List D} {p : α -> Prop} {e : TypeId} {l : List Shp} {x : D} (h : TySs B [.slice e l] [x]) (hf : ∀ r, TySs B l r -> ∃ a, r = f a /\ p a) :
    ∃ (us : List α) (room : List α), x = .lst e (us.map f) (room.map f) /\ us.length + room.length <= B /\ (∀ a ∈ us, p a) /\ ∀ a ∈ room, p a := by
 simp only [TySs, TyS, and_true] at h
 obtain ⟨rows, room, rfl, hl, hr⟩ := h
 obtain ⟨us, rfl, h1⟩ := list_of (f := f) (p := p) (rows := rows) fun r h => hf r (hr r (by simp [h]))
 obtain ⟨bs, rfl, h2⟩ := list_of (f := f) (p := p) (rows := room) fun r h => hf r (hr r (by simp [h]))
 exact ⟨us, bs, rfl, by simpa using hl, h1, h2⟩
theorem int_of {B : Nat} {k : IntKind} {x : D} (h : TySs B [.int k] [x]) : ∃ n, x = .i k n /\ (Lit.int k n).wf = true := by
 simpa only [TySs, TyS, and_true] using h
theorem str_of {B : Nat} {x : D} (h : TySs B [.str] [x]) : ∃ l, x = .s l /\ l.length <= B := by
 simpa only [TySs, TyS, and_true] using h
end Go.Vx
namespace Go.Proofs.YtagmibogginaaaaGreatDoor
open Go
abbrev Str := List UInt8
def meet1 (a b : UInt8) : Option UInt8 := if a = 120 then some b else if b = 120 \/ b = a then some a else none
def meetL : Str -> Str -> Option Str
 | [], [] => some []
 | a :: c, b :: d => match meet1 a b, meetL c d with
  | some x, some r => some (x :: r)
  | _, _ => none
 | _, _ => none
def meetT (c d : Str) : Option Str := if c = [] then none else meetL c d
def inL : Str -> Str -> Prop
 | [], [] => True
 | a :: c, b :: d => (b = 120 \/ b = a) /\ inL c d
 | _, _ => False
def inT (c d : Str) : Prop := c ≠ [] /\ inL c d
theorem inL_refl : ∀ c : Str, inL c c
 | [] => trivial
 | _ :: c => ⟨.inr rfl, inL_refl c⟩
theorem inL_trans : ∀ {c d e : Str}, inL c d -> inL d e -> inL c e
 | [], [], [], _, _ => trivial
 | [], [], _ :: _, _, h => h.elim
 | [], _ :: _, _, h, _ => h.elim
 | _ :: _, [], _, h, _ => h.elim
 | _ :: _, _ :: _, [], _, h => h.elim
 | a :: c, b :: d, x :: e, h, k => ⟨by
     rcases k.1 with k1 | k1
     . exact .inl k1
     . rcases h.1 with h1 | h1
       . exact .inl (by rw [k1, h1])
       . exact .inr (by rw [k1, h1]), inL_trans h.2 k.2⟩
theorem inL_antisymm : ∀ {c d : Str}, inL c d -> inL d c -> c = d
 | [], [], _, _ => rfl
 | [], _ :: _, h, _ => h.elim
 | _ :: _, [], h, _ => h.elim
 | a :: c, b :: d, h, k => by
  rw [inL_antisymm h.2 k.2]
  rcases h.1 with h1 | h1
  . rcases k.1 with k1 | k1
    . rw [h1, k1]
    . rw [k1]
  . rw [h1]
theorem inL_len : ∀ {c d : Str}, inL c d -> c.length = d.length
 | [], [], _ => rfl
 | [], _ :: _, h => h.elim
 | _ :: _, [], h => h.elim
 | _ :: _, _ :: _, h => by simp [inL_len h.2]
theorem meetL_len : ∀ {c d m : Str}, meetL c d = some m -> c.length = m.length /\ d.length = m.length
 | [], [], m, h => by cases h; exact ⟨rfl, rfl⟩
 | [], _ :: _, _, h => by cases h
 | _ :: _, [], _, h => by cases h
 | a :: c, b :: d, m, h => by
  unfold meetL at h
  cases h1 : meet1 a b with
  | none => rw [h1] at h; cases h
  | some x => cases h2 : meetL c d with
   | none => rw [h1, h2] at h; cases h
   | some r =>
    rw [h1, h2] at h
    cases h
    have := meetL_len h2
    simp [this.1, this.2]
theorem meetL_in : ∀ {c d m : Str}, meetL c d = some m -> inL m c /\ inL m d
 | [], [], m, h => by cases h; exact ⟨trivial, trivial⟩
 | [], _ :: _, _, h => by cases h
 | _ :: _, [], _, h => by cases h
 | a :: c, b :: d, m, h => by
  unfold meetL at h
  cases h1 : meet1 a b with
  | none => rw [h1] at h; cases h
  | some x => cases h2 : meetL c d with
   | none => rw [h1, h2] at h; cases h
   | some r =>
    rw [h1, h2] at h
    cases h
    have ih := meetL_in h2
    unfold meet1 at h1
    split at h1
    . rename_i ha; cases h1; exact ⟨⟨.inl ha, ih.1⟩, ⟨.inr rfl, ih.2⟩⟩
    . split at h1
      . rename_i hb
        cases h1
        exact ⟨⟨.inr rfl, ih.1⟩, ⟨hb, ih.2⟩⟩
      . cases h1
theorem meetL_glb : ∀ {e c d : Str}, inL e c -> inL e d -> ∃ m, meetL c d = some m /\ inL e m
 | [], [], [], _, _ => ⟨[], rfl, trivial⟩
 | [], _ :: _, _, h, _ => h.elim
 | [], [], _ :: _, _, h => h.elim
 | _ :: _, [], _, h, _ => h.elim
 | _ :: _, _ :: _, [], _, h => h.elim
 | x :: e, a :: c, b :: d, h, k => by
  obtain ⟨m, hm, hi⟩ := meetL_glb h.2 k.2
  unfold meetL
  rw [hm]
  by_cases ha : a = 120
  . exact ⟨b :: m, by simp [meet1, ha], k.1, hi⟩
  . have hax : a = x := h.1.resolve_left ha
    have hb : b = 120 \/ b = a := by rw [hax]; exact k.1
    exact ⟨a :: m, by simp [meet1, ha, hb], .inr hax, hi⟩
theorem meetL_self {c d : Str} : meetL c d = some c ↔ inL c d := by
 constructor
 . intro h; exact (meetL_in h).2
 . intro h
   obtain ⟨m, hm, hi⟩ := meetL_glb (inL_refl c) h
   rw [hm, inL_antisymm hi (meetL_in hm).1]
theorem inT_trans {c d e : Str} (h : inT c d) (k : inT d e) : inT c e := ⟨h.1, inL_trans h.2 k.2⟩
open Classical in
noncomputable def addG {α : Type} (R : α -> α -> Prop) (k : List α) (x : α) : List α := if ∃ y ∈ k, R x y then k else k.filter (fun y => decide (¬ R y x)) ++ [x]
noncomputable def grG {α : Type} (R : α -> α -> Prop) (l : List α) : List α := l.foldl (addG R) []
structure Anti {α : Type} (R : α -> α -> Prop) (l k : List α) : Prop where
 sub : ∀ x ∈ k, x ∈ l
 anti : k.Pairwise fun x y => ¬ R x y /\ ¬ R y x
 cov : ∀ x ∈ l, ∃ y ∈ k, R x y
open Classical in
theorem grG_anti {α : Type} {R : α -> α -> Prop} (ht : ∀ x y z, R x y -> R y z -> R x z) (l : List α) (hr : ∀ x ∈ l, R x x) : Anti R l (grG R l) := by
 have go : ∀ (l k l0 : List α), (∀ x ∈ l, R x x) -> Anti R l0 k -> Anti R (l0 ++ l) (l.foldl (addG R) k) := by
  intro l
  induction l with
  | nil => intro k l0 _ h; simpa using h
  | cons x l ih =>
   intro k l0 hr h
   have hx : Anti R (l0 ++ [x]) (addG R k x) := by
    unfold addG
    split
    . rename_i hh
      exact ⟨fun y hy => by simp [h.sub y hy], h.anti, fun y hy => by
       rcases List.mem_append.1 hy with hy | hy
       . exact h.cov y hy
       . simp at hy; subst hy; exact hh⟩
    . rename_i hh
      refine ⟨fun y hy => ?_, ?_, fun y hy => ?_⟩
      . rcases List.mem_append.1 hy with hy | hy
        . simp [h.sub y (List.mem_filter.1 hy).1]
        . simp at hy; simp [hy]
      . rw [List.pairwise_append]
        refine ⟨h.anti.filter _, by simp, fun a ha b hb => ?_⟩
        simp at hb
        subst hb
        obtain ⟨h1, h2⟩ := List.mem_filter.1 ha
        exact ⟨by simpa using h2, fun h3 => hh ⟨a, h1, h3⟩⟩
      . rcases List.mem_append.1 hy with hy | hy
        . obtain ⟨z, hz, hyz⟩ := h.cov y hy
          by_cases hzx : R z x
          . exact ⟨x, by simp, ht _ _ _ hyz hzx⟩
          . exact ⟨z, by simp [hz, hzx], hyz⟩
        . simp at hy; subst hy; exact ⟨y, by simp, hr y (by simp)⟩
   have := ih (addG R k x) (l0 ++ [x]) (fun y hy => hr y (by simp [hy])) hx
   simpa [List.append_assoc] using this
 show Anti R l (l.foldl (addG R) [])
 simpa using go l [] [] hr ⟨by simp, by simp, by simp⟩
theorem Anti.mem_iff {α : Type} {R : α -> α -> Prop} (ht : ∀ x y z, R x y -> R y z -> R x z) (ha : ∀ x y, R x y -> R y x -> x = y) {l k k' : List α} (h : Anti R l k) (h' : Anti R l k') (x : α) : x ∈ k -> x ∈ k' := by
 intro hx
 obtain ⟨y, hy, hxy⟩ := h'.cov x (h.sub x hx)
 obtain ⟨z, hz, hyz⟩ := h.cov y (h'.sub y hy)
 have hxz : x = z := by
  apply Classical.byContradiction
  intro hne
  have hR := ht _ _ _ hxy hyz
  obtain ⟨i, hi, rfl⟩ := List.getElem_of_mem hx
  obtain ⟨j, hj, rfl⟩ := List.getElem_of_mem hz
  have hij : i ≠ j := fun e => hne (by subst e; rfl)
  rcases Nat.lt_or_gt_of_ne hij with hlt | hgt
  . exact (List.pairwise_iff_getElem.1 h.anti i j hi hj hlt).1 hR
  . exact (List.pairwise_iff_getElem.1 h.anti j i hj hi hgt).2 hR
 subst hxz
 rw [ha _ _ hxy hyz]
 exact hy
theorem Anti.nodup {α : Type} {R : α -> α -> Prop} (hr : ∀ x, R x x) {l k : List α} (h : Anti R l k) : k.Nodup :=
 h.anti.imp fun {a b} hab e => hab.1 (by rw [e]; exact hr b)
theorem Anti.perm {α : Type} {R : α -> α -> Prop} (hr : ∀ x, R x x) (ht : ∀ x y z, R x y -> R y z -> R x z) (ha : ∀ x y, R x y -> R y x -> x = y) {l k k' : List α} (h : Anti R l k) (h' : Anti R l k') : k.Perm k' :=
 (List.perm_ext_iff_of_nodup (h.nodup hr) (h'.nodup hr)).2 fun x => ⟨h.mem_iff ht ha h' x, h'.mem_iff ht ha h x⟩
theorem sorted_uniq {α : Type} {L : α -> α -> Prop} (hirr : ∀ x, ¬ L x x) (htr : ∀ x y z, L x y -> L y z -> L x z) {k k' : List α} (hp : k.Perm k') (h : k.Pairwise L) (h' : k'.Pairwise L) : k = k' :=
 hp.eq_of_pairwise (le := L) (fun _ _ _ _ hab hba => absurd (htr _ _ _ hab hba) (hirr _)) h h'
open Classical in
noncomputable def insG {α : Type} (L : α -> α -> Prop) (c : α) : List α -> List α
 | [] => [c]
 | x :: r => if L c x then c :: x :: r else x :: insG L c r
open Classical in
noncomputable def putG {α : Type} (R L : α -> α -> Prop) (k : List α) (c : α) : List α := if ∃ y ∈ k, R c y then k else insG L c (k.filter fun x => decide (¬ R x c))
theorem insG_perm {α : Type} (L : α -> α -> Prop) (c : α) : ∀ l : List α, (insG L c l).Perm (c :: l)
 | [] => .refl _
 | x :: r => by
  unfold insG
  split
  . exact .refl _
  . exact ((insG_perm L c r).cons x).trans (.swap c x r)
theorem insG_sorted {α : Type} {L : α -> α -> Prop} (ht : ∀ x y z, L x y -> L y z -> L x z) (c : α) : ∀ l : List α, (∀ x ∈ l, L c x \/ L x c) -> l.Pairwise L -> (insG L c l).Pairwise L
 | [], _, _ => by simp [insG]
 | x :: r, hc, h => by
  unfold insG
  have h2 := List.pairwise_cons.1 h
  split
  . rename_i hcx
    exact List.pairwise_cons.2 ⟨fun y hy => by
     rcases List.mem_cons.1 hy with rfl | hy
     . exact hcx
     . exact ht _ _ _ hcx (h2.1 y hy), h⟩
  . rename_i hcx
    have hxc : L x c := (hc x (by simp)).resolve_left hcx
    refine List.pairwise_cons.2 ⟨fun y hy => ?_, insG_sorted ht c r (fun y hy => hc y (by simp [hy])) h2.2⟩
    rcases List.mem_cons.1 ((insG_perm L c r).mem_iff.1 hy) with rfl | hy
    . exact hxc
    . exact h2.1 y hy
open Classical in
theorem putG_fold {α : Type} {R L : α -> α -> Prop} (hr : ∀ x, R x x) (ht : ∀ x y z, R x y -> R y z -> R x z) (lt : ∀ x y z, L x y -> L y z -> L x z) (tot : ∀ x y, x ≠ y -> L x y \/ L y x) (l : List α) :
    Anti R l (l.foldl (putG R L) []) /\ (l.foldl (putG R L) []).Pairwise L := by
 have go : ∀ (l k l0 : List α), Anti R l0 k -> k.Pairwise L -> Anti R (l0 ++ l) (l.foldl (putG R L) k) /\ (l.foldl (putG R L) k).Pairwise L := by
  intro l
  induction l with
  | nil => intro k l0 h h2; exact ⟨by simpa using h, h2⟩
  | cons x l ih =>
   intro k l0 h h2
   have hx : Anti R (l0 ++ [x]) (putG R L k x) /\ (putG R L k x).Pairwise L := by
    unfold putG
    split
    . rename_i hh
      exact ⟨⟨fun y hy => by simp [h.sub y hy], h.anti, fun y hy => by
       rcases List.mem_append.1 hy with hy | hy
       . exact h.cov y hy
       . simp at hy; subst hy; exact hh⟩, h2⟩
    . rename_i hh
      have hp := insG_perm L x (k.filter fun y => decide (¬ R y x))
      have hsub : ∀ y ∈ k.filter (fun y => decide (¬ R y x)), y ∈ k /\ ¬ R y x := fun y hy => by
       obtain ⟨h1, h2⟩ := List.mem_filter.1 hy
       exact ⟨h1, by simpa using h2⟩
      refine ⟨⟨fun y hy => ?_, ?_, fun y hy => ?_⟩, ?_⟩
      . rcases List.mem_cons.1 (hp.mem_iff.1 hy) with rfl | hy
        . simp
        . simp [h.sub y (hsub y hy).1]
      . refine (hp.pairwise_iff (fun {a b} hab => ⟨hab.2, hab.1⟩)).2 (List.pairwise_cons.2 ⟨fun y hy => ⟨fun h3 => hh ⟨y, (hsub y hy).1, h3⟩, (hsub y hy).2⟩, h.anti.filter _⟩)
      . rcases List.mem_append.1 hy with hy | hy
        . obtain ⟨z, hz, hyz⟩ := h.cov y hy
          by_cases hzx : R z x
          . exact ⟨x, hp.mem_iff.2 (by simp), ht _ _ _ hyz hzx⟩
          . exact ⟨z, hp.mem_iff.2 (by simp [hz, hzx]), hyz⟩
        . simp at hy; subst hy; exact ⟨y, hp.mem_iff.2 (by simp), hr y⟩
      . refine insG_sorted lt x _ (fun y hy => tot x y fun e => ?_) (h2.filter _)
        subst e
        exact (hsub x hy).2 (hr x)
   have := ih (putG R L k x) (l0 ++ [x]) hx.1 hx.2
   simpa [List.append_assoc] using this
 simpa using go l [] [] ⟨by simp, by simp, by simp⟩ (by simp)
theorem sorted_eq_put {α : Type} {R L : α -> α -> Prop} (hr : ∀ x, R x x) (ht : ∀ x y z, R x y -> R y z -> R x z) (ha : ∀ x y, R x y -> R y x -> x = y) (hirr : ∀ x, ¬ L x x) (lt : ∀ x y z, L x y -> L y z -> L x z) (tot : ∀ x y, x ≠ y -> L x y \/ L y x)
    {l k : List α} (hp : k.Perm (grG R l)) (hs : k.Pairwise L) : k = l.foldl (putG R L) [] := by
 have h := putG_fold hr ht lt tot l
 exact sorted_uniq hirr lt (hp.trans ((grG_anti ht l fun x _ => hr x).perm hr ht ha h.1)) hs h.2
theorem bl_eq : ∀ (x y : Str), Op.bytesLess x y = true ↔ x < y
 | [], [] => by simp [Op.bytesLess]
 | _ :: _, [] => by simp [Op.bytesLess]
 | [], _ :: _ => by simp [Op.bytesLess]
 | a :: x, b :: y => by
  simp only [Op.bytesLess, Bool.or_eq_true, Bool.and_eq_true, decide_eq_true_eq, beq_iff_eq, bl_eq x y, List.cons_lt_cons_iff]
theorem bl_irrefl (x : Str) : ¬ Op.bytesLess x x = true := by
 rw [bl_eq]; exact List.lt_irrefl x
theorem bl_trans {x y z : Str} (h : Op.bytesLess x y = true) (k : Op.bytesLess y z = true) : Op.bytesLess x z = true := by
 rw [bl_eq] at *
 exact List.lt_trans h k
theorem bl_total {x y : Str} (h : x ≠ y) : Op.bytesLess x y = true \/ Op.bytesLess y x = true := by
 rw [bl_eq, bl_eq]
 by_cases h1 : x < y
 . exact .inl h1
 . right
   rcases List.le_iff_lt_or_eq.1 (List.not_lt.1 h1) with h2 | h2
   . exact h2
   . exact absurd h2.symm h
theorem bl_append : ∀ {x y A B : Str}, x.length = y.length -> (Op.bytesLess (x ++ A) (y ++ B) = true ↔ Op.bytesLess x y = true \/ (x = y /\ Op.bytesLess A B = true))
 | [], [], A, B, _ => by simp [Op.bytesLess]
 | [], _ :: _, _, _, h => by simp at h
 | _ :: _, [], _, _, h => by simp at h
 | a :: x, b :: y, A, B, h => by
  have ih := bl_append (x := x) (y := y) (A := A) (B := B) (by simpa using h)
  simp only [List.cons_append, Op.bytesLess, Bool.or_eq_true, Bool.and_eq_true, decide_eq_true_eq, beq_iff_eq, ih, List.cons.injEq]
  constructor
  . rintro (h1 | ⟨rfl, h1 | ⟨rfl, h1⟩⟩)
    . exact .inl (.inl h1)
    . exact .inl (.inr ⟨rfl, h1⟩)
    . exact .inr ⟨⟨rfl, rfl⟩, h1⟩
  . rintro ((h1 | ⟨rfl, h1⟩) | ⟨⟨rfl, rfl⟩, h1⟩)
    . exact .inl h1
    . exact .inr ⟨rfl, .inl h1⟩
    . exact .inr ⟨rfl, .inr ⟨rfl, h1⟩⟩
def lexL : List Str -> List Str -> Prop
 | _, [] => False
 | [], _ :: _ => True
 | x :: a, y :: b => Op.bytesLess x y = true \/ (x = y /\ lexL a b)
theorem bl_flatten {n : Nat} (hn : 0 < n) : ∀ {a b : List Str}, (∀ x ∈ a, x.length = n) -> (∀ x ∈ b, x.length = n) -> (Op.bytesLess a.flatten b.flatten = true ↔ lexL a b)
 | a, [], _, _ => by cases a <;> simp [lexL, Op.bytesLess]
 | [], y :: b, _, hb => by
  have hy := hb y (by simp)
  cases y with
  | nil => simp at hy; omega
  | cons c y => simp [lexL, Op.bytesLess]
 | x :: a, y :: b, ha, hb => by
  rw [List.flatten_cons, List.flatten_cons, bl_append (by rw [ha x (by simp), hb y (by simp)]), bl_flatten hn (fun z hz => ha z (by simp [hz])) (fun z hz => hb z (by simp [hz]))]
  rfl
structure Term where
 p : Str
 less : List Str
def Term.key (t : Term) : Str := t.p ++ t.less.flatten
def Term.wide (n : Nat) (t : Term) : Prop := t.p.length = n /\ ∀ m ∈ t.less, m.length = n
def aheadT (t u : Term) : Prop := lexL (t.p :: t.less) (u.p :: u.less)
theorem key_less {n : Nat} (hn : 0 < n) {t u : Term} (ht : t.wide n) (hu : u.wide n) : Op.bytesLess t.key u.key = true ↔ aheadT t u := by
 have := bl_flatten hn (a := t.p :: t.less) (b := u.p :: u.less) (by simpa using ⟨ht.1, ht.2⟩) (by simpa using ⟨hu.1, hu.2⟩)
 simpa [Term.key, aheadT] using this
noncomputable def srt {α : Type} (L : α -> α -> Prop) (l : List α) : List α := l.foldl (fun acc x => insG L x acc) []
theorem srt_perm {α : Type} (L : α -> α -> Prop) (l : List α) : (srt L l).Perm l := by
 have go : ∀ l acc : List α, (l.foldl (fun acc x => insG L x acc) acc).Perm (acc ++ l) := by
  intro l
  induction l with
  | nil => intro acc; simp
  | cons x l ih =>
   intro acc
   refine (ih (insG L x acc)).trans ?_
   refine ((insG_perm L x acc).append_right l).trans ?_
   simpa using (List.perm_middle (a := x) (l₁ := acc) (l₂ := l)).symm
 show (l.foldl (fun acc x => insG L x acc) []).Perm l
 simpa using go l []
theorem srt_sorted {α : Type} {L : α -> α -> Prop} (ht : ∀ x y z, L x y -> L y z -> L x z) (l : List α) (tot : l.Pairwise fun x y => L x y \/ L y x) : (srt L l).Pairwise L := by
 have go : ∀ l acc : List α, (acc ++ l).Pairwise (fun x y => L x y \/ L y x) -> acc.Pairwise L -> (l.foldl (fun acc x => insG L x acc) acc).Pairwise L := by
  intro l
  induction l with
  | nil => intro acc _ h; exact h
  | cons x l ih =>
   intro acc htot h
   have hp : (insG L x acc ++ l).Perm (acc ++ x :: l) := ((insG_perm L x acc).append_right l).trans (List.perm_middle (a := x) (l₁ := acc) (l₂ := l)).symm
   refine ih (insG L x acc) ((hp.pairwise_iff fun {a b} hab => hab.symm).2 htot) (insG_sorted ht x acc (fun y hy => ?_) h)
   have := (List.pairwise_append.1 htot).2.2 y hy x (by simp)
   exact this.symm
 exact go l [] (by simpa using tot) (by simp)
theorem srt_uniq {α : Type} {L : α -> α -> Prop} (hirr : ∀ x, ¬ L x x) (ht : ∀ x y z, L x y -> L y z -> L x z) {l k : List α} (tot : l.Pairwise fun x y => L x y \/ L y x) (hp : k.Perm l) (hs : k.Pairwise L) : k = srt L l :=
 sorted_uniq hirr ht (hp.trans (srt_perm L l).symm) hs (srt_sorted ht l tot)
theorem lexL_irrefl : ∀ a : List Str, ¬ lexL a a
 | [] => by simp [lexL]
 | x :: a => by
  have := lexL_irrefl a
  simp [lexL, bl_irrefl, this]
theorem lexL_trans : ∀ {a b c : List Str}, lexL a b -> lexL b c -> lexL a c
 | a, [], c, h, _ => by cases a <;> simp [lexL] at h
 | a, _ :: _, [], _, h => by simp [lexL] at h
 | [], _ :: _, _ :: _, _, _ => trivial
 | x :: a, y :: b, z :: c, h, k => by
  rcases h with h | ⟨rfl, h⟩
  . rcases k with k | ⟨rfl, k⟩
    . exact .inl (bl_trans h k)
    . exact .inl h
  . rcases k with k | ⟨rfl, k⟩
    . exact .inl k
    . exact .inr ⟨rfl, lexL_trans h k⟩
theorem lexL_total : ∀ {a b : List Str}, a ≠ b -> lexL a b \/ lexL b a
 | [], [], h => absurd rfl h
 | [], _ :: _, _ => .inl trivial
 | _ :: _, [], _ => .inr trivial
 | x :: a, y :: b, h => by
  by_cases hxy : x = y
  . subst hxy
    rcases lexL_total (a := a) (b := b) (fun e => h (by rw [e])) with k | k
    . exact .inl (.inr ⟨rfl, k⟩)
    . exact .inr (.inr ⟨rfl, k⟩)
  . rcases bl_total hxy with k | k
    . exact .inl (.inl k)
    . exact .inr (.inl k)
theorem ahead_irrefl (t : Term) : ¬ aheadT t t := lexL_irrefl _
theorem ahead_trans (t u v : Term) (h : aheadT t u) (k : aheadT u v) : aheadT t v := lexL_trans h k
theorem ahead_total {t u : Term} (h : t ≠ u) : aheadT t u \/ aheadT u t := lexL_total fun e => h (by
 obtain ⟨p, l⟩ := t
 obtain ⟨q, m⟩ := u
 simp at e
 rw [e.1, e.2])
def blt (x y : Str) : Prop := Op.bytesLess x y = true
def metL (p : Str) (less : List Str) : List Str := less.filterMap fun m => meetT m p
open Classical in
/-- A cube less others, in its form. -/
noncomputable def termT (p : Str) (less : List Str) : Option Term :=
 let k := (metL p less).foldl (putG inL blt) []
 if k = [p] then none else some ⟨p, k⟩
def covT (t u : Term) : Prop := inT t.p u.p /\ ∀ m ∈ u.less, ∀ c, meetT m t.p = some c -> ∃ n ∈ t.less, inT c n
structure Term.Ok (n : Nat) (t : Term) : Prop where
 pos : 0 < n
 p : t.p.length = n
 less : ∀ m ∈ t.less, inL m t.p
theorem Term.Ok.wide {n : Nat} {t : Term} (h : t.Ok n) : t.wide n := ⟨h.p, fun m hm => by rw [inL_len (h.less m hm), h.p]⟩
theorem covT_refl {n : Nat} {t : Term} (h : t.Ok n) : covT t t := by
 have hp : t.p ≠ [] := fun e => by have := h.p; have := h.pos; rw [e] at *; simp at *; omega
 refine ⟨⟨hp, inL_refl _⟩, fun m hm c hc => ?_⟩
 unfold meetT at hc
 split at hc
 . cases hc
 . rename_i hmn
   have := meetL_self.2 (h.less m hm)
   rw [this] at hc
   cases hc
   exact ⟨m, hm, hmn, inL_refl _⟩
theorem covT_trans (t u v : Term) (h : covT t u) (k : covT u v) : covT t v := by
 refine ⟨inT_trans h.1 k.1, fun m hm c hc => ?_⟩
 unfold meetT at hc
 split at hc
 . cases hc
 . rename_i hmn
   obtain ⟨hcm, hct⟩ := meetL_in hc
   obtain ⟨c1, hc1, hi1⟩ := meetL_glb hcm (inL_trans hct h.1.2)
   obtain ⟨n1, hn1, hin1⟩ := k.2 m hm c1 (by unfold meetT; rw [if_neg hmn]; exact hc1)
   have hcn1 := inL_trans hi1 hin1.2
   obtain ⟨c2, hc2, hi2⟩ := meetL_glb hcn1 hct
   have hne : n1 ≠ [] := fun e => hin1.1 (by
    have := inL_len hin1.2
    rw [e] at this
    exact List.eq_nil_of_length_eq_zero this)
   obtain ⟨n2, hn2, hin2⟩ := h.2 n1 hn1 c2 (by unfold meetT; rw [if_neg hne]; exact hc2)
   refine ⟨n2, hn2, fun e => hin2.1 ?_, inL_trans hi2 hin2.2⟩
   have := inL_len hi2
   rw [e] at this
   exact List.eq_nil_of_length_eq_zero this.symm
noncomputable def formT (l : List Term) : List Term := srt aheadT (grG covT l)
theorem formT_eq {n : Nat} {l k : List Term} (hl : ∀ t ∈ l, t.Ok n) (hp : k.Perm (grG covT l)) (hs : k.Pairwise fun t u => Op.bytesLess u.key t.key ≠ true) : k = formT l := by
 have ha := grG_anti covT_trans l fun t ht => covT_refl (hl t ht)
 have hok : ∀ t ∈ grG covT l, t.Ok n := fun t ht => hl t (ha.sub t ht)
 have tot : (grG covT l).Pairwise fun x y => x ≠ y := ha.anti.imp_of_mem fun {a b} hma _ hab e => hab.1 (by rw [<- e]; exact covT_refl (hok a hma))
 have hne : k.Pairwise fun x y => x ≠ y := (hp.pairwise_iff fun {a b} hab => hab.symm).2 tot
 refine srt_uniq ahead_irrefl ahead_trans (tot.imp ahead_total) hp ?_
 refine (hs.and hne).imp_of_mem fun {a b} hma hmb hab => ?_
 have hoa := hok a (hp.mem_iff.1 hma)
 have hob := hok b (hp.mem_iff.1 hmb)
 rcases ahead_total hab.2 with h | h
 . exact h
 . exact absurd ((key_less hob.pos hob.wide hoa.wide).2 h) hab.1
theorem blt_irrefl (x : Str) : ¬ blt x x := bl_irrefl x
theorem blt_trans (x y z : Str) (h : blt x y) (k : blt y z) : blt x z := bl_trans h k
theorem blt_total (x y : Str) (h : x ≠ y) : blt x y \/ blt y x := bl_total h
theorem strict_of {l k : List Str} (hp : k.Perm (grG inL l)) (hs : k.Pairwise fun t u => Op.bytesLess u t ≠ true) : k.Pairwise blt := by
 have ha := grG_anti (R := inL) (fun _ _ _ => inL_trans) l fun x _ => inL_refl x
 have hn := (hp.nodup_iff).2 (ha.nodup inL_refl)
 refine (hs.and hn).imp fun {a b} hab => ?_
 rcases blt_total a b hab.2 with h | h
 . exact h
 . exact absurd h hab.1
theorem put_eq {l k : List Str} (hp : k.Perm (grG inL l)) (hs : k.Pairwise fun t u => Op.bytesLess u t ≠ true) : k = l.foldl (putG inL blt) [] :=
 sorted_eq_put inL_refl (fun _ _ _ => inL_trans) (fun _ _ => inL_antisymm) blt_irrefl blt_trans blt_total hp (strict_of hp hs)
theorem metL_in {p : Str} {less : List Str} {m : Str} (h : m ∈ metL p less) : inL m p := by
 obtain ⟨a, _, h2⟩ := List.mem_filterMap.1 h
 unfold meetT at h2
 split at h2
 . cases h2
 . exact (meetL_in h2).2
theorem void_iff (p : Str) (less : List Str) : p ∈ grG inL (metL p less) ↔ (metL p less).foldl (putG inL blt) [] = [p] := by
 have ha := grG_anti (R := inL) (fun _ _ _ => inL_trans) (metL p less) fun x _ => inL_refl x
 have hb := putG_fold (R := inL) (L := blt) inL_refl (fun _ _ _ => inL_trans) blt_trans blt_total (metL p less)
 have hp := ha.perm inL_refl (fun _ _ _ => inL_trans) (fun _ _ => inL_antisymm) hb.1
 constructor
 . intro h
   have hm := hp.mem_iff.1 h
   generalize hk : (metL p less).foldl (putG inL blt) [] = k at hb hm
   have hall : ∀ x ∈ k, inL x p := fun x hx => metL_in (hb.1.sub x hx)
   cases k with
   | nil => simp at hm
   | cons a k =>
    have hpw := List.pairwise_cons.1 hb.1.anti
    rcases List.mem_cons.1 hm with rfl | hm
    . cases k with
      | nil => rfl
      | cons b k => exact absurd (hall b (by simp)) (hpw.1 b (by simp)).2
    . exact absurd (hall a (by simp)) (hpw.1 p hm).1
 . intro h
   exact hp.mem_iff.2 (by rw [h]; simp)
theorem termT_void {p : Str} {less : List Str} (h : p ∈ grG inL (metL p less)) : termT p less = none := by
 have := (void_iff p less).1 h
 unfold termT
 simp only
 rw [if_pos this]
theorem termT_some {p : Str} {less k : List Str} (h : p ∉ grG inL (metL p less)) (hp : k.Perm (grG inL (metL p less))) (hs : k.Pairwise fun t u => Op.bytesLess u t ≠ true) : termT p less = some ⟨p, k⟩ := by
 have h1 := fun e => h ((void_iff p less).2 e)
 unfold termT
 simp only
 rw [if_neg h1]
 congr
 exact (put_eq hp hs).symm
theorem termT_ok {p : Str} {less : List Str} {t : Term} (hp : p ≠ []) (h : termT p less = some t) : t.Ok p.length /\ t.p = p := by
 unfold termT at h
 simp only at h
 split at h
 . cases h
 . cases h
   have hb := putG_fold (R := inL) (L := blt) inL_refl (fun _ _ _ => inL_trans) blt_trans blt_total (metL p less)
   exact ⟨⟨List.length_pos_iff.2 hp, rfl, fun m hm => metL_in (hb.1.sub m hm)⟩, rfl⟩
theorem grG_sub {α : Type} (R : α -> α -> Prop) (l : List α) : ∀ x ∈ grG R l, x ∈ l := by
 have go : ∀ (l k : List α), ∀ x ∈ l.foldl (addG R) k, x ∈ k \/ x ∈ l := by
  intro l
  induction l with
  | nil => intro k x hx; exact .inl hx
  | cons y l ih =>
   intro k x hx
   rcases ih _ x hx with h | h
   . unfold addG at h
     split at h
     . exact .inl h
     . rcases List.mem_append.1 h with h | h
       . exact .inl (List.mem_filter.1 h).1
       . simp at h; subst h; exact .inr (by simp)
   . exact .inr (by simp [h])
 intro x hx
 rcases go l [] x hx with h | h
 . simp at h
 . exact h
theorem formT_mem {l : List Term} {t : Term} (h : t ∈ formT l) : t ∈ l := grG_sub covT l t ((srt_perm aheadT _).mem_iff.1 h)
end Go.Proofs.YtagmibogginaaaaGreatDoor
namespace Go.Proofs.YtagmibogginaaaaGreatDoor
open Go Go.Vx
def wof (f : Nat -> Bool) (k : Nat) : BitVec 64 := (BitVec.ofBoolListLE ((List.range 64).map fun i => f (64 * k + i))).setWidth 64
theorem wof_get (f : Nat -> Bool) (k i : Nat) (h : i < 64) : (wof f k).getLsbD i = f (64 * k + i) := by
 unfold wof
 rw [BitVec.getLsbD_setWidth, BitVec.getLsbD_ofBoolListLE]
 simp [h, List.getD]
theorem wof_ext {f g : Nat -> Bool} {k : Nat} (h : ∀ i, i < 64 -> f (64 * k + i) = g (64 * k + i)) : wof f k = wof g k :=
 BitVec.eq_of_getLsbD_eq fun i hi => by rw [wof_get _ _ _ hi, wof_get _ _ _ hi]; exact h i hi
theorem wof_eq {f g : Nat -> Bool} {k : Nat} : wof f k = wof g k ↔ ∀ i, i < 64 -> f (64 * k + i) = g (64 * k + i) := by
 refine ⟨fun h i hi => ?_, wof_ext⟩
 rw [<- wof_get f k i hi, h, wof_get g k i hi]
theorem bv_id (x : BitVec 64) : BitVec.ofInt IntKind.u64.bits (x.toNat : Int) = x := by
 show BitVec.ofInt 64 (x.toNat : Int) = x
 simp
theorem wrap_id (x : BitVec 64) : IntKind.u64.wrap (x.toNat : Int) = (x.toNat : Int) := by
 have := x.isLt
 simp [IntKind.wrap, IntKind.bits, IntKind.signed]
 omega
section
variable {p : Int → Prop} {x y : BitVec 64}
theorem nAnd (h : p ((x &&& y).toNat : Int)) : ∃ n, n = IntKind.u64.wrap ((BitVec.ofInt IntKind.u64.bits (x.toNat : Int) &&& BitVec.ofInt IntKind.u64.bits (y.toNat : Int)).toNat : Int) /\ p n := ⟨_, rfl, by
 have key : ∀ (a b : BitVec 64), a = x -> b = y -> IntKind.u64.wrap ((a &&& b).toNat : Int) = (((x &&& y) : BitVec 64).toNat : Int) := by
  rintro _ _ rfl rfl
  exact wrap_id _
 exact (congrArg p (key _ _ (bv_id x) (bv_id y))).mpr h⟩
theorem nOr (h : p ((x ||| y).toNat : Int)) : ∃ n, n = IntKind.u64.wrap ((BitVec.ofInt IntKind.u64.bits (x.toNat : Int) ||| BitVec.ofInt IntKind.u64.bits (y.toNat : Int)).toNat : Int) /\ p n := ⟨_, rfl, by
 have key : ∀ (a b : BitVec 64), a = x -> b = y -> IntKind.u64.wrap ((a ||| b).toNat : Int) = (((x ||| y) : BitVec 64).toNat : Int) := by
  rintro _ _ rfl rfl
  exact wrap_id _
 exact (congrArg p (key _ _ (bv_id x) (bv_id y))).mpr h⟩
theorem nXor (h : p ((x ^^^ y).toNat : Int)) : ∃ n, n = IntKind.u64.wrap ((BitVec.ofInt IntKind.u64.bits (x.toNat : Int) ^^^ BitVec.ofInt IntKind.u64.bits (y.toNat : Int)).toNat : Int) /\ p n := ⟨_, rfl, by
 have key : ∀ (a b : BitVec 64), a = x -> b = y -> IntKind.u64.wrap ((a ^^^ b).toNat : Int) = (((x ^^^ y) : BitVec 64).toNat : Int) := by
  rintro _ _ rfl rfl
  exact wrap_id _
 exact (congrArg p (key _ _ (bv_id x) (bv_id y))).mpr h⟩
theorem nAnd1 (h : p ((x &&& 1#64).toNat : Int)) : ∃ n, n = IntKind.u64.wrap ((BitVec.ofInt IntKind.u64.bits (x.toNat : Int) &&& BitVec.ofInt IntKind.u64.bits 1).toNat : Int) /\ p n := by
 have : ((1#64 : BitVec 64).toNat : Int) = 1 := rfl
 have h2 := nAnd (p := p) (x := x) (y := 1#64) h
 rwa [this] at h2
theorem nShr {r : Int} {k : Nat} (hr : r = (k : Int) /\ k < 64) (h : p ((x >>> k).toNat : Int)) : ∃ n, n = (x.toNat : Int).fdiv (2 ^ (min r.toNat IntKind.u64.bits)) /\ p n := by
 refine ⟨_, rfl, ?_⟩
 obtain ⟨rfl, hk⟩ := hr
 have e1 : min ((k : Int).toNat) IntKind.u64.bits = k := by
  show min k 64 = k
  omega
 rw [e1]
 have e2 : ((x.toNat : Int).fdiv (2 ^ k)) = ((x >>> k).toNat : Int) := by
  rw [BitVec.toNat_ushiftRight, Nat.shiftRight_eq_div_pow, Int.fdiv_eq_ediv_of_nonneg _ (Int.pow_nonneg (by omega))]
  push_cast
  rfl
 rw [e2]
 exact h
theorem nShl1 {r : Int} {k : Nat} (hr : r = (k : Int) /\ k < 64) (h : p ((1#64 <<< k).toNat : Int)) : ∃ n, n = IntKind.u64.wrap (1 * 2 ^ (min r.toNat IntKind.u64.bits)) /\ p n := by
 refine ⟨_, rfl, ?_⟩
 obtain ⟨rfl, hk⟩ := hr
 have e1 : min ((k : Int).toNat) IntKind.u64.bits = k := by
  show min k 64 = k
  omega
 rw [e1]
 have hlt : 2 ^ k < 2 ^ 64 := Nat.pow_lt_pow_right (by omega) hk
 have e2 : (1 * 2 ^ k : Int) = ((1#64 <<< k).toNat : Int) := by
  rw [BitVec.toNat_shiftLeft, Nat.shiftLeft_eq]
  simp only [BitVec.toNat_ofNat]
  rw [show (1 % 2 ^ 64 * 2 ^ k) % 2 ^ 64 = 2 ^ k by rw [Nat.mod_eq_of_lt (a := 1) (by decide), Nat.one_mul, Nat.mod_eq_of_lt hlt]]
  push_cast
  omega
 rw [e2, wrap_id]
 exact h
end
theorem nAnd1' {p : Int -> Prop} {x : BitVec 64} {c : Int} (hc : c = 1) (h : p ((x &&& 1#64).toNat : Int)) : ∃ n, n = IntKind.u64.wrap ((BitVec.ofInt IntKind.u64.bits (x.toNat : Int) &&& BitVec.ofInt IntKind.u64.bits c).toNat : Int) /\ p n := by
 subst hc; exact nAnd1 h
theorem nShl1' {p : Int -> Prop} {r c : Int} {k : Nat} (hc : c = 1) (hr : r = (k : Int) /\ k < 64) (h : p ((1#64 <<< k).toNat : Int)) : ∃ n, n = IntKind.u64.wrap (c * 2 ^ (min r.toNat IntKind.u64.bits)) /\ p n := by
 subst hc; exact nShl1 hr h
theorem bit_at (x : BitVec 64) (k : Nat) : (((x >>> k) &&& 1#64).toNat : Int) = 1 ↔ x.getLsbD k = true := by
 have h1 : ((x >>> k) &&& 1#64).toNat = (x.getLsbD k).toNat := by
  rw [BitVec.toNat_and, BitVec.toNat_ushiftRight]
  simp only [BitVec.toNat_ofNat]
  rw [show 1 % 2 ^ 64 = 1 from rfl, Nat.and_one_is_mod, BitVec.getLsbD, Nat.testBit]
  simp
  have := Nat.mod_two_eq_zero_or_one (x.toNat >>> k)
  rcases this with h | h <;> simp [h]
 rw [h1]
 cases x.getLsbD k <;> simp
theorem quo64 {i q r : Nat} (h : i = 64 * q + r) (hr : r < 64) (hi : i < 1000) : (q : Int) = IntKind.i64.wrap ((i : Int).tdiv 64) := by
 subst h
 have e : ((64 * q + r : Nat) : Int).tdiv 64 = (q : Int) := by
  rw [Int.tdiv_eq_ediv_of_nonneg (by omega)]
  omega
 rw [e, IntKind.wrap_i64]
 omega
theorem rem64 {i q r : Nat} (h : i = 64 * q + r) (hr : r < 64) : (r : Int) = ((i : Int).tmod 64) := by
 subst h
 rw [Int.tmod_eq_emod_of_nonneg (by omega)]
 omega
theorem word_nz {x : BitVec 64} : ((x.toNat : Int) ≠ 0) ↔ ∃ i, i < 64 /\ x.getLsbD i = true := by
 constructor
 . intro h
   apply Classical.byContradiction
   intro hn
   apply h
   have : x = 0#64 := BitVec.eq_of_getLsbD_eq fun i hi => by
    cases hx : x.getLsbD i
    . simp
    . exact absurd ⟨i, hi, hx⟩ hn
   rw [this]
   rfl
 . rintro ⟨i, hi, h⟩ h0
   have : x = 0#64 := BitVec.eq_of_toNat_eq (by simpa using h0)
   rw [this] at h
   simp at h
def dig (b : UInt8) : Bool := b == 48 || b == 49
def car (t : Str) (i : Nat) : Bool := match t[i]? with | some b => dig b | none => false
def one (t : Str) (i : Nat) : Bool := match t[i]? with | some b => b == 49 | none => false
@[reducible] def cells9 (n : Nat) (c o : Nat -> Bool) : List D := [.i .i64 (n : Int), .i .u64 ((wof c 0).toNat : Int), .i .u64 ((wof c 1).toNat : Int), .i .u64 ((wof c 2).toNat : Int), .i .u64 ((wof c 3).toNat : Int), .i .u64 ((wof o 0).toNat : Int), .i .u64 ((wof o 1).toNat : Int), .i .u64 ((wof o 2).toNat : Int), .i .u64 ((wof o 3).toNat : Int)]
@[reducible] def crow (t : Str) : List D := cells9 t.length (car t) (one t)
structure CT (t : Str) : Prop where
 len : t.length <= 256
 cub : ∀ b ∈ t, b = 48 \/ b = 49 \/ b = 120
theorem CT.nil : CT [] := ⟨by simp, by simp⟩
theorem crow_nil : crow [] = [.i .i64 0, .i .u64 0, .i .u64 0, .i .u64 0, .i .u64 0, .i .u64 0, .i .u64 0, .i .u64 0, .i .u64 0] := by
 have h : ∀ k, wof (car []) k = 0#64 := fun k => BitVec.eq_of_getLsbD_eq fun i hi => by rw [wof_get _ _ _ hi]; simp [car]
 have h2 : ∀ k, wof (one []) k = 0#64 := fun k => BitVec.eq_of_getLsbD_eq fun i hi => by rw [wof_get _ _ _ hi]; simp [one]
 simp [h, h2]
theorem car_lt {t : Str} {i : Nat} (h : car t i = true) : i < t.length := by
 unfold car at h
 split at h
 . rename_i b hb; exact (List.getElem?_eq_some_iff.1 hb).1
 . cases h
theorem words_eq {f g : Nat -> Bool} (h0 : wof f 0 = wof g 0) (h1 : wof f 1 = wof g 1) (h2 : wof f 2 = wof g 2) (h3 : wof f 3 = wof g 3) : ∀ i, i < 256 -> f i = g i := by
 intro i hi
 have e0 := wof_eq.1 h0
 have e1 := wof_eq.1 h1
 have e2 := wof_eq.1 h2
 have e3 := wof_eq.1 h3
 by_cases c0 : i < 64
 . have := e0 i c0; rwa [show 64 * 0 + i = i by omega] at this
 by_cases c1 : i < 128
 . have := e1 (i - 64) (by omega); rwa [show 64 * 1 + (i - 64) = i by omega] at this
 by_cases c2 : i < 192
 . have := e2 (i - 128) (by omega); rwa [show 64 * 2 + (i - 128) = i by omega] at this
 . have := e3 (i - 192) (by omega); rwa [show 64 * 3 + (i - 192) = i by omega] at this
theorem ct_ext {t u : Str} (ht : CT t) (hu : CT u) (hl : t.length = u.length) (hc : ∀ i, i < 256 -> car t i = car u i) (ho : ∀ i, i < 256 -> one t i = one u i) : t = u := by
 refine List.ext_getElem? fun i => ?_
 by_cases hi : i < t.length
 . have h1 : t[i]? = some t[i] := List.getElem?_eq_getElem hi
   have h2 : u[i]? = some u[i] := List.getElem?_eq_getElem (by omega)
   have hi2 : i < 256 := by have := ht.len; omega
   have c := hc i hi2
   have o := ho i hi2
   unfold car at c
   unfold one at o
   rw [h1, h2] at c o ⊢
   simp only [] at c o
   have k1 := ht.cub t[i] (List.getElem_mem hi)
   have k2 := hu.cub u[i] (List.getElem_mem (by omega))
   rcases k1 with k1 | k1 | k1 <;> rcases k2 with k2 | k2 | k2 <;> rw [k1, k2] at c o ⊢ <;> simp [dig] at c o
 . rw [List.getElem?_eq_none (by omega), List.getElem?_eq_none (by omega)]
theorem crow_inj {t u : Str} (ht : CT t) (hu : CT u) (h : eqDs (crow t) (crow u)) : t = u := by
 have key : ∀ {x y : BitVec 64}, (x.toNat : Int) = (y.toNat : Int) -> x = y := fun h => BitVec.eq_of_toNat_eq (by omega)
 simp only [eqDs, eqD] at h
 obtain ⟨hl, c0, c1, c2, c3, o0, o1, o2, o3⟩ := h
 exact ct_ext ht hu (by omega) (words_eq (key c0) (key c1) (key c2) (key c3)) (words_eq (key o0) (key o1) (key o2) (key o3))
theorem eqDs_self (t : Str) : eqDs (crow t) (crow t) := by simp [eqDs, eqD]
theorem put_word {f g : Nat -> Bool} {i q r : Nat} (hi : i = 64 * q + r) (hr : r < 64) (hg : ∀ j, g j = (f j || decide (j = i))) (k : Nat) : wof g k = if k = q then wof f k ||| 1#64 <<< r else wof f k := by
 refine BitVec.eq_of_getLsbD_eq fun j hj => ?_
 rw [wof_get _ _ _ hj, hg]
 split
 . rename_i hk
   subst hk
   rw [BitVec.getLsbD_or, wof_get _ _ _ hj, BitVec.getLsbD_shiftLeft, BitVec.getLsbD_one]
   congr 1
   by_cases hjr : j = r
   . subst hjr; simp [hi, hj]
   . have h1 : ¬ 64 * k + j = i := by omega
     have h2 : ¬ (j - r = 0 /\ ¬ j < r) := by omega
     simp [h1, hj]
     omega
 . rename_i hk
   rw [wof_get _ _ _ hj]
   have h1 : ¬ 64 * k + j = i := by omega
   simp [h1]
theorem take_get {t : Str} {i : Nat} {b : UInt8} (h : t[i]? = some b) (j : Nat) : (t.take (i + 1))[j]? = if j = i then some b else (t.take i)[j]? := by
 rw [List.getElem?_take, List.getElem?_take]
 by_cases hj : j = i
 . subst hj; simp [h]
 . by_cases h2 : j < i
   . simp [hj, h2, show j < i + 1 by omega]
   . simp [hj, h2, show ¬ j < i + 1 by omega]
theorem car_at_end (t : Str) (i : Nat) : car (t.take i) i = false := by
 unfold car
 rw [List.getElem?_take]
 simp
theorem one_at_end (t : Str) (i : Nat) : one (t.take i) i = false := by
 unfold one
 rw [List.getElem?_take]
 simp
theorem car_put {t : Str} {i : Nat} {b : UInt8} (h : t[i]? = some b) (hd : dig b = true) (j : Nat) : car (t.take (i + 1)) j = (car (t.take i) j || decide (j = i)) := by
 by_cases hj : j = i
 . subst hj
   rw [car_at_end]
   unfold car
   rw [take_get h]
   simp [hd]
 . unfold car
   rw [take_get h]
   simp [hj]
theorem one_put {t : Str} {i : Nat} (h : t[i]? = some 49) (j : Nat) : one (t.take (i + 1)) j = (one (t.take i) j || decide (j = i)) := by
 by_cases hj : j = i
 . subst hj
   rw [one_at_end]
   unfold one
   rw [take_get h]
   simp
 . unfold one
   rw [take_get h]
   simp [hj]
theorem car_same {t : Str} {i : Nat} {b : UInt8} (h : t[i]? = some b) (hd : dig b = false) (k : Nat) : wof (car (t.take (i + 1))) k = wof (car (t.take i)) k := by
 refine wof_ext fun j _ => ?_
 generalize 64 * k + j = m
 by_cases hj : m = i
 . subst hj
   rw [car_at_end]
   unfold car
   rw [take_get h]
   simp [hd]
 . unfold car
   rw [take_get h]
   simp [hj]
theorem one_same {t : Str} {i : Nat} {b : UInt8} (h : t[i]? = some b) (hd : b ≠ 49) (k : Nat) : wof (one (t.take (i + 1))) k = wof (one (t.take i)) k := by
 refine wof_ext fun j _ => ?_
 generalize 64 * k + j = m
 by_cases hj : m = i
 . subst hj
   rw [one_at_end]
   unfold one
   rw [take_get h]
   simp [hd]
 . unfold one
   rw [take_get h]
   simp [hj]
theorem at_word {f : Nat -> Bool} {i q r : Nat} (hi : i = 64 * q + r) (hr : r < 64) : ((((wof f q) >>> r) &&& 1#64).toNat : Int) = 1 ↔ f i = true := by
 rw [bit_at, wof_get _ _ _ hr, hi]
theorem split64 (i : Nat) (h : i < 256) : ∃ q r, i = 64 * q + r /\ r < 64 /\ (q = 0 \/ q = 1 \/ q = 2 \/ q = 3) := ⟨i / 64, i % 64, by omega, by omega, by omega⟩
end Go.Proofs.YtagmibogginaaaaGreatDoor
namespace Go.Proofs.YtagmibogginaaaaGreatDoor
open Go Go.Vx
theorem meetL_get : ∀ {c d m : Str}, meetL c d = some m -> ∀ (i : Nat) a b, c[i]? = some a -> d[i]? = some b -> ∃ x, m[i]? = some x /\ meet1 a b = some x
 | [], [], _, _, i, a, b, ha, _ => by simp at ha
 | [], _ :: _, _, h, _, _, _, _, _ => by cases h
 | _ :: _, [], _, h, _, _, _, _, _ => by cases h
 | a0 :: c, b0 :: d, m, h, i, a, b, ha, hb => by
  unfold meetL at h
  cases h1 : meet1 a0 b0 with
  | none => rw [h1] at h; cases h
  | some x => cases h2 : meetL c d with
   | none => rw [h1, h2] at h; cases h
   | some r =>
    rw [h1, h2] at h
    cases h
    cases i with
    | zero => simp at ha hb; subst ha hb; exact ⟨x, rfl, h1⟩
    | succ i => exact meetL_get h2 i a b (by simpa using ha) (by simpa using hb)
theorem meetL_ex : ∀ {c d : Str}, c.length = d.length -> (∀ (i : Nat) a b, c[i]? = some a -> d[i]? = some b -> meet1 a b ≠ none) -> ∃ m, meetL c d = some m
 | [], [], _, _ => ⟨[], rfl⟩
 | [], _ :: _, h, _ => by simp at h
 | _ :: _, [], h, _ => by simp at h
 | a :: c, b :: d, h, hh => by
  obtain ⟨m, hm⟩ := meetL_ex (c := c) (d := d) (by simpa using h) fun i a b ha hb => hh (i + 1) a b (by simpa using ha) (by simpa using hb)
  have := hh 0 a b rfl rfl
  cases h1 : meet1 a b with
  | none => exact absurd h1 this
  | some x => exact ⟨x :: m, by unfold meetL; rw [h1, hm]⟩
theorem meetL_ct : ∀ {c d m : Str}, meetL c d = some m -> (∀ b ∈ c, b = 48 \/ b = 49 \/ b = 120) -> (∀ b ∈ d, b = 48 \/ b = 49 \/ b = 120) -> ∀ b ∈ m, b = 48 \/ b = 49 \/ b = 120
 | [], [], m, h, _, _ => by cases h; simp
 | [], _ :: _, _, h, _, _ => by cases h
 | _ :: _, [], _, h, _, _ => by cases h
 | a0 :: c, b0 :: d, m, h, hc, hd => by
  unfold meetL at h
  cases h1 : meet1 a0 b0 with
  | none => rw [h1] at h; cases h
  | some x => cases h2 : meetL c d with
   | none => rw [h1, h2] at h; cases h
   | some r =>
    rw [h1, h2] at h
    cases h
    intro b hb
    rcases List.mem_cons.1 hb with rfl | hb
    . unfold meet1 at h1
      split at h1
      . cases h1; exact hd _ (by simp)
      . split at h1
        . cases h1; exact hc _ (by simp)
        . cases h1
    . exact meetL_ct h2 (fun b hb => hc b (by simp [hb])) (fun b hb => hd b (by simp [hb])) b hb
theorem meetT_ct {c d m : Str} (h : meetT c d = some m) (hc : CT c) (hd : CT d) : CT m /\ m.length = c.length /\ c ≠ [] := by
 unfold meetT at h
 split at h
 . cases h
 . rename_i hne
   have hl := meetL_len h
   exact ⟨⟨by rw [<- hl.1]; exact hc.len, meetL_ct h hc.cub hd.cub⟩, hl.1.symm, hne⟩
theorem meetT_eq {c d : Str} (h : c ≠ []) : meetT c d = meetL c d := by unfold meetT; rw [if_neg h]
def cfl (c d : Str) (i : Nat) : Bool := (xor (one c i) (one d i) && car c i) && car d i
theorem word_cfl (c d : Str) (k : Nat) : (((wof (one c) k ^^^ wof (one d) k) &&& wof (car c) k) &&& wof (car d) k) = wof (cfl c d) k := by
 refine BitVec.eq_of_getLsbD_eq fun i hi => ?_
 rw [BitVec.getLsbD_and, BitVec.getLsbD_and, BitVec.getLsbD_xor, wof_get _ _ _ hi, wof_get _ _ _ hi, wof_get _ _ _ hi, wof_get _ _ _ hi, wof_get _ _ _ hi]
 rfl
theorem at_b {t : Str} {i : Nat} {b : UInt8} (h : t[i]? = some b) : car t i = dig b /\ one t i = (b == 49) := by
 unfold car one
 rw [h]
 exact ⟨rfl, rfl⟩
theorem at_out {t : Str} {i : Nat} (h : t.length <= i) : car t i = false /\ one t i = false := by
 unfold car one
 rw [List.getElem?_eq_none h]
 exact ⟨rfl, rfl⟩
theorem meet1_cfl {a b : UInt8} (ha : a = 48 \/ a = 49 \/ a = 120) (hb : b = 48 \/ b = 49 \/ b = 120) : meet1 a b = none ↔ ((xor (a == 49) (b == 49) && dig a) && dig b) = true := by
 rcases ha with rfl | rfl | rfl <;> rcases hb with rfl | rfl | rfl <;> simp [meet1, dig]
theorem meet1_bits {a b x : UInt8} (ha : a = 48 \/ a = 49 \/ a = 120) (hb : b = 48 \/ b = 49 \/ b = 120) (h : meet1 a b = some x) : dig x = (dig a || dig b) /\ (x == 49) = ((a == 49) || (b == 49)) := by
 rcases ha with rfl | rfl | rfl <;> rcases hb with rfl | rfl | rfl <;> simp [meet1] at h <;> subst h <;> simp [dig]
theorem cfl_none {c d : Str} (hc : CT c) (hd : CT d) {i : Nat} (h : cfl c d i = true) : meetT c d = none := by
 unfold meetT
 split
 . rfl
 . cases hm : meetL c d with
   | none => rfl
   | some m =>
    exfalso
    unfold cfl at h
    simp only [Bool.and_eq_true] at h
    have h1 := car_lt h.1.2
    have h2 := car_lt h.2
    have e1 := List.getElem?_eq_getElem h1
    have e2 := List.getElem?_eq_getElem h2
    obtain ⟨x, _, hx⟩ := meetL_get hm i _ _ e1 e2
    have := (meet1_cfl (hc.cub _ (List.getElem_mem h1)) (hd.cub _ (List.getElem_mem h2))).2 (by
     rw [(at_b e1).2, (at_b e2).2, (at_b e1).1, (at_b e2).1] at h
     simp [h.1.1, h.1.2, h.2])
    rw [this] at hx
    cases hx
theorem cfl_some {c d : Str} (hc : CT c) (hd : CT d) (hl : c.length = d.length) (hne : c ≠ []) (h : ∀ i, cfl c d i = false) : ∃ m, meetT c d = some m /\ (∀ i, car m i = (car c i || car d i)) /\ ∀ i, one m i = (one c i || one d i) := by
 obtain ⟨m, hm⟩ := meetL_ex hl fun i a b ha hb hn => by
  have h1 := (meet1_cfl (hc.cub _ (List.mem_of_getElem? ha)) (hd.cub _ (List.mem_of_getElem? hb))).1 hn
  have h2 := h i
  unfold cfl at h2
  rw [(at_b ha).2, (at_b hb).2, (at_b ha).1, (at_b hb).1, h1] at h2
  cases h2
 have key : ∀ i, car m i = (car c i || car d i) /\ one m i = (one c i || one d i) := fun i => by
  have hlm := meetL_len hm
  by_cases hi : i < c.length
  . have e1 := List.getElem?_eq_getElem hi
    have e2 := List.getElem?_eq_getElem (show i < d.length by omega)
    obtain ⟨x, hx, hxx⟩ := meetL_get hm i _ _ e1 e2
    have := meet1_bits (hc.cub _ (List.getElem_mem hi)) (hd.cub _ (List.getElem_mem (show i < d.length by omega))) hxx
    rw [(at_b e1).1, (at_b e2).1, (at_b e1).2, (at_b e2).2, (at_b hx).1, (at_b hx).2]
    exact this
  . have h1 := at_out (t := c) (i := i) (by omega)
    have h2 := at_out (t := d) (i := i) (by omega)
    have h3 := at_out (t := m) (i := i) (by omega)
    rw [h1.1, h1.2, h2.1, h2.2, h3.1, h3.2]
    exact ⟨rfl, rfl⟩
 exact ⟨m, by rw [meetT_eq hne, hm], fun i => (key i).1, fun i => (key i).2⟩
theorem wof_or {f g h : Nat -> Bool} (e : ∀ i, h i = (f i || g i)) (k : Nat) : wof h k = wof f k ||| wof g k := by
 refine BitVec.eq_of_getLsbD_eq fun i hi => ?_
 rw [BitVec.getLsbD_or, wof_get _ _ _ hi, wof_get _ _ _ hi, wof_get _ _ _ hi, e]
theorem wof_zero {f : Nat -> Bool} {k : Nat} (h : ((wof f k).toNat : Int) = 0) (i : Nat) (hi : i < 64) : f (64 * k + i) = false := by
 rw [<- wof_get f k i hi]
 cases hb : (wof f k).getLsbD i
 . rfl
 . exact absurd h (word_nz.2 ⟨i, hi, hb⟩)
theorem wof_nz {f : Nat -> Bool} {k : Nat} (h : ¬ ((wof f k).toNat : Int) = 0) : ∃ i, f i = true := by
 obtain ⟨i, hi, hb⟩ := word_nz.1 h
 exact ⟨_, by rw [wof_get _ _ _ hi] at hb; exact hb⟩
theorem no_cfl {c d : Str} (hc : CT c) (h : ∀ k, k < 4 -> ((wof (cfl c d) k).toNat : Int) = 0) (i : Nat) : cfl c d i = false := by
 by_cases hi : i < 256
 . obtain ⟨q, r, rfl, hr, hq⟩ := split64 i hi
   exact wof_zero (h q (by omega)) r hr
 . unfold cfl
   have := (at_out (t := c) (i := i) (by have := hc.len; omega)).1
   rw [this]
   simp
theorem inT_meet {c d : Str} : inT c d ↔ meetT c d = some c := by
 unfold inT
 constructor
 . rintro ⟨h1, h2⟩
   rw [meetT_eq h1]
   exact meetL_self.2 h2
 . intro h
   have hne : c ≠ [] := fun e => by rw [e] at h; simp [meetT] at h
   rw [meetT_eq hne] at h
   exact ⟨hne, meetL_self.1 h⟩
def mw (w : Nat) (f g : Nat -> Bool) (k : Nat) : BitVec 64 := if k < w then wof f k ||| wof g k else wof f k
@[reducible] def mcells (n w : Nat) (c d : Str) : List D := [.i .i64 (n : Int), .i .u64 ((mw w (car c) (car d) 0).toNat : Int), .i .u64 ((mw w (car c) (car d) 1).toNat : Int), .i .u64 ((mw w (car c) (car d) 2).toNat : Int), .i .u64 ((mw w (car c) (car d) 3).toNat : Int), .i .u64 ((mw w (one c) (one d) 0).toNat : Int), .i .u64 ((mw w (one c) (one d) 1).toNat : Int), .i .u64 ((mw w (one c) (one d) 2).toNat : Int), .i .u64 ((mw w (one c) (one d) 3).toNat : Int)]
theorem mcells_end {c d m : Str} (hl : m.length = c.length) (h1 : ∀ i, car m i = (car c i || car d i)) (h2 : ∀ i, one m i = (one c i || one d i)) : mcells c.length 4 c d = crow m := by
 simp only [mcells, crow, cells9, mw, wof_or h1, wof_or h2, hl]
 rfl
end Go.Proofs.YtagmibogginaaaaGreatDoor
namespace Go.Proofs.YtagmibogginaaaaGreatDoor
open Go Go.Vx
section
variable {α : Type} {R : α → α → Prop}
theorem grG_take {l : List α} {i : Nat} {x : α} (h : l[i]? = some x) : grG R (l.take (i + 1)) = addG R (grG R (l.take i)) x := by
 unfold grG
 rw [List.take_add_one, h]
 simp
theorem addG_in {k : List α} {x : α} (h : ∃ y ∈ k, R x y) : addG R k x = k := by
 unfold addG
 rw [if_pos h]
open Classical in
theorem addG_out {k : List α} {x : α} (h : ∀ y ∈ k, ¬ R x y) : addG R k x = k.filter (fun y => decide (¬ R y x)) ++ [x] := by
 unfold addG
 rw [if_neg fun ⟨y, hy, hxy⟩ => h y hy hxy]
theorem filter_take {p : α -> Bool} {k : List α} {j : Nat} {y : α} (h : k[j]? = some y) : (k.take (j + 1)).filter p = (k.take j).filter p ++ (if p y then [y] else []) := by
 rw [List.take_add_one, h, List.filter_append]
 congr 1
 cases hp : p y <;> simp [hp]
structure Kept (R : α -> α -> Prop) (l : List α) (i : Nat) (W : List α) : Prop where
 le : i <= l.length
 tk : W.take (grG R (l.take i)).length = grG R (l.take i)
 n : (grG R (l.take i)).length <= W.length
 w : W.length <= i
theorem Kept.zero {l : List α} : Kept R l 0 [] := ⟨Nat.zero_le _, by simp [grG], by simp [grG], by simp⟩
theorem Kept.get {l : List α} {i : Nat} {W : List α} (h : Kept R l i W) {j : Nat} (hj : j < (grG R (l.take i)).length) : W[j]? = (grG R (l.take i))[j]? := by
 have := congrArg (fun z : List α => z[j]?) h.tk
 simp only [List.getElem?_take, if_pos hj] at this
 exact this
theorem Kept.skip {l : List α} {i : Nat} {W : List α} (h : Kept R l i W) {x : α} (hx : l[i]? = some x) (hy : ∃ y ∈ grG R (l.take i), R x y) : Kept R l (i + 1) W /\ grG R (l.take (i + 1)) = grG R (l.take i) := by
 have e : grG R (l.take (i + 1)) = grG R (l.take i) := by rw [grG_take hx, addG_in hy]
 have := (List.getElem?_eq_some_iff.1 hx).1
 exact ⟨⟨by omega, by rw [e]; exact h.tk, by rw [e]; exact h.n, by have := h.w; omega⟩, e⟩
open Classical in
/-- Those of the first j that are not below x. -/
noncomputable def leftOf (R : α -> α -> Prop) (k : List α) (x : α) (j : Nat) : List α := (k.take j).filter (fun y => decide (¬ R y x))
theorem leftOf_step_keep {k : List α} {x y : α} {j : Nat} (h : k[j]? = some y) (hy : ¬ R y x) : leftOf R k x (j + 1) = leftOf R k x j ++ [y] := by
 unfold leftOf
 rw [filter_take h]
 simp [hy]
theorem leftOf_step_drop {k : List α} {x y : α} {j : Nat} (h : k[j]? = some y) (hy : R y x) : leftOf R k x (j + 1) = leftOf R k x j := by
 unfold leftOf
 rw [filter_take h]
 simp [hy]
theorem leftOf_le (k : List α) (x : α) (j : Nat) : (leftOf R k x j).length <= j := by
 unfold leftOf
 refine Nat.le_trans (List.length_filter_le _ _) ?_
 simp
 omega
structure Mid (R : α -> α -> Prop) (k : List α) (x : α) (W0 : List α) (j : Nat) (W : List α) : Prop where
 le : j <= k.length
 len : W.length = W0.length
 tk : W.take (leftOf R k x j).length = leftOf R k x j
 beh : ∀ i, j <= i -> W[i]? = W0[i]?
theorem Mid.zero {k W0 : List α} {x : α} : Mid R k x W0 0 W0 := ⟨Nat.zero_le _, rfl, by simp [leftOf], fun _ _ => rfl⟩
theorem Mid.drop {k W0 W : List α} {x y : α} {j : Nat} (h : Mid R k x W0 j W) (hy : k[j]? = some y) (hR : R y x) : Mid R k x W0 (j + 1) W /\ leftOf R k x (j + 1) = leftOf R k x j := by
 have e := leftOf_step_drop hy hR
 have := (List.getElem?_eq_some_iff.1 hy).1
 exact ⟨⟨by omega, h.len, by rw [e]; exact h.tk, fun i hi => h.beh i (by omega)⟩, e⟩
theorem take_set_end {W : List α} {m : Nat} {F : List α} {y : α} (hm : F.length = m) (h : W.take m = F) (hl : m < W.length) : (W.set m y).take (m + 1) = F ++ [y] := by
 rw [List.take_add_one, List.getElem?_set_self hl, List.take_set]
 rw [h, List.set_eq_of_length_le (by omega)]
 rfl
theorem Mid.keep {k W0 W : List α} {x y : α} {j : Nat} (h : Mid R k x W0 j W) (hkw : k.length <= W0.length) (hy : k[j]? = some y) (hR : ¬ R y x) :
    Mid R k x W0 (j + 1) (W.set (leftOf R k x j).length y) /\ leftOf R k x (j + 1) = leftOf R k x j ++ [y] /\ (leftOf R k x j).length < W.length := by
 have e := leftOf_step_keep hy hR
 have hj := (List.getElem?_eq_some_iff.1 hy).1
 have hle := leftOf_le (R := R) k x j
 have hlt : (leftOf R k x j).length < W.length := by rw [h.len]; omega
 refine ⟨⟨by omega, by simp [h.len], ?_, fun i hi => ?_⟩, e, hlt⟩
 . rw [e, List.length_append]
   exact take_set_end rfl h.tk hlt
 . rw [List.getElem?_set_ne (by omega)]
   exact h.beh i (by omega)
theorem Mid.get {k W0 W : List α} {x : α} {j : Nat} (h : Mid R k x W0 j W) (h0 : W0.take k.length = k) (hj : j < k.length) : W[j]? = k[j]? := by
 rw [h.beh j (Nat.le_refl _)]
 have := congrArg (fun z : List α => z[j]?) h0
 simp only [List.getElem?_take, if_pos hj] at this
 exact this
theorem leftOf_all (k : List α) (x : α) (h : ∀ y ∈ k, ¬ R x y) : leftOf R k x k.length ++ [x] = addG R k x := by
 rw [addG_out h]
 unfold leftOf
 rw [List.take_length]
theorem Kept.step {l : List α} {i : Nat} {W W' : List α} {x : α} (h : Kept R l i W) (hx : l[i]? = some x) (hno : ∀ y ∈ grG R (l.take i), ¬ R x y) (hW : Mid R (grG R (l.take i)) x W (grG R (l.take i)).length W') :
    grG R (l.take (i + 1)) = leftOf R (grG R (l.take i)) x (grG R (l.take i)).length ++ [x] /\
    ((leftOf R (grG R (l.take i)) x (grG R (l.take i)).length).length < W'.length -> Kept R l (i + 1) (W'.set (leftOf R (grG R (l.take i)) x (grG R (l.take i)).length).length x)) /\
    ((leftOf R (grG R (l.take i)) x (grG R (l.take i)).length).length = W'.length -> Kept R l (i + 1) (W' ++ [x])) := by
 have e : grG R (l.take (i + 1)) = leftOf R (grG R (l.take i)) x (grG R (l.take i)).length ++ [x] := by rw [grG_take hx, leftOf_all _ _ hno]
 have hi := (List.getElem?_eq_some_iff.1 hx).1
 have hw := h.w
 have hlw := hW.len
 refine ⟨e, fun hlt => ⟨by omega, ?_, ?_, by simp; omega⟩, fun heq => ⟨by omega, ?_, ?_, by simp; omega⟩⟩
 . rw [e, List.length_append]
   exact take_set_end rfl hW.tk hlt
 . rw [e, List.length_append]
   simp
   omega
 . rw [e, List.length_append]
   have := hW.tk
   rw [heq, List.take_length] at this
   rw [heq, <- this]
   exact List.take_of_length_le (by simp)
 . rw [e, List.length_append]
   simp
   omega
end
end Go.Proofs.YtagmibogginaaaaGreatDoor
namespace Go.Proofs.YtagmibogginaaaaGreatDoor
open Go Go.Vx
theorem metL_app (p : Str) (a b : List Str) : metL p (a ++ b) = metL p a ++ metL p b := by simp [metL]
theorem metL_none {p m : Str} (h : meetT m p = none) : metL p [m] = [] := by simp [metL, h]
theorem metL_some {p m c : Str} (h : meetT m p = some c) : metL p [m] = [c] := by simp [metL, h]
theorem metL_le (p : Str) (a : List Str) : (metL p a).length <= a.length := by
 unfold metL
 exact List.length_filterMap_le _ _
theorem perm_map_ex {α β : Type} {f : α -> β} : ∀ {ys m : List β}, ys.Perm m -> ∀ l : List α, m = l.map f -> ∃ zs : List α, zs.Perm l /\ ys = zs.map f := by
 intro ys m h
 induction h with
 | nil => intro l hl; exact ⟨l, .refl l, hl⟩
 | cons x h ih =>
  intro l hl
  cases l with
  | nil => cases hl
  | cons a l =>
   simp only [List.map_cons, List.cons.injEq] at hl
   obtain ⟨zs, h1, h2⟩ := ih l hl.2
   exact ⟨a :: zs, h1.cons a, by rw [List.map_cons, <- hl.1, h2]⟩
 | swap x y r =>
  intro l hl
  match l, hl with
  | a :: b :: l, hl =>
   simp only [List.map_cons, List.cons.injEq] at hl
   refine ⟨b :: a :: l, .swap a b l, ?_⟩
   rw [List.map_cons, List.map_cons, hl.1, hl.2.1, hl.2.2]
 | trans h1 h2 ih1 ih2 =>
  intro l hl
  obtain ⟨z1, a1, a2⟩ := ih2 l hl
  obtain ⟨z2, b1, b2⟩ := ih1 z1 a2
  exact ⟨z2, b1.trans a1, b2⟩
theorem flat_len {l : List Str} {n : Nat} (h : ∀ x ∈ l, x.length <= n) : l.flatten.length <= l.length * n := by
 induction l with
 | nil => simp
 | cons x l ih =>
  have := ih fun y hy => h y (by simp [hy])
  have := h x (by simp)
  rw [List.flatten_cons, List.length_append, List.length_cons, Nat.add_mul]
  omega
theorem take_snoc {α : Type} {l : List α} {i : Nat} {x : α} (h : l[i]? = some x) : l.take (i + 1) = l.take i ++ [x] := by
 rw [List.take_add_one, h]; rfl
theorem over_set {α : Type} {ks W : List α} {i : Nat} {x : α} (h : ks[i]? = some x) (hl : ks.length <= W.length) : (ks.take i ++ W.drop i).set i x = ks.take (i + 1) ++ W.drop (i + 1) := by
 have hi := (List.getElem?_eq_some_iff.1 h).1
 rw [List.set_append, if_neg (by simp; omega), take_snoc h, List.append_assoc]
 congr 1
 rw [show i - (ks.take i).length = 0 by simp; omega]
 rw [List.drop_eq_getElem_cons (show i < W.length by omega)]
 rfl
theorem over_at {α : Type} {ks W : List α} {i : Nat} (hi : i < ks.length) (hl : ks.length <= W.length) : ∃ y, (ks.take i ++ W.drop i)[i]? = some y := by
 refine ⟨W[i]'(by omega), ?_⟩
 rw [List.getElem?_append_right (by simp; omega)]
 simp
 rw [show i - min i ks.length = 0 by omega, Nat.add_zero]
 exact List.getElem?_eq_getElem _
theorem room_at2 {α : Type} {ks : List α} {i n : Nat} (z : α) (hn : ks.length = n) (hi : i < n) : (ks.take i ++ List.replicate (n - i) z)[i]? = some z := by
 rw [List.getElem?_append_right (by simp; omega)]
 simp [List.getElem?_replicate]
 omega
theorem room_set2 {α : Type} {ks : List α} {i n : Nat} {z x : α} (hn : ks.length = n) (h : ks[i]? = some x) : (ks.take i ++ List.replicate (n - i) z).set i x = ks.take (i + 1) ++ List.replicate (n - (i + 1)) z := by
 have hi := (List.getElem?_eq_some_iff.1 h).1
 rw [List.set_append, if_neg (by simp; omega), take_snoc h, List.append_assoc]
 congr 1
 rw [show i - (ks.take i).length = 0 by simp; omega, show n - i = (n - (i + 1)) + 1 by omega, List.replicate_succ]
 rfl
theorem set_set_same {α : Type} (l : List α) (i : Nat) (x y : α) : (l.set i x).set i y = l.set i y := by simp
end Go.Proofs.YtagmibogginaaaaGreatDoor
namespace Go.Proofs.YtagmibogginaaaaGreatDoor
open Go Go.Vx
theorem meetL_snoc : ∀ {c d : Str} {a b : UInt8}, c.length = d.length -> meetL (c ++ [a]) (d ++ [b]) = match meetL c d, meet1 a b with | some m, some x => some (m ++ [x]) | _, _ => none
 | [], [], a, b, _ => by
  cases h : meet1 a b <;> simp [meetL, h]
 | [], _ :: _, _, _, h => by simp at h
 | _ :: _, [], _, _, h => by simp at h
 | x :: c, y :: d, a, b, h => by
  have ih := meetL_snoc (c := c) (d := d) (a := a) (b := b) (by simpa using h)
  simp only [List.cons_append, meetL, ih]
  cases meet1 x y <;> cases meetL c d <;> cases meet1 a b <;> simp
theorem meetL_step {c d m : Str} {i : Nat} {a b x : UInt8} (ha : c[i]? = some a) (hb : d[i]? = some b) (hm : meetL (c.take i) (d.take i) = some m) (hx : meet1 a b = some x) : meetL (c.take (i + 1)) (d.take (i + 1)) = some (m ++ [x]) := by
 have h1 := (List.getElem?_eq_some_iff.1 ha).1
 have h2 := (List.getElem?_eq_some_iff.1 hb).1
 rw [take_snoc ha, take_snoc hb, meetL_snoc (by simp; omega), hm, hx]
theorem meetL_stop {c d : Str} {i : Nat} {a b : UInt8} (ha : c[i]? = some a) (hb : d[i]? = some b) (hx : meet1 a b = none) : meetL c d = none := by
 cases h : meetL c d with
 | none => rfl
 | some m =>
  obtain ⟨x, _, h2⟩ := meetL_get h i a b ha hb
  rw [hx] at h2
  cases h2
theorem inL_iff : ∀ {c d : Str}, inL c d ↔ c.length = d.length /\ ∀ (i : Nat) a b, c[i]? = some a -> d[i]? = some b -> b = 120 \/ b = a
 | [], [] => by simp [inL]
 | [], _ :: _ => by simp [inL]
 | _ :: _, [] => by simp [inL]
 | a :: c, b :: d => by
  simp only [inL, inL_iff (c := c) (d := d), List.length_cons, Nat.add_right_cancel_iff]
  constructor
  . rintro ⟨h1, h2, h3⟩
    refine ⟨h2, fun i x y hx hy => ?_⟩
    cases i with
    | zero => simp at hx hy; subst hx hy; exact h1
    | succ i => exact h3 i x y (by simpa using hx) (by simpa using hy)
  . rintro ⟨h2, h3⟩
    exact ⟨h3 0 a b rfl rfl, h2, fun i x y hx hy => h3 (i + 1) x y (by simpa using hx) (by simpa using hy)⟩
theorem fill2_at {m : Str} {i n : Nat} (hm : m.length = i) (hi : i < n) : (m ++ List.replicate (n - i) (0 : UInt8))[i]? = some 0 := by
 rw [List.getElem?_append_right (by omega)]
 simp [List.getElem?_replicate]
 omega
theorem fill2_set {m : Str} {i n : Nat} {b y : UInt8} (hm : m.length = i) (hi : i < n) : ((m ++ List.replicate (n - i) (0 : UInt8)).set i y).set i b = (m ++ [b]) ++ List.replicate (n - (i + 1)) 0 := by
 rw [List.set_set, List.set_append, if_neg (by omega), show n - i = (n - (i + 1)) + 1 by omega, List.replicate_succ, show i - m.length = 0 by omega, List.set_cons_zero]
 simp
theorem fill2_set1 {m : Str} {i n : Nat} {b : UInt8} (hm : m.length = i) (hi : i < n) : (m ++ List.replicate (n - i) (0 : UInt8)).set i b = (m ++ [b]) ++ List.replicate (n - (i + 1)) 0 := by
 have := fill2_set (b := b) (y := b) hm hi
 rwa [List.set_set] at this
open Classical in
theorem putG_in {α : Type} {R L : α -> α -> Prop} {k : List α} {c : α} (h : ∃ y ∈ k, R c y) : putG R L k c = k := by
 unfold putG
 rw [if_pos h]
open Classical in
noncomputable def nb {α : Type} (R : α -> α -> Prop) (c : α) (l : List α) : List α := l.filter fun x => decide (¬ R x c)
structure PutSt {α : Type} (R L : α -> α -> Prop) (k : List α) (c : α) (i : Nat) (m : List α) (done : Prop) : Prop where
 yes : done -> m = insG L c (nb R c (k.take i)) /\ ∃ x ∈ nb R c (k.take i), L c x
 no : ¬ done -> m = nb R c (k.take i) /\ ∀ x ∈ nb R c (k.take i), ¬ L c x
open Classical in
theorem insG_end {α : Type} {L : α -> α -> Prop} {c : α} : ∀ {l : List α}, (∀ x ∈ l, ¬ L c x) -> insG L c l = l ++ [c]
 | [], _ => rfl
 | x :: l, h => by
  unfold insG
  rw [if_neg (h x (by simp)), insG_end fun y hy => h y (by simp [hy])]
  rfl
open Classical in
theorem insG_more {α : Type} {L : α -> α -> Prop} {c : α} : ∀ {l m : List α}, (∃ x ∈ l, L c x) -> insG L c (l ++ m) = insG L c l ++ m
 | [], _, h => by obtain ⟨x, hx, _⟩ := h; simp at hx
 | x :: l, m, h => by
  by_cases hx : L c x
  . show insG L c (x :: (l ++ m)) = insG L c (x :: l) ++ m
    unfold insG
    rw [if_pos hx, if_pos hx]
    rfl
  . have ih := insG_more (L := L) (c := c) (l := l) (m := m) (by
      obtain ⟨y, hy, hl⟩ := h
      rcases List.mem_cons.1 hy with rfl | hy
      . exact absurd hl hx
      . exact ⟨y, hy, hl⟩)
    have e1 : ∀ q : List α, insG L c (x :: q) = x :: insG L c q := fun q => by
     conv => lhs; unfold insG
     rw [if_neg hx]
    show insG L c (x :: (l ++ m)) = insG L c (x :: l) ++ m
    rw [e1, e1, ih]
    rfl
open Classical in
theorem insG_at {α : Type} {L : α -> α -> Prop} {c x : α} {l : List α} (h : ∀ y ∈ l, ¬ L c y) (hx : L c x) : insG L c (l ++ [x]) = l ++ [c, x] := by
 induction l with
 | nil => simp [insG, hx]
 | cons y l ih =>
  show insG L c (y :: (l ++ [x])) = _
  unfold insG
  rw [if_neg (h y (by simp)), ih fun z hz => h z (by simp [hz])]
  rfl
section
variable {α : Type} {R L : α → α → Prop} {k : List α} {c : α} {i : Nat} {m : List α} {done : Prop}
open Classical in
theorem nb_in {x : α} (h : k[i]? = some x) (hR : R x c) : nb R c (k.take (i + 1)) = nb R c (k.take i) := by
 unfold nb
 rw [take_snoc h, List.filter_append]
 simp [hR]
open Classical in
theorem nb_out {x : α} (h : k[i]? = some x) (hR : ¬ R x c) : nb R c (k.take (i + 1)) = nb R c (k.take i) ++ [x] := by
 unfold nb
 rw [take_snoc h, List.filter_append]
 simp [hR]
theorem PutSt.zero : PutSt R L k c 0 [] False := ⟨fun h => h.elim, fun _ => ⟨by simp [nb], by simp [nb]⟩⟩
theorem PutSt.skip {x : α} (h : PutSt R L k c i m done) (hx : k[i]? = some x) (hR : R x c) : PutSt R L k c (i + 1) m done := by
 have e := nb_in hx hR
 exact ⟨fun hd => by rw [e]; exact h.yes hd, fun hd => by rw [e]; exact h.no hd⟩
theorem PutSt.old {x : α} (h : PutSt R L k c i m done) (hx : k[i]? = some x) (hR : ¬ R x c) (hd : done \/ ¬ L c x) : PutSt R L k c (i + 1) (m ++ [x]) done := by
 have e := nb_out hx hR
 refine ⟨fun hd => ?_, fun hn => ?_⟩
 . obtain ⟨h1, h2⟩ := h.yes hd
   rw [e, insG_more h2, <- h1]
   obtain ⟨y, hy, hl⟩ := h2
   exact ⟨rfl, y, by simp [hy], hl⟩
 . obtain ⟨h1, h2⟩ := h.no hn
   rw [e, <- h1]
   refine ⟨rfl, fun y hy => ?_⟩
   rcases List.mem_append.1 hy with hy | hy
   . exact h2 y (by rw [<- h1]; exact hy)
   . simp at hy; subst hy; exact hd.resolve_left hn
theorem PutSt.new {x : α} (h : PutSt R L k c i m done) (hx : k[i]? = some x) (hR : ¬ R x c) (hn : ¬ done) (hl : L c x) : PutSt R L k c (i + 1) (m ++ [c] ++ [x]) True := by
 have e := nb_out hx hR
 obtain ⟨h1, h2⟩ := h.no hn
 refine ⟨fun _ => ?_, fun h => absurd trivial h⟩
 rw [e, insG_at h2 hl, h1]
 exact ⟨by simp, x, by simp, hl⟩
open Classical in
theorem PutSt.fin (h : PutSt R L k c k.length m done) (hno : ¬ ∃ y ∈ k, R c y) : putG R L k c = if done then m else m ++ [c] := by
 unfold putG
 rw [if_neg hno]
 show insG L c (nb R c k) = _
 by_cases hd : done
 . rw [if_pos hd, (h.yes hd).1, List.take_length]
 . rw [if_neg hd]
   have := h.no hd
   rw [List.take_length] at this
   rw [insG_end this.2, this.1]
end
end Go.Proofs.YtagmibogginaaaaGreatDoor
namespace Go.Proofs.YtagmibogginaaaaGreatDoor
open Go Go.Vx
theorem lexL_cons (x : Str) (a b : List Str) : lexL (x :: a) (x :: b) ↔ lexL a b := by simp [lexL, bl_irrefl]
theorem lexL_split : ∀ {i : Nat} {a b : List Str}, a.take i = b.take i -> i <= a.length -> i <= b.length -> (lexL a b ↔ lexL (a.drop i) (b.drop i))
 | 0, a, b, _, _, _ => by simp
 | i + 1, [], _, _, h, _ => by simp at h
 | i + 1, _ :: _, [], _, _, h => by simp at h
 | i + 1, x :: a, y :: b, h, h1, h2 => by
  simp only [List.take_succ_cons, List.cons.injEq] at h
  obtain ⟨rfl, h⟩ := h
  rw [lexL_cons, lexL_split h (by simpa using h1) (by simpa using h2)]
  rfl
theorem lexL_differ {a b : List Str} {i : Nat} {x y : Str} (h : a.take i = b.take i) (hx : a[i]? = some x) (hy : b[i]? = some y) (hne : x ≠ y) : lexL a b ↔ Op.bytesLess x y = true := by
 have h1 := (List.getElem?_eq_some_iff.1 hx).1
 have h2 := (List.getElem?_eq_some_iff.1 hy).1
 rw [lexL_split h (by omega) (by omega), List.drop_eq_getElem_cons h1, List.drop_eq_getElem_cons h2]
 have e1 : a[i] = x := (List.getElem?_eq_some_iff.1 hx).2
 have e2 : b[i] = y := (List.getElem?_eq_some_iff.1 hy).2
 rw [e1, e2]
 simp [lexL, hne]
theorem lexL_end {a b : List Str} {i : Nat} (h : a.take i = b.take i) (h1 : i <= a.length) (h2 : i <= b.length) (he : i = a.length \/ i = b.length) : lexL a b ↔ a.length < b.length := by
 rw [lexL_split h h1 h2]
 rcases he with e | e
 . have e1 : a.drop i = [] := List.drop_of_length_le (by omega)
   rw [e1]
   cases hb : b.drop i with
   | nil =>
    have := congrArg List.length hb
    simp at this
    simp [lexL]
    omega
   | cons y r =>
    have := congrArg List.length hb
    simp at this
    simp [lexL]
    omega
 . have e1 : b.drop i = [] := List.drop_of_length_le (by omega)
   rw [e1]
   constructor
   . intro h; cases ha : a.drop i <;> rw [ha] at h <;> simp [lexL] at h
   . intro h; omega
theorem set_perm {α : Type} : ∀ {l : List α} {j : Nat} {x y : α}, l[j]? = some y -> (y :: l.set j x).Perm (x :: l)
 | [], _, _, _, h => by simp at h
 | a :: l, 0, x, y, h => by simp at h; subst h; exact .swap x a l
 | a :: l, j + 1, x, y, h => by
  have ih := set_perm (l := l) (j := j) (x := x) (y := y) (by simpa using h)
  exact (List.Perm.swap a y _).trans ((ih.cons a).trans (.swap x a l))
theorem swapdel {α : Type} {l : List α} {j : Nat} {y z : α} (hy : l[j]? = some y) (hz : l[l.length - 1]? = some z) : (y :: (l.set j z).take (l.length - 1)).Perm l := by
 have hj := (List.getElem?_eq_some_iff.1 hy).1
 have hsplit : l = l.take (l.length - 1) ++ [z] := by
  have := take_snoc hz
  rw [show l.length - 1 + 1 = l.length by omega, List.take_length] at this
  exact this
 generalize hI : l.take (l.length - 1) = I at hsplit
 have hIl : I.length = l.length - 1 := by rw [<- hI]; simp
 by_cases hjl : j = l.length - 1
 . subst hjl
   rw [hy] at hz
   cases hz
   have : (l.set (l.length - 1) y).take (l.length - 1) = I := by rw [List.take_set, hI, List.set_eq_of_length_le (by omega)]
   rw [this]
   conv => rhs; rw [hsplit]
   exact (List.perm_append_singleton y I).symm
 . have h1 : (l.set j z).take (l.length - 1) = I.set j z := by rw [List.take_set, hI]
   rw [h1]
   have h2 : I[j]? = some y := by
    rw [<- hI, List.getElem?_take, if_pos (by omega)]
    exact hy
   refine (set_perm h2).trans ?_
   conv => rhs; rw [hsplit]
   exact (List.perm_append_singleton z I).symm
section
variable {α : Type} {f : α → Term}
structure Sel (f : α -> Term) (K S W : List α) (m : Nat) : Prop where
 le : m <= W.length
 perm : (S ++ W.take m).Perm K
 sort : S.Pairwise fun a b => aheadT (f a) (f b)
 low : ∀ s ∈ S, ∀ y ∈ W.take m, aheadT (f s) (f y)
theorem Sel.zero {K : List α} : Sel f K [] K K.length := ⟨Nat.le_refl _, by simp, by simp, by simp⟩
theorem Sel.step {K S W : List α} {m j : Nat} {y z : α} (h : Sel f K S W m) (hnd : K.Pairwise fun a b => f a ≠ f b) (hy : W[j]? = some y) (hj : j < m) (hz : W[m - 1]? = some z) (hmin : ∀ i, i < m -> ∀ x, W[i]? = some x -> ¬ aheadT (f x) (f y)) :
    Sel f K (S ++ [y]) (W.set j z) (m - 1) := by
 have hle := h.le
 generalize hl : W.take m = l at *
 have hll : l.length = m := by rw [<- hl]; simp; omega
 have hly : l[j]? = some y := by rw [<- hl, List.getElem?_take, if_pos hj]; exact hy
 have hlz : l[l.length - 1]? = some z := by rw [hll, <- hl, List.getElem?_take, if_pos (by omega)]; exact hz
 have hp := swapdel hly hlz
 have e : (W.set j z).take (m - 1) = (l.set j z).take (l.length - 1) := by
  rw [hll, <- hl, <- List.take_set, List.take_take, Nat.min_eq_left (by omega)]
 have hperm := h.perm
 rw [hl] at hperm
 have hndl : (y :: (l.set j z).take (l.length - 1)).Pairwise fun a b => f a ≠ f b := by
  have h1 : (S ++ l).Pairwise fun a b => f a ≠ f b := (hperm.pairwise_iff fun {a b} hab => Ne.symm hab).2 hnd
  exact (hp.pairwise_iff fun {a b} hab => Ne.symm hab).2 (List.pairwise_append.1 h1).2.1
 have hlow := h.low
 rw [hl] at hlow
 have hyl : y ∈ l := List.mem_of_getElem? hly
 refine ⟨by simp; omega, ?_, ?_, ?_⟩
 . rw [e, List.append_assoc]
   exact (hp.append_left S).trans hperm
 . rw [List.pairwise_append]
   refine ⟨h.sort, by simp, fun a ha b hb => ?_⟩
   simp at hb
   subst hb
   exact hlow a ha b hyl
 . rw [e]
   intro s hs x hx
   have hxl : x ∈ l := hp.mem_iff.1 (List.mem_cons_of_mem _ hx)
   rcases List.mem_append.1 hs with hs | hs
   . exact hlow s hs x hxl
   . simp at hs
     subst hs
     have hne := (List.pairwise_cons.1 hndl).1 x hx
     obtain ⟨i, hi, hix⟩ := List.getElem_of_mem hxl
     have h2 : W[i]? = some x := by
      have : l[i]? = some x := by rw [List.getElem?_eq_getElem hi, hix]
      rw [<- hl, List.getElem?_take, if_pos (by omega)] at this
      exact this
     rcases ahead_total hne with k | k
     . exact k
     . exact absurd k (hmin i (by omega) x h2)
theorem Sel.fin {K S W : List α} (h : Sel f K S W 0) : S.Perm K /\ S.Pairwise fun a b => aheadT (f a) (f b) := by
 have := h.perm
 simp at this
 exact ⟨this, h.sort⟩
end
theorem formT_sel {l k : List Term} {n : Nat} (hl : ∀ t ∈ l, t.Ok n) (hp : k.Perm (grG covT l)) (hs : k.Pairwise aheadT) : k = formT l := by
 have ha := grG_anti covT_trans l fun t ht => covT_refl (hl t ht)
 have hok : ∀ t ∈ grG covT l, t.Ok n := fun t ht => hl t (ha.sub t ht)
 have tot : (grG covT l).Pairwise fun x y => x ≠ y := ha.anti.imp_of_mem fun {a b} hma _ hab e => hab.1 (by rw [<- e]; exact covT_refl (hok a hma))
 exact srt_uniq ahead_irrefl ahead_trans (tot.imp ahead_total) hp hs
theorem grG_differ {l : List Term} {n : Nat} (hl : ∀ t ∈ l, t.Ok n) : (grG covT l).Pairwise fun x y => x ≠ y := by
 have ha := grG_anti covT_trans l fun t ht => covT_refl (hl t ht)
 exact ha.anti.imp_of_mem fun {a b} hma _ hab e => hab.1 (by rw [<- e]; exact covT_refl (hl a (ha.sub a hma)))
end Go.Proofs.YtagmibogginaaaaGreatDoor
namespace Go.Proofs.YtagmibogginaaaaGreatDoor
open Go Go.Vx
def tTail (l : List Str) : Str := (l.map fun m => (45 : UInt8) :: m).flatten
def ttxt (t : Term) : Str := t.p ++ tTail t.less
def sepT (l : List Term) : Str := ((l.map fun t => (43 : UInt8) :: ttxt t).flatten).drop 1
open Classical in
noncomputable def textS (l : List Term) : Str := if l = [] then [110, 111, 110, 101] else sepT l
def preT (l : List Term) (i : Nat) : Str := if i = 0 then [] else sepT (l.take i) ++ [43]
theorem tTail_snoc {l : List Str} {j : Nat} {m : Str} (h : l[j]? = some m) : tTail (l.take (j + 1)) = tTail (l.take j) ++ [45] ++ m := by
 unfold tTail
 rw [take_snoc h]
 simp
theorem sepT_step {l : List Term} {i : Nat} {t : Term} (h : l[i]? = some t) : sepT (l.take (i + 1)) = preT l i ++ ttxt t := by
 have hi := (List.getElem?_eq_some_iff.1 h).1
 unfold preT
 split
 . rename_i h0
   subst h0
   rw [take_snoc h]
   simp [sepT]
 . rename_i h0
   rw [take_snoc h]
   unfold sepT
   rw [List.map_append, List.flatten_append, List.drop_append_of_le_length]
   . simp
   . cases l with
     | nil => simp at h
     | cons a r =>
      cases i with
      | zero => exact absurd rfl h0
      | succ i => simp
theorem sepT_nil : sepT [] = [] := rfl
def szS (l : List Term) : Nat := (l.map fun t => 1 + t.less.length).sum
theorem tTail_len {l : List Str} (h : ∀ m ∈ l, m.length <= 256) : (tTail l).length <= 257 * l.length := by
 induction l with
 | nil => simp [tTail]
 | cons m l ih =>
  have h1 := ih fun x hx => h x (by simp [hx])
  have h2 := h m (by simp)
  unfold tTail at h1 ⊢
  rw [List.map_cons, List.flatten_cons, List.length_append, List.length_cons, List.length_cons]
  omega
theorem ttxt_len {t : Term} (hp : t.p.length <= 256) (h : ∀ m ∈ t.less, m.length <= 256) : (ttxt t).length <= 257 * (1 + t.less.length) - 1 := by
 have := tTail_len h
 unfold ttxt
 rw [List.length_append]
 omega
theorem sepT_len {l : List Term} (h : ∀ t ∈ l, t.p.length <= 256 /\ ∀ m ∈ t.less, m.length <= 256) : (sepT l).length <= 257 * szS l := by
 have key : ((l.map fun t => (43 : UInt8) :: ttxt t).flatten).length <= 257 * szS l := by
  induction l with
  | nil => simp
  | cons t l ih =>
   have h1 := ih fun x hx => h x (by simp [hx])
   have h2 := ttxt_len (h t (by simp)).1 (h t (by simp)).2
   simp only [szS, List.map_cons, List.flatten_cons, List.length_append, List.length_cons, List.sum_cons] at h1 ⊢
   rw [Nat.mul_add]
   omega
 unfold sepT
 rw [List.length_drop]
 omega
theorem szS_take (l : List Term) (i : Nat) : szS (l.take i) <= szS l := by
 unfold szS
 conv => rhs; rw [<- List.take_append_drop i l]
 rw [List.map_append, List.sum_append]
 omega
theorem szS_mem {l : List Term} {t : Term} (h : t ∈ l) : 1 + t.less.length <= szS l := by
 unfold szS
 induction l with
 | nil => simp at h
 | cons a l ih =>
  simp only [List.map_cons, List.sum_cons]
  rcases List.mem_cons.1 h with rfl | h
  . omega
  . have := ih h; omega
theorem szS_len (l : List Term) : l.length <= szS l := by
 unfold szS
 induction l with
 | nil => simp
 | cons a l ih => simp only [List.map_cons, List.sum_cons, List.length_cons]; omega
theorem key_at {n : Nat} {p : Str} : ∀ {less : List Str} {j : Nat} {m : Str}, p.length = n -> (∀ x ∈ less, x.length = n) -> less[j]? = some m -> ((p ++ less.flatten).take (n * (j + 1) + n)).drop (n * (j + 1)) = m
 | [], j, m, _, _, h => by simp at h
 | x :: less, 0, m, hp, hl, h => by
  simp at h
  subst h
  have hx := hl x (by simp)
  rw [List.flatten_cons, <- List.append_assoc, show n * (0 + 1) + n = (p ++ x).length by simp [hp, hx]]
  rw [List.take_left', show n * (0 + 1) = p.length by simp [hp]]
  . exact List.drop_left' rfl
  . rfl
 | x :: less, j + 1, m, hp, hl, h => by
  have hx := hl x (by simp)
  have ih := key_at (p := x) (less := less) (j := j) (m := m) hx (fun y hy => hl y (by simp [hy])) (by simpa using h)
  rw [List.flatten_cons]
  have e1 : n * (j + 1 + 1) = p.length + n * (j + 1) := by rw [hp, Nat.mul_add n (j + 1) 1]; omega
  rw [e1, Nat.add_assoc, List.take_append]
  rw [List.take_of_length_le (by omega), show p.length + (n * (j + 1) + n) - p.length = n * (j + 1) + n by omega, List.drop_append, List.drop_of_length_le (by omega), List.nil_append,
   show p.length + n * (j + 1) - p.length = n * (j + 1) by omega]
  exact ih
theorem key_head {n : Nat} {p : Str} {less : List Str} (hp : p.length = n) : (p ++ less.flatten).take n = p := List.take_left' hp
theorem key_len {n : Nat} {p : Str} {less : List Str} (hp : p.length = n) (h : ∀ x ∈ less, x.length = n) : (p ++ less.flatten).length = n * (less.length + 1) := by
 rw [List.length_append, hp, Nat.mul_add, Nat.mul_one, Nat.add_comm]
 congr 1
 induction less with
 | nil => simp
 | cons x l ih =>
  have := ih fun y hy => h y (by simp [hy])
  rw [List.flatten_cons, List.length_append, h x (by simp), this, List.length_cons, Nat.mul_add]
  omega
end Go.Proofs.YtagmibogginaaaaGreatDoor
namespace Go.Proofs.YtagmibogginaaaaGreatDoor
open Go Go.Vx
def T : Tab := fun t => match t with
 | 3 => some ⟨1, 8, .int .i64, [.i .i64 0]⟩
 | 4 => some ⟨1, 1, .bool, [.ff]⟩
 | 5 => some ⟨1, 1, .int .u8, [.i .u8 0]⟩
 | 9 => some ⟨1, 16, .str, [.s []]⟩
 | 20 => some ⟨1, 16, .other, [.nilI]⟩
 | 22 => some ⟨1, 24, .slice 34, [.nilS]⟩
 | 23 => some ⟨1, 24, .slice 56, [.nilS]⟩
 | 26 => some ⟨1, 8, .int .i64, [.i .i64 0]⟩
 | 34 => some ⟨2, 24, .struct [(0, 9), (1, 3)], [.s [], .i .i64 0]⟩
 | 36 => some ⟨1, 24, .slice 9, [.nilS]⟩
 | 42 => some ⟨1, 24, .slice 130, [.nilS]⟩
 | 44 => some ⟨2, 32, .struct [(0, 3), (1, 42)], [.i .i64 0, .nilS]⟩
 | 47 => some ⟨1, 24, .slice 109, [.nilS]⟩
 | 49 => some ⟨2, 32, .struct [(0, 3), (1, 47)], [.i .i64 0, .nilS]⟩
 | 54 => some ⟨7, 72, .struct [(0, 9), (1, 3), (2, 3), (3, 3), (4, 3), (5, 3), (6, 9)], [.s [], .i .i64 0, .i .i64 0, .i .i64 0, .i .i64 0, .i .i64 0, .s []]⟩
 | 56 => some ⟨8, 80, .struct [(0, 3), (1, 54)], [.i .i64 0, .s [], .i .i64 0, .i .i64 0, .i .i64 0, .i .i64 0, .i .i64 0, .s []]⟩
 | 58 => some ⟨1, 16, .other, [.nilI]⟩
 | 64 => some ⟨3, 32, .struct [(0, 9), (1, 3), (2, 3)], [.s [], .i .i64 0, .i .i64 0]⟩
 | 69 => some ⟨1, 24, .slice 3, [.nilS]⟩
 | 74 => some ⟨2, 48, .struct [(0, 22), (1, 69)], [.nilS, .nilS]⟩
 | 77 => some ⟨1, 24, .slice 4, [.nilS]⟩
 | 80 => some ⟨1, 24, .slice 49, [.nilS]⟩
 | 94 => some ⟨1, 24, .slice 64, [.nilS]⟩
 | 109 => some ⟨2, 40, .struct [(0, 9), (1, 36)], [.s [], .nilS]⟩
 | 110 => some ⟨1, 24, .slice 5, [.nilS]⟩
 | 120 => some ⟨1, 8, .ptr 122, [.nilP]⟩
 | 122 => some ⟨2, 32, .struct [(0, 120), (1, 110)], [.nilP, .nilS]⟩
 | 123 => some ⟨1, 8, .int .u64, [.i .u64 0]⟩
 | 125 => some ⟨4, 32, .array 4 123, [.i .u64 0, .i .u64 0, .i .u64 0, .i .u64 0]⟩
 | 127 => some ⟨9, 72, .struct [(0, 3), (1, 125), (5, 125)], [.i .i64 0, .i .u64 0, .i .u64 0, .i .u64 0, .i .u64 0, .i .u64 0, .i .u64 0, .i .u64 0, .i .u64 0]⟩
 | 128 => some ⟨1, 24, .slice 127, [.nilS]⟩
 | 130 => some ⟨11, 112, .struct [(0, 127), (9, 128), (10, 9)], [.i .i64 0, .i .u64 0, .i .u64 0, .i .u64 0, .i .u64 0, .i .u64 0, .i .u64 0, .i .u64 0, .i .u64 0, .nilS, .s []]⟩
 | 137 => some ⟨1, 24, .slice 58, [.nilS]⟩
 | 139 => some ⟨1, 1, .struct [(0, 4)], [.ff]⟩
 | 141 => some ⟨7, 72, .struct [(0, 54)], [.s [], .i .i64 0, .i .i64 0, .i .i64 0, .i .i64 0, .i .i64 0, .s []]⟩
 | 143 => some ⟨1, 16, .struct [(0, 58)], [.nilI]⟩
 | 145 => some ⟨2, 32, .struct [(0, 58), (1, 58)], [.nilI, .nilI]⟩
 | 147 => some ⟨2, 32, .struct [(0, 145)], [.nilI, .nilI]⟩
 | 148 => some ⟨2, 32, .struct [(0, 145)], [.nilI, .nilI]⟩
 | 170 => some ⟨4, 4, .struct [(0, 4), (1, 4), (2, 4), (3, 4)], [.ff, .ff, .ff, .ff]⟩
 | 171 => some ⟨20, 20, .array 5 170, [.ff, .ff, .ff, .ff, .ff, .ff, .ff, .ff, .ff, .ff, .ff, .ff, .ff, .ff, .ff, .ff, .ff, .ff, .ff, .ff]⟩
 | 209 => some ⟨1, 8, .ptr 125, [.nilP]⟩
 | 231 => some ⟨0, 0, .struct [], []⟩
 | 233 => some ⟨1, 24, .slice 128, [.nilS]⟩
 | 235 => some ⟨1, 8, .other, [.nilF]⟩
 | 236 => some ⟨1, 24, .slice 238, [.nilS]⟩
 | 238 => some ⟨10, 88, .struct [(0, 127), (9, 9)], [.i .i64 0, .i .u64 0, .i .u64 0, .i .u64 0, .i .u64 0, .i .u64 0, .i .u64 0, .i .u64 0, .i .u64 0, .s []]⟩
 | 240 => some ⟨1, 8, .other, [.nilF]⟩
 | 242 => some ⟨1, 8, .other, [.nilF]⟩
 | _ => none
theorem good3 : Vx.Good Tryz.prog 3 ⟨1, 8, .int .i64, [.i .i64 0]⟩ :=
 ⟨⟨Tryz.t3, .int .i64 0, by kernel_rfl, rfl, rfl, rfl, rfl, rfl, by simp [Value.cells, Value.oneCell']⟩, Tryz.underlying3, fun w => Tryz.isAgg3 w, by decide⟩
theorem good4 : Vx.Good Tryz.prog 4 ⟨1, 1, .bool, [.ff]⟩ :=
 ⟨⟨Tryz.t4, .bool false, by kernel_rfl, rfl, rfl, rfl, rfl, rfl, by simp [Value.cells, Value.oneCell']⟩, Tryz.underlying4, fun w => Tryz.isAgg4 w, by decide⟩
theorem good5 : Vx.Good Tryz.prog 5 ⟨1, 1, .int .u8, [.i .u8 0]⟩ :=
 ⟨⟨Tryz.t5, .int .u8 0, by kernel_rfl, rfl, rfl, rfl, rfl, rfl, by simp [Value.cells, Value.oneCell']⟩, Tryz.underlying5, fun w => Tryz.isAgg5 w, by decide⟩
theorem good9 : Vx.Good Tryz.prog 9 ⟨1, 16, .str, [.s []]⟩ :=
 ⟨⟨Tryz.t9, .string ⟨#[]⟩, by kernel_rfl, rfl, rfl, rfl, rfl, rfl, by simp [Value.cells, Value.oneCell']⟩, Tryz.underlying9, fun w => Tryz.isAgg9 w, by decide⟩
theorem good20 : Vx.Good Tryz.prog 20 ⟨1, 16, .other, [.nilI]⟩ :=
 ⟨⟨Tryz.t20, .nilIface, by kernel_rfl, rfl, rfl, rfl, rfl, rfl, by simp [Value.cells, Value.oneCell']⟩, trivial, fun w => Tryz.isAgg20 w, by decide⟩
theorem good22 : Vx.Good Tryz.prog 22 ⟨1, 24, .slice 34, [.nilS]⟩ :=
 ⟨⟨Tryz.t22, .slice none 0 0, by kernel_rfl, rfl, rfl, rfl, rfl, rfl, by simp [Value.cells, Value.oneCell']⟩, Tryz.underlying22, fun w => Tryz.isAgg22 w, by decide⟩
theorem good23 : Vx.Good Tryz.prog 23 ⟨1, 24, .slice 56, [.nilS]⟩ :=
 ⟨⟨Tryz.t23, .slice none 0 0, by kernel_rfl, rfl, rfl, rfl, rfl, rfl, by simp [Value.cells, Value.oneCell']⟩, Tryz.underlying23, fun w => Tryz.isAgg23 w, by decide⟩
theorem good26 : Vx.Good Tryz.prog 26 ⟨1, 8, .int .i64, [.i .i64 0]⟩ :=
 ⟨⟨Tryz.t26, .int .i64 0, by kernel_rfl, rfl, rfl, rfl, rfl, rfl, by simp [Value.cells, Value.oneCell']⟩, Tryz.underlying26, fun w => Tryz.isAgg26 w, by decide⟩
theorem good34 : Vx.Good Tryz.prog 34 ⟨2, 24, .struct [(0, 9), (1, 3)], [.s [], .i .i64 0]⟩ :=
 ⟨⟨Tryz.t34, .agg #[.string ⟨#[]⟩, .int .i64 0], by kernel_rfl, rfl, rfl, rfl, rfl, rfl, by simp [Value.cells, Value.oneCell']⟩, ⟨_, Tryz.underlying34, rfl⟩, fun w => Tryz.isAgg34 w, by decide⟩
theorem good36 : Vx.Good Tryz.prog 36 ⟨1, 24, .slice 9, [.nilS]⟩ :=
 ⟨⟨Tryz.t36, .slice none 0 0, by kernel_rfl, rfl, rfl, rfl, rfl, rfl, by simp [Value.cells, Value.oneCell']⟩, Tryz.underlying36, fun w => Tryz.isAgg36 w, by decide⟩
theorem good42 : Vx.Good Tryz.prog 42 ⟨1, 24, .slice 130, [.nilS]⟩ :=
 ⟨⟨Tryz.t42, .slice none 0 0, by kernel_rfl, rfl, rfl, rfl, rfl, rfl, by simp [Value.cells, Value.oneCell']⟩, Tryz.underlying42, fun w => Tryz.isAgg42 w, by decide⟩
theorem good44 : Vx.Good Tryz.prog 44 ⟨2, 32, .struct [(0, 3), (1, 42)], [.i .i64 0, .nilS]⟩ :=
 ⟨⟨Tryz.t44, .agg #[.int .i64 0, .slice none 0 0], by kernel_rfl, rfl, rfl, rfl, rfl, rfl, by simp [Value.cells, Value.oneCell']⟩, ⟨_, Tryz.underlying44, rfl⟩, fun w => Tryz.isAgg44 w, by decide⟩
theorem good47 : Vx.Good Tryz.prog 47 ⟨1, 24, .slice 109, [.nilS]⟩ :=
 ⟨⟨Tryz.t47, .slice none 0 0, by kernel_rfl, rfl, rfl, rfl, rfl, rfl, by simp [Value.cells, Value.oneCell']⟩, Tryz.underlying47, fun w => Tryz.isAgg47 w, by decide⟩
theorem good49 : Vx.Good Tryz.prog 49 ⟨2, 32, .struct [(0, 3), (1, 47)], [.i .i64 0, .nilS]⟩ :=
 ⟨⟨Tryz.t49, .agg #[.int .i64 0, .slice none 0 0], by kernel_rfl, rfl, rfl, rfl, rfl, rfl, by simp [Value.cells, Value.oneCell']⟩, ⟨_, Tryz.underlying49, rfl⟩, fun w => Tryz.isAgg49 w, by decide⟩
theorem good54 : Vx.Good Tryz.prog 54 ⟨7, 72, .struct [(0, 9), (1, 3), (2, 3), (3, 3), (4, 3), (5, 3), (6, 9)], [.s [], .i .i64 0, .i .i64 0, .i .i64 0, .i .i64 0, .i .i64 0, .s []]⟩ :=
 ⟨⟨Tryz.t54, .agg #[.string ⟨#[]⟩, .int .i64 0, .int .i64 0, .int .i64 0, .int .i64 0, .int .i64 0, .string ⟨#[]⟩], by kernel_rfl, rfl, rfl, rfl, rfl, rfl, by simp [Value.cells, Value.oneCell']⟩, ⟨_, Tryz.underlying54, rfl⟩, fun w => Tryz.isAgg54 w, by decide⟩
theorem good56 : Vx.Good Tryz.prog 56 ⟨8, 80, .struct [(0, 3), (1, 54)], [.i .i64 0, .s [], .i .i64 0, .i .i64 0, .i .i64 0, .i .i64 0, .i .i64 0, .s []]⟩ :=
 ⟨⟨Tryz.t56, .agg #[.int .i64 0, .string ⟨#[]⟩, .int .i64 0, .int .i64 0, .int .i64 0, .int .i64 0, .int .i64 0, .string ⟨#[]⟩], by kernel_rfl, rfl, rfl, rfl, rfl, rfl, by simp [Value.cells, Value.oneCell']⟩, ⟨_, Tryz.underlying56, rfl⟩, fun w => Tryz.isAgg56 w, by decide⟩
theorem good58 : Vx.Good Tryz.prog 58 ⟨1, 16, .other, [.nilI]⟩ :=
 ⟨⟨Tryz.t58, .nilIface, by kernel_rfl, rfl, rfl, rfl, rfl, rfl, by simp [Value.cells, Value.oneCell']⟩, trivial, fun w => Tryz.isAgg58 w, by decide⟩
theorem good64 : Vx.Good Tryz.prog 64 ⟨3, 32, .struct [(0, 9), (1, 3), (2, 3)], [.s [], .i .i64 0, .i .i64 0]⟩ :=
 ⟨⟨Tryz.t64, .agg #[.string ⟨#[]⟩, .int .i64 0, .int .i64 0], by kernel_rfl, rfl, rfl, rfl, rfl, rfl, by simp [Value.cells, Value.oneCell']⟩, ⟨_, Tryz.underlying64, rfl⟩, fun w => Tryz.isAgg64 w, by decide⟩
theorem good69 : Vx.Good Tryz.prog 69 ⟨1, 24, .slice 3, [.nilS]⟩ :=
 ⟨⟨Tryz.t69, .slice none 0 0, by kernel_rfl, rfl, rfl, rfl, rfl, rfl, by simp [Value.cells, Value.oneCell']⟩, Tryz.underlying69, fun w => Tryz.isAgg69 w, by decide⟩
theorem good74 : Vx.Good Tryz.prog 74 ⟨2, 48, .struct [(0, 22), (1, 69)], [.nilS, .nilS]⟩ :=
 ⟨⟨Tryz.t74, .agg #[.slice none 0 0, .slice none 0 0], by kernel_rfl, rfl, rfl, rfl, rfl, rfl, by simp [Value.cells, Value.oneCell']⟩, ⟨_, Tryz.underlying74, rfl⟩, fun w => Tryz.isAgg74 w, by decide⟩
theorem good77 : Vx.Good Tryz.prog 77 ⟨1, 24, .slice 4, [.nilS]⟩ :=
 ⟨⟨Tryz.t77, .slice none 0 0, by kernel_rfl, rfl, rfl, rfl, rfl, rfl, by simp [Value.cells, Value.oneCell']⟩, Tryz.underlying77, fun w => Tryz.isAgg77 w, by decide⟩
theorem good80 : Vx.Good Tryz.prog 80 ⟨1, 24, .slice 49, [.nilS]⟩ :=
 ⟨⟨Tryz.t80, .slice none 0 0, by kernel_rfl, rfl, rfl, rfl, rfl, rfl, by simp [Value.cells, Value.oneCell']⟩, Tryz.underlying80, fun w => Tryz.isAgg80 w, by decide⟩
end Go.Proofs.YtagmibogginaaaaGreatDoor
