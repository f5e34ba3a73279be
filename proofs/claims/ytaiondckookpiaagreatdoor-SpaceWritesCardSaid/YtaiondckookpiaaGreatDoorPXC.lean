/- The walks and the plain laws that a law of spaces needs, part 3 of 7. -/
import Derived.Test.YtaiondckookpiaaGreatDoorPXB
import Derived.Shelf.SlSortFuncK.WholeK
import Derived.Shelf.GgSortFunc.Tiny
import Derived.Shelf.Strings.Builder1
import Derived.Shelf.Strings.Split
import Derived.RangeFuncIn
import Derived.Test.YtaiondckookpiaaGreatDoorRows
import Derived.ProofKit
import Derived.Deep.Slices
import Derived.Test.YtaiondckookpiaaGreatDoorProg
import Derived.KernelRfl
import Derived.Ground.GgsProg
set_option linter.unusedVariables false
set_option linter.unusedSimpArgs false
namespace Go.Vx
open Go.RowKit Go.Proofs Go.Sort
section
variable {P : Program} {T : Tab} {Q : Exit → St → Prop}
theorem Ok.sortSlice (hT : TOk P T) {id : Nat} {t1 t2 t3 t4 p : Nat} {f ty g k fo i r m : Nat} {e : TypeId} {xs : List (List D)} {env : List (Nat × D)} {box : List (List D)} {row : Rows} {n : Nat}
    {y1 y2 y3 y4 : TypeId} {p1 p2 p3 p4 : String} {a1 a2 a3 a4 : Array Edge} {tys : Array TypeId} (hC : SortC P f ty k fo g)
    (hload : qop P T ⟨env, box, row, n⟩ ⟨some t1, .load ty (.tmp p), y1, p1, a1, none⟩ (fun d s' => d = .own r m ∧ s' = ⟨env, box, row, n⟩))
    (hp : look env p = .bp i 0) (hb : box[i]? = some [.own r m]) (hr : row[r]? = some (some (e, xs))) (hm : m ≤ xs.length) (hk : szOf T e = k)
    (hn : p < n ∧ t1 < n ∧ t2 < n ∧ t3 < n ∧ t4 < n) (hd : t1 ≠ p ∧ t2 ≠ p ∧ t2 ≠ t3 ∧ t3 ≠ t2)
    (hkeys : ∀ x ∈ xs.take m, ∃ l, x[fo]? = some (.s l)) (hm2 : m < 4611686018427387904)
    (h : ∀ ys, ys.Perm (xs.take m) → RowsUp fo ys → Q .normal ⟨(t4, .u) :: (t3, .u) :: (t2, .u) :: (t1, .u) :: env, box, row.set r (some (e, ys ++ xs.drop m)), n⟩) (he : e < BIG := by decide) :
    Ok P T (.region id #[⟨some t1, .load ty (.tmp p), y1, p1, a1, none⟩, ⟨some t2, .makeInterface ty (.tmp t1), y2, p2, a2, none⟩, ⟨some t3, .makeFunc (.func g) #[] #[.tmp p], y3, p3, a3, none⟩,
      ⟨some t4, .call ⟨.value (.func f), #[.tmp t2, .tmp t3], tys⟩, y4, p4, a4, none⟩] false) Q ⟨env, box, row, n⟩ := by
  refine ⟨fun w0 V0 V μ ω a w hS => wp_region_lit ?_⟩
  obtain ⟨hpn, hn1, hn2, hn3, hn4⟩ := hn
  obtain ⟨hd1, hd2, hd3, hd4⟩ := hd
  unfold wpList
  rw [if_pos (by simp [Region.wanted])]
  left
  refine (Vok.of_qop (E := .none) hT hS hload) _ _ ?_
  clear hS
  rintro _ v1 _ V μ ω w ⟨rfl, rfl⟩ hv1 hS _
  have rp := hS.slot hpn
  rw [hp] at rp
  obtain ⟨g1, hg1, hpv⟩ := rp.bp_
  have hsz : a.tmps.size = n := hS.tmps
  obtain ⟨A, N, c, hω, hnN, rfl⟩ := hv1.own_
  show wpList P _ _ [_, _, _] (a.put (some t1) _) w
  unfold wpList
  rw [if_pos (by simp [Region.wanted])]
  left
  unfold Oper.wp
  have r2 : (execOp (a.put (some t1) (.slice A m c)).eval ⟨some t2, .makeInterface ty (.tmp t1), y2, p2, a2, none⟩).run P w = .ok (.value (.iface ty (.slice A m c))) w := by
    simp only [execOp, put_same (a := a) (t := t1) (v := .slice A m c) (by omega), Sem.run_bind, run_makeInterface w ty _ hC.conc, Result.andThen_ok, Sem.run_pure]
  rw [r2]
  show wpList P _ _ [_, _] ((a.put (some t1) _).put (some t2) _) w
  unfold wpList
  rw [if_pos (by simp [Region.wanted])]
  left
  unfold Oper.wp
  have hpe : ((a.put (some t1) (.slice A m c)).put (some t2) (.iface ty (.slice A m c))).eval (.tmp p) = .pointer (some ⟨g1, 0, none⟩) := by
    rw [put_other hd2, put_other hd1]; exact hpv
  have r3 : (execOp ((a.put (some t1) (.slice A m c)).put (some t2) (.iface ty (.slice A m c))).eval ⟨some t3, .makeFunc (.func g) #[] #[.tmp p], y3, p3, a3, none⟩).run P w = .ok (.value (.func (.func g) #[] #[.pointer (some ⟨g1, 0, none⟩)])) w := by
    simp only [execOp, Instr.makeFunc, Sem.run_bind, Sem.run_pure, Result.andThen_ok, List.map_toArray, List.map_cons, List.map_nil, hpe]
  rw [r3]
  show wpList P _ _ [_] (((a.put (some t1) _).put (some t2) _).put (some t3) _) w
  generalize hA3 : ((a.put (some t1) (.slice A m c)).put (some t2) (.iface ty (.slice A m c))).put (some t3) (.func (.func g) #[] #[.pointer (some ⟨g1, 0, none⟩)]) = a3'
  have hs3 : a3'.tmps.size = n := by rw [← hA3, put_size, put_size, put_size, hsz]
  have e2 : a3'.eval (.tmp t2) = .iface ty (.slice A m c) := by rw [← hA3, put_other hd4, put_same (by rw [put_size]; omega)]
  have e3 : a3'.eval (.tmp t3) = .func (.func g) #[] #[.pointer (some ⟨g1, 0, none⟩)] := by rw [← hA3, put_same (by rw [put_size, put_size]; omega)]
  have hS3 : Sim (szOf T) w0 V0 V μ ω ⟨(t3, .u) :: (t2, .u) :: (t1, .u) :: env, box, row, n⟩ a3' w := by
    rw [← hA3]
    exact ((hS.put hn1 (.imm _ _ (.u _))).put hn2 (.imm _ _ (.u _))).put hn3 (.imm _ _ (.u _))
  unfold wpList
  rw [if_pos (by simp [Region.wanted])]
  left
  unfold Oper.wp
  have r4 : (execOp a3'.eval ⟨some t4, .call ⟨.value (.func f), #[.tmp t2, .tmp t3], tys⟩, y4, p4, a4, none⟩).run P w = .ok (.enter f #[.iface ty (.slice A m c), .func (.func g) #[] #[.pointer (some ⟨g1, 0, none⟩)]]) w := by
    simp only [execOp, resolve, Act.eval, Deferred.ofValue, invoke, Sem.run_bind, Sem.run_pure, Result.andThen_ok, List.map_toArray, List.map_cons, List.map_nil] at e2 e3 ⊢
    rw [e2, e3, hC.call]
    rfl
  rw [r4]
  show Calls P f _ w _
  have fin : ∀ (w' : World) (ys : List (List D)), (∀ ds, DefOk w0 V0 ds w → DefOk w0 V0 ds w') → ys.Perm (xs.take m) → RowsUp fo ys → Mem (szOf T) w0 V0 V μ ω box (row.set r (some (e, ys ++ xs.drop m))) w' →
      ∃ s' V' μ' ω', Q .normal s' ∧ Sim (szOf T) w0 V0 V' μ' ω' s' (a3'.put (some t4) (.tuple #[])) w' := fun w' ys hx h1 h2 hM =>
    let hP := hS3.put (v := .tuple #[]) hn4 (.imm _ _ (.u _))
    ⟨_, V, μ, ω, h ys h1 h2, Sim.mk hP.tmps (hx _ hP.defers) hP.env hM⟩
  by_cases hm1 : m ≤ 1
  · refine (hC.tiny A m c _ w hm1).mono ?_
    rintro e' w' ⟨rfl, os, rfl⟩
    have hrl : r < row.length := (List.getElem?_eq_some_iff.1 hr).1
    have hEx : Ext w (grow w os) := ⟨rfl, rfl, rfl, by show w.heap.size ≤ (w.heap ++ os).size; simp, fun j hj => by show (w.heap ++ os)[j]? = _; rw [Array.getElem?_append_left hj]⟩
    refine fin _ (xs.take m) (fun ds h => h.ext hEx) (.refl _) ?_ ?_
    · have hl : (xs.take m).length ≤ 1 := by rw [List.length_take]; omega
      unfold RowsUp
      match xs.take m, hl with
      | [], _ => simp
      | [_], _ => simp
    · rw [List.take_append_drop]
      have hrow : row.set r (some (e, xs)) = row := by
        apply List.ext_getElem?
        intro q
        by_cases hq : q = r
        · subst hq; rw [List.getElem?_set_self hrl, hr]
        · rw [List.getElem?_set_ne (Ne.symm hq)]
      rw [hrow]
      exact hS.mem.ext hEx
  · have hm2' : 2 ≤ m := by omega
    obtain ⟨A2, c2, vals, e1, hc, hmx, hA, hA2, hown, hR⟩ := hS.mem.rowShape he hω hr
    cases e1
    subst hk
    obtain ⟨blk, hblk⟩ : ∃ blk, A = some ⟨blk, 0, none⟩ := by
      rcases hown.2 with ⟨q, q2⟩ | ⟨g', cap, cur, q, _⟩
      · omega
      · cases q; exact ⟨g', rfl⟩
    subst hblk
    have hvl : vals.length = xs.length * szOf T e := hown.1
    have hF : ∀ i : Fin m, ∃ x : SRow (szOf T) V (szOf T e) fo, xs[i.1]? = some x.1.2 ∧ ∀ j, j < szOf T e → x.1.1[j]? = vals[i.1 * szOf T e + j]? := by
      intro i
      have hi : i.1 < xs.length := by omega
      have hx := List.getElem?_eq_getElem hi
      have hle : (i.1 + 1) * szOf T e ≤ xs.length * szOf T e := Nat.mul_le_mul_right _ hi
      rw [Nat.add_mul, Nat.one_mul] at hle
      have hget : ∀ j, j < szOf T e → ((vals.drop (i.1 * szOf T e)).take (szOf T e))[j]? = vals[i.1 * szOf T e + j]? := fun j hj => by
        rw [List.getElem?_take_of_lt hj, List.getElem?_drop]
      have hlen := hR.len i.1 _ hx
      refine ⟨⟨((vals.drop (i.1 * szOf T e)).take (szOf T e), xs[i.1]), ?_, hlen, ?_, ?_, ?_⟩, hx, hget⟩
      · rw [List.length_take, List.length_drop]; omega
      · intro v hv
        exact hR.one v (List.mem_of_mem_drop (List.mem_of_mem_take hv))
      · intro j v d h1 h2
        have hj : j < szOf T e := by rw [← hlen]; exact (List.getElem?_eq_some_iff.1 h2).1
        dsimp only at h1
        rw [hget j hj] at h1
        obtain ⟨u, hu1, hu2⟩ := hR.rel i.1 _ j d hx h2
        rw [h1] at hu1
        cases hu1
        exact hu2
      · exact hkeys _ (by
          have : (xs.take m)[i.1]? = some xs[i.1] := by rw [List.getElem?_take_of_lt i.2]; exact hx
          exact List.mem_of_getElem? this)
    let F : Fin m → SRow (szOf T) V (szOf T e) fo := fun i => Classical.choose (hF i)
    have hF1 : ∀ i, xs[i.1]? = some (F i).1.2 := fun i => (Classical.choose_spec (hF i)).1
    have hF2 : ∀ i j, j < szOf T e → (F i).1.1[j]? = vals[i.1 * szOf T e + j]? := fun i => (Classical.choose_spec (hF i)).2
    letI : Inhabited (SRow (szOf T) V (szOf T e) fo) := ⟨F ⟨0, by omega⟩⟩
    let d := Array.ofFn F
    have hds : d.size = m := Array.size_ofFn
    have hdg : ∀ i (hi : i < m), d[i]! = F ⟨i, hi⟩ := fun i hi => by
      rw [getElem!_pos d i (by rw [hds]; exact hi)]
      simp [d]
    have hkey : ∀ x : SRow (szOf T) V (szOf T e) fo, x.1.1[fo]? = some (.string (bstr x.key)) := by
      intro x
      obtain ⟨l, hl⟩ := x.2.2.2.2.2
      have hfo : fo < szOf T e := by rw [← x.2.2.1]; exact (List.getElem?_eq_some_iff.1 hl).1
      have hfo1 : fo < x.1.1.length := by rw [x.2.1]; exact hfo
      have hv : x.1.1[fo]? = some x.1.1[fo] := List.getElem?_eq_getElem hfo1
      have hri := x.2.2.2.2.1 fo _ _ hv hl
      have hke : x.key = l := by unfold SRow.key; rw [hl]
      have hs := (RS.imm (μ := []) (ω := []) _ _ hri).str_
      rw [hke, hv, hs]
    have hpos : 0 < szOf T e := by
      obtain ⟨l, hl⟩ := (F ⟨0, by omega⟩).2.2.2.2.2
      have := (List.getElem?_eq_some_iff.1 hl).1
      rw [(F ⟨0, by omega⟩).2.2.1] at this
      omega
    have hheap : ∃ cur, w.heap[blk]? = some (.cells cur e (0, 0)) := by
      rcases hown.2 with ⟨q, _⟩ | ⟨g', cap, cur, q, _, hh, _⟩
      · cases q
      · cases q; exact ⟨cur, hh⟩
    obtain ⟨cur, hheap⟩ := hheap
    have hHold : HoldsK (fun x : SRow (szOf T) V (szOf T e) fo => x.1.1) (szOf T e) w blk 0 d := by
      intro j hj
      rw [size_flatK, hds] at hj
      have hjk : j / szOf T e < m := Nat.div_lt_of_lt_mul (by rw [Nat.mul_comm]; exact hj)
      have hjm := Nat.mod_lt j hpos
      refine ⟨?_, by simp [World.frozen?, hheap]⟩
      rw [get_flatK _ _ _ _ (by rw [hds]; exact hj), hdg _ hjk]
      have h3 := hF2 ⟨j / szOf T e, hjk⟩ (j % szOf T e) hjm
      have h4 : (F ⟨j / szOf T e, hjk⟩).1.1[j % szOf T e]? = some (F ⟨j / szOf T e, hjk⟩).1.1[j % szOf T e]! := by
        rw [getElem!_pos _ _ (by rw [(F ⟨j / szOf T e, hjk⟩).2.1]; exact hjm)]
        exact List.getElem?_eq_getElem _
      rw [h4, Nat.mul_comm, Nat.div_add_mod] at h3
      have := hown.cells (g := blk) rfl j _ h3.symm
      rw [add_lit] at this
      exact this
    obtain ⟨vs, tb, hh, hs, ho, hRb, _⟩ := hS.mem.hbox i g1 _ hg1 hb
    have hvs0 : 0 < vs.size := by rw [hs]; simp
    have hvs : ∃ v, vs[0]? = some v := ⟨vs[0], Array.getElem?_eq_getElem hvs0⟩
    obtain ⟨v0, hv0⟩ := hvs
    obtain ⟨Ab, Nb, cb, hωb, _, hvb⟩ := (hRb 0 v0 _ hv0 rfl).own_
    rw [hω] at hωb
    cases hωb
    have hBs : w.cell? ⟨g1, 0, none⟩ = some (.slice (some ⟨blk, 0, none⟩) m c) := by
      rw [cell_of_row w g1 0 vs tb (0, 0) hh, hv0, hvb]
    have hgl : g1 < w.heap.size := (Array.getElem?_eq_some_iff.1 hh).1
    have hne : g1 ≠ blk := fun e' => by
      have := hS.mem.uniq (.inl i) (.inr r) g1 hg1 ⟨_, _, hω, hr, by rw [e']; rfl⟩
      cases this
    have hcall := hC.big (SRow (szOf T) V (szOf T e) fo) (fun x => x.1.1) SRow.key (fun x => x.2.1) (fun x => x.2.2.2.1) hkey blk c g1 d (by rw [hds]; exact hm2') (by rw [hds]; exact hm2) w hHold (Array.getElem?_eq_some_iff.1 hheap).1 (by rw [hds]; exact hBs) hgl hne
    rw [hds] at hcall
    refine hcall.mono ?_
    rintro e' w' ⟨rfl, d', q, os, hperm, hsort, rfl⟩
    have hds' : d'.size = m := by rw [hperm.1, hds]
    obtain ⟨hgrow, hown'⟩ := sorted_row (q := q) (enc := fun x : SRow (szOf T) V (szOf T e) fo => x.1.1) (d := d') (os := os) hown hm hds'
    have hdmap : d.toList.map (fun x => x.1.2) = xs.take m := by
      apply List.ext_getElem?
      intro j
      rw [List.getElem?_map, Array.getElem?_toList]
      by_cases hj : j < m
      · rw [Array.getElem?_eq_getElem (by rw [hds]; exact hj), List.getElem?_take_of_lt hj, hF1 ⟨j, hj⟩]
        simp [d]
      · rw [Array.getElem?_eq_none (by rw [hds]; omega), List.getElem?_take, if_neg hj]
        rfl
    have hpl : d'.toList.Perm d.toList := by
      have := hperm.2.2
      rwa [show d'.extract 0 m = d' from by rw [← hds']; simp, show d.extract 0 m = d from by rw [← hds]; simp] at this
    have hdg' : ∀ (j : Nat) (x : SRow (szOf T) V (szOf T e) fo), d'.toList[j]? = some x → d'[j]! = x := fun j x hx => by
      rw [Array.getElem?_toList] at hx
      obtain ⟨hj, rfl⟩ := Array.getElem?_eq_some_iff.1 hx
      exact getElem!_pos d' j hj
    refine fin _ (d'.toList.map fun x => x.1.2) (fun ds h => h.ownGrown hS.mem hω hr hgrow) (by rw [← hdmap]; exact hpl.map _) ?_ ?_
    · unfold RowsUp
      rw [List.pairwise_map, List.pairwise_iff_getElem]
      intro i1 j1 hi1 hj1 hij a b ha hb'
      have s1 := hsort i1 j1 (Nat.zero_le _) hij (by simpa [hds'] using hj1)
      rw [hdg' i1 _ (List.getElem?_eq_getElem hi1), hdg' j1 _ (List.getElem?_eq_getElem hj1)] at s1
      have k1 : SRow.key d'.toList[i1] = a := by unfold SRow.key; rw [ha]
      have k2 : SRow.key d'.toList[j1] = b := by unfold SRow.key; rw [hb']
      dsimp only at s1
      rw [k1, k2] at s1
      exact s1
    · have hlen' : ((d'.toList.map fun x => x.1.2) ++ xs.drop m).length = xs.length := by
        rw [List.length_append, List.length_map, Array.length_toList, hds', List.length_drop]; omega
      have hωs : ω.set r (.slice (some ⟨blk, 0, none⟩) xs.length c) = ω := by
        apply List.ext_getElem?
        intro q
        by_cases hq : q = r
        · subst hq; rw [List.getElem?_set_self (List.getElem?_eq_some_iff.1 hω).1, hω]
        · rw [List.getElem?_set_ne (Ne.symm hq)]
      have hfl : (flatK (fun x : SRow (szOf T) V (szOf T e) fo => x.1.1) (szOf T e) d').toList.length = m * szOf T e := by rw [Array.length_toList, size_flatK, hds']
      have hflg : ∀ j, j < m * szOf T e → (flatK (fun x : SRow (szOf T) V (szOf T e) fo => x.1.1) (szOf T e) d').toList[j]? = some (d'[j / szOf T e]!.1.1[j % szOf T e]!) := fun j hj => by
        rw [Array.getElem?_toList, Array.getElem?_eq_getElem (by rw [size_flatK, hds']; exact hj)]
        have := get_flatK (fun x : SRow (szOf T) V (szOf T e) fo => x.1.1) (szOf T e) d' j (by rw [hds']; exact hj)
        rw [getElem!_pos _ _ (by rw [size_flatK, hds']; exact hj)] at this
        rw [this]
      have hM := hS.mem.setRow_ (w' := grow (putRowK (fun x : SRow (szOf T) V (szOf T e) fo => x.1.1) (szOf T e) (Sort.ahead w q) blk 0 d') os) (v' := .slice (some ⟨blk, 0, none⟩) xs.length c) (e := e) (ys := (d'.toList.map fun x => x.1.2) ++ xs.drop m)
        (vals := (flatK (fun x : SRow (szOf T) V (szOf T e) fo => x.1.1) (szOf T e) d').toList ++ vals.drop (m * szOf T e)) hω hr hgrow (by rw [hlen']; exact hown') ?_ (.inl rfl) (box' := box) rfl ?_ (fun i cs cs' h1 h2 t h => by rw [h1] at h2; cases h2; exact h)
      · rw [hωs] at hM
        exact hM
      · refine ⟨fun u hu => ?_, fun i1 rw1 h1 => ?_, fun i1 rw1 j1 d1 h1 h2 => ?_⟩
        · rcases List.mem_append.1 hu with hu | hu
          · obtain ⟨j, hj⟩ := List.mem_iff_getElem?.1 hu
            have hjl : j < m * szOf T e := by rw [← hfl]; exact (List.getElem?_eq_some_iff.1 hj).1
            rw [hflg j hjl] at hj
            cases hj
            generalize d'[j / szOf T e]! = x
            refine x.2.2.2.1 _ ?_
            have hx : j % szOf T e < x.1.1.length := by rw [x.2.1]; exact Nat.mod_lt j hpos
            rw [getElem!_pos x.1.1 _ hx]
            exact List.getElem_mem hx
          · exact hR.one u (List.mem_of_mem_drop hu)
        · by_cases hi1 : i1 < m
          · rw [List.getElem?_append_left (by rw [List.length_map, Array.length_toList, hds']; exact hi1), List.getElem?_map] at h1
            obtain ⟨x, _, rfl⟩ := Option.map_eq_some_iff.1 h1
            exact x.2.2.1
          · rw [List.getElem?_append_right (by rw [List.length_map, Array.length_toList, hds']; omega), List.getElem?_drop] at h1
            exact hR.len _ rw1 h1
        · by_cases hi1 : i1 < m
          · rw [List.getElem?_append_left (by rw [List.length_map, Array.length_toList, hds']; exact hi1), List.getElem?_map] at h1
            obtain ⟨x, hx, rfl⟩ := Option.map_eq_some_iff.1 h1
            have hj1 : j1 < szOf T e := by rw [← x.2.2.1]; exact (List.getElem?_eq_some_iff.1 h2).1
            have hlt : i1 * szOf T e + j1 < m * szOf T e := by
              have : (i1 + 1) * szOf T e ≤ m * szOf T e := Nat.mul_le_mul_right _ hi1
              rw [Nat.add_mul] at this; omega
            have hdv : (i1 * szOf T e + j1) / szOf T e = i1 := by rw [Nat.mul_comm, Nat.mul_add_div hpos, Nat.div_eq_of_lt hj1, Nat.add_zero]
            have hmd : (i1 * szOf T e + j1) % szOf T e = j1 := by rw [Nat.mul_comm, Nat.mul_add_mod, Nat.mod_eq_of_lt hj1]
            have hdx := hdg' i1 x hx
            have hx1 : x.1.1[j1]? = some x.1.1[j1]! := by
              rw [getElem!_pos _ _ (by rw [x.2.1]; exact hj1)]
              exact List.getElem?_eq_getElem _
            refine ⟨x.1.1[j1]!, ?_, x.2.2.2.2.1 j1 _ d1 hx1 h2⟩
            rw [List.getElem?_append_left (by rw [hfl]; exact hlt), hflg _ hlt, hdv, hmd, hdx]
          · rw [List.getElem?_append_right (by rw [List.length_map, Array.length_toList, hds']; omega), List.getElem?_drop, List.length_map, Array.length_toList, hds', show m + (i1 - m) = i1 by omega] at h1
            obtain ⟨u, hu1, hu2⟩ := hR.rel i1 rw1 j1 d1 h1 h2
            have hge : m * szOf T e ≤ i1 * szOf T e := Nat.mul_le_mul_right _ (by omega)
            exact ⟨u, by rw [List.getElem?_append_right (by rw [hfl]; omega), hfl, List.getElem?_drop, show m * szOf T e + (i1 * szOf T e + j1 - m * szOf T e) = i1 * szOf T e + j1 by omega]; exact hu1, hu2⟩
      · intro i1 cs cs' h1 h2
        rw [h1] at h2
        cases h2
        refine ⟨rfl, fun j u dd dd' h3 h4 hrs => ?_⟩
        rw [h3] at h4
        cases h4
        rw [hωs]
        exact hrs
end
end Go.Vx
namespace Go.Vx
open Go.RowKit Go.Shelf Go.Proofs
structure CopyC (P : Program) (f t : Nat) : Prop where
  call : ∀ args w, (callFunc f args).run P w = .ok (.enter f args) w
  fresh : ∀ (b : Nat) (w : World), w.cell? ⟨b, 0, none⟩ = some (.pointer none) → w.shape? b = some (t, 2) → w.frozen? ⟨b, 0, none⟩ = false →
    Calls P f #[.pointer (some ⟨b, 0, none⟩)] w fun e w' => e = .returned (.tuple #[]) ∧ w' = w.setCell ⟨b, 0, none⟩ (.pointer (some ⟨b, 0, none⟩))
  used : ∀ (b : Nat) (w : World), w.cell? ⟨b, 0, none⟩ = some (.pointer (some ⟨b, 0, none⟩)) → Calls P f #[.pointer (some ⟨b, 0, none⟩)] w fun e w' => e = .returned (.tuple #[]) ∧ w' = w
structure StrC (P : Program) (f e : Nat) : Prop where
  call : ∀ args w, (callFunc f args).run P w = .ok (.enter f args) w
  run : ∀ (b g : Nat) (w : World) (l : List UInt8) (cap : Nat) (cur : Array Value), w.cell? ⟨b, 1, none⟩ = some (.slice (some ⟨g, 0, none⟩) l.length cap) → w.heap[g]? = some (.cells cur e (0, 0)) → l.length ≤ cap → cap ≤ maxLen →
    cur.size = cap → cur.toList.take l.length = Lib.byteCells l → l ≠ [] → Calls P f #[.pointer (some ⟨b, 0, none⟩)] w fun e w' => e = .returned (.string (bstr l)) ∧ w' = w.drew.freeze ⟨g, 0, none⟩ l.length
set_option maxHeartbeats 4000000 in
set_option maxRecDepth 100000 in
theorem strC {P : Program} {ρ : Ren} (L : Lays.n169 P ρ) (X : Builder.Extra P ρ) (hc : ∀ args w, (callFunc (ρ.f 169) args).run P w = .ok (.enter (ρ.f 169) args) w) : StrC P (ρ.f 169) (ρ.t 5) := by
  refine ⟨hc, fun b g w l cap cur hb hg hlc hcm hcs htk h0 => ?_⟩
  have hl0 : l.length ≠ 0 := by simpa using h0
  have c1 : w.drew.cell? ⟨b, 1, none⟩ = some (.slice (some ⟨g, 0, none⟩) l.length cap) := hb
  have hSD : (Builtin.unsafeSliceData_ #[(ρ.t 37)] (ρ.t 127) #[.slice (some ⟨g, 0, none⟩) l.length cap]).run P w.drew = .ok (.pointer (some ⟨g, 0, none⟩)) w.drew := Lib.run_unsafeSliceData_row _ _ _ _ _ _ (by omega)
  have hg' : w.drew.heap[g]? = some (.cells cur (ρ.t 5) (0, 0)) := hg
  have hUS : (Builtin.unsafeString_ #[(ρ.t 127), (ρ.t 3)] (ρ.t 9) #[.pointer (some ⟨g, 0, none⟩), .int .i64 l.length]).run P w.drew = .ok (.string ⟨l.toArray⟩) (w.drew.freeze ⟨g, 0, none⟩ l.length) := by
    refine Lib.run_unsafeString_row w.drew (ρ.t 127) (ρ.t 3) (ρ.t 9) (ρ.t 5) L.t127 X.cellsByte g cur.size (by simp [World.shape?, hg']) l h0 (by omega) (by unfold maxLen at hcm; omega) ?_
    intro j x hx
    have h1 : (cur.toList.take l.length)[j]? = some (.int .u8 x.toNat) := by
      rw [htk]
      simp [Lib.byteCells, hx]
    rw [List.getElem?_take] at h1
    split at h1
    · rw [add_lit, Nat.zero_add, cell_of_row w.drew g j cur (ρ.t 5) (0, 0) hg']
      simpa using h1
    · cases h1
  have mixed := L.mixed
  have t72 := L.t72; have a72 := L.a72; have z72 := L.z72; have v72 := L.v72; have u72 := run_underlying L.t72
  have t70 := L.t70; have a70 := L.a70; have z70 := L.z70; have v70 := L.v70; have u70 := run_underlying L.t70
  have t37 := L.t37; have a37 := L.a37; have z37 := L.z37; have v37 := L.v37; have u37 := run_underlying L.t37
  have t127 := L.t127; have a127 := L.a127; have z127 := L.z127; have v127 := L.v127; have u127 := run_underlying L.t127
  have t3 := L.t3; have a3 := L.a3; have z3 := L.z3; have v3 := L.v3; have u3 := run_underlying L.t3
  have t9 := L.t9; have a9 := L.a9; have z9 := L.z9; have v9 := L.v9; have u9 := run_underlying L.t9
  have t5 := X.t5; have a5 := X.a5; have z5 := X.z5; have v5 := X.v5; have u5 := run_underlying X.t5
  go_enter L.f169, Body.n169_ntmps ρ
  go_wp2
  go_region_o
  all_goals
    go_wp2
    go_ret
    exact ⟨rfl, rfl⟩
section
variable {w0 w w' : World} {V0 : Fr} {V : Vw} {μ : List Nat} {ω : List Value} {box : List (List D)} {row : Rows} {s : St} {a : Act} {P : Program} {T : Tab} {sz : TypeId → Nat}
theorem fz_heap (w : World) (g n : Nat) (hn : n ≠ 0) : (w.freeze ⟨g, 0, none⟩ n).heap = w.heap.modify g fun o => match o with
    | .cells c elem (lo, hi) => .cells c elem (if lo == hi then (0, 0 + n) else (min lo 0, max hi (0 + n)))
    | o => o := by
  unfold World.freeze
  rw [if_neg hn]
  congr 1
theorem freeze_other (w : World) (g k n : Nat) (h : k ≠ g) : (w.drew.freeze ⟨g, 0, none⟩ n).heap[k]? = w.heap[k]? := by
  by_cases hn : n = 0
  · subst hn; rfl
  · rw [fz_heap _ _ _ hn, Array.getElem?_modify, if_neg (Ne.symm h)]
    rfl
theorem freeze_size (w : World) (g n : Nat) : (w.drew.freeze ⟨g, 0, none⟩ n).heap.size = w.heap.size := by
  by_cases hn : n = 0
  · subst hn; rfl
  · rw [fz_heap _ _ _ hn, Array.size_modify]
    rfl
theorem freeze_cell (w : World) (g n : Nat) (p : Addr) : (w.drew.freeze ⟨g, 0, none⟩ n).cell? p = w.cell? p := by
  unfold World.cell?
  by_cases hp : p.block = g
  · by_cases hn : n = 0
    · subst hn; rfl
    · rw [fz_heap _ _ _ hn, Array.getElem?_modify, if_pos hp.symm]
      have hd : w.drew.heap[p.block]? = w.heap[p.block]? := rfl
      rw [hd]
      cases h : w.heap[p.block]? with
      | none => rfl
      | some o => cases o <;> rfl
  · rw [freeze_other _ _ _ _ hp]
theorem Mem.freeze (h : Mem sz w0 V0 V μ ω box row w) {g n : Nat} (hg0 : w0.heap.size ≤ g) (hno : ∀ l, ¬ Own μ ω row l g) : Mem sz w0 V0 V μ ω box row (w.drew.freeze ⟨g, 0, none⟩ n) := by
  refine ⟨Lib.below_freeze (h.below.trans (Below.drew (Below.refl _ w))) (p := ⟨g, 0, none⟩) hg0 n, fun p v hp => by rw [freeze_cell]; exact h.vok p v hp, h.vle, h.vold, h.bl, fun i g' cs h1 h2 => ?_, h.rl, fun r v e xs h1 h2 => ?_, h.uniq, fun l g' hl => by rw [freeze_size]; exact h.new l g' hl, h.vmut⟩
  · obtain ⟨vs, t, a, b⟩ := h.hbox i g' cs h1 h2
    have hne : g' ≠ g := fun e => hno (.inl i) (by rw [← e]; exact h1)
    exact ⟨vs, t, by rw [freeze_other _ _ _ _ hne]; exact a, b⟩
  · obtain ⟨vals, hown, b⟩ := h.hrow r v e xs h1 h2
    refine ⟨vals, ⟨hown.1, ?_⟩, b⟩
    rcases hown.2 with hn | ⟨g', cap, cur, e', fz, hv, hb, hg, rest⟩
    · exact .inl hn
    · have hne : g' ≠ g := fun e => hno (.inr r) ⟨v, _, h1, h2, by rw [hv, ← e]; rfl⟩
      exact .inr ⟨g', cap, cur, e', fz, hv, hb, by rw [freeze_other _ _ _ _ hne]; exact hg, rest⟩
theorem setCell_row {w : World} {g : Nat} {vs : Array Value} {t : TypeId} {fr : Nat × Nat} (hg : w.heap[g]? = some (.cells vs t fr)) (v : Value) : w.setCell ⟨g, 0, none⟩ v = w.setRow g (vs.setIfInBounds 0 v) := by
  unfold World.setCell World.setRow
  congr 1
  apply Array.ext_getElem?
  intro k
  simp only [Array.getElem?_modify]
  by_cases hk : g = k
  · subst hk
    simp [hg]
  · simp [hk]
theorem setK_mk {α : Type} {x : α} : ∀ {l : List α} {i : Nat} {K : List α → Prop}, i < l.length → K (l.set i x) → setK l i x K
  | [], _, _, h, _ => absurd h (by simp)
  | _ :: _, 0, _, _, h => h
  | _ :: l, i + 1, K, hi, h => setK_mk (l := l) (K := fun r => K (_ :: r)) (by simpa using hi) h
theorem effW_fresh {f t i n : Nat} (C : CopyC P f t) {env : List (Nat × D)} {x : D} {K : D → St → Prop} (hb : box[i]? = some [.nilB t, x])
    (h : setK box i [.bp i 0, x] fun box => K (.tup []) ⟨env, box, row, n⟩) : effW P T ⟨env, box, row, n⟩ f [.bp i 0] K := by
  refine ⟨C.call, fun w0 V0 V μ ω a w vs hS hl hR => ?_⟩
  obtain ⟨v, rfl⟩ : ∃ v, vs = [v] := by
    match vs, hl with
    | [v], _ => exact ⟨v, rfl⟩
  obtain ⟨g, hg, rfl⟩ := (hR 0 v _ rfl rfl).bp_
  obtain ⟨us, t', hh, hs, ho, hrel, hty⟩ := hS.mem.hbox i g _ hg hb
  have ht : t = t' := hty
  subst ht
  have hs2 : us.size = 2 := hs
  have hu0 : us[0]? = some us[0] := Array.getElem?_eq_getElem (by omega)
  have hv0 : us[0] = .pointer none := by
    have key : ∀ u, RS (szOf T) V μ ω u (.nilB t) → u = .pointer none := fun u hu => by cases hu with | imm _ _ hr => cases hr; rfl
    exact key _ (hrel 0 _ (.nilB t) hu0 rfl)
  obtain ⟨hil, h⟩ := setK_iff _ _ _ _ h
  have hcall := C.fresh g w (by rw [cell_of_row w g 0 us t (0, 0) hh, hu0, hv0]) (by simp [World.shape?, hh, hs2]) (by simp [World.frozen?, hh])
  refine hcall.mono ?_
  rintro e w' ⟨rfl, rfl⟩
  have hM := hS.mem.setBox (cs := [.bp i 0, x]) (vs := us.setIfInBounds 0 (.pointer (some ⟨g, 0, none⟩))) hg hil ⟨by simp [hs2], fun u hu => ?_, fun j u d h1 h2 => ?_⟩ fun t => trivial
  · rw [setCell_row hh]
    exact ⟨_, _, _, V, μ, ω, rfl, h, .tup [] #[] rfl (by simp), ⟨hS.tmps, hS.defers.setRow hh _, hS.env, hM⟩⟩
  · rw [Array.toList_setIfInBounds] at hu
    rcases List.mem_or_eq_of_mem_set hu with hu | rfl
    · exact ho u hu
    · rfl
  · cases j with
    | zero =>
      rw [Array.getElem?_setIfInBounds_self_of_lt (by omega)] at h1
      cases h1
      cases h2
      exact .bp i 0 g hg
    | succ j =>
      rw [Array.getElem?_setIfInBounds_ne (by omega)] at h1
      exact hrel (j + 1) u d h1 h2
theorem effW_used {f t i n : Nat} (C : CopyC P f t) {env : List (Nat × D)} {x : D} {K : D → St → Prop} (hb : box[i]? = some [.bp i 0, x])
    (h : K (.tup []) ⟨env, box, row, n⟩) : effW P T ⟨env, box, row, n⟩ f [.bp i 0] K := by
  refine ⟨C.call, fun w0 V0 V μ ω a w vs hS hl hR => ?_⟩
  obtain ⟨v, rfl⟩ : ∃ v, vs = [v] := by
    match vs, hl with
    | [v], _ => exact ⟨v, rfl⟩
  obtain ⟨g, hg, rfl⟩ := (hR 0 v _ rfl rfl).bp_
  obtain ⟨us, t', hh, hs, ho, hrel, hty⟩ := hS.mem.hbox i g _ hg hb
  have hs2 : us.size = 2 := hs
  have hu0 : us[0]? = some us[0] := Array.getElem?_eq_getElem (by omega)
  have hv0 : us[0] = .pointer (some ⟨g, 0, none⟩) := by
    obtain ⟨g2, hg2, e⟩ := (hrel 0 _ (.bp i 0) hu0 rfl).bp_
    rw [e]
    have hg3 := hS.mem
    rw [hg] at hg2
    cases hg2
    rfl
  refine (C.used g w (by rw [cell_of_row w g 0 us t' (0, 0) hh, hu0, hv0])).mono ?_
  rintro e w' ⟨rfl, rfl⟩
  exact ⟨_, _, _, V, μ, ω, rfl, h, .tup [] #[] rfl (by simp), hS⟩
theorem effK_string {f e i r m n : Nat} (C : StrC P f e) (h1 : szOf T e = 1) {env : List (Nat × D)} {x : D} {xs : List (List D)} {l : List UInt8} {K : D → St → Prop} (hb : box[i]? = some [x, .own r m]) (hr : row[r]? = some (some (e, xs)))
    (hm : m ≤ xs.length) (hl : xs.take m = l.map bcell) (h0 : l ≠ []) (h : pubK r ⟨env, box, row, n⟩ [] fun _ s' => K (.s l) s') (he : e < BIG := by decide) : effK P T ⟨env, box, row, n⟩ f [.bp i 0] K := by
  refine ⟨C.call, fun w0 V0 V μ ω a w vs hS hvl hR => ?_⟩
  obtain ⟨v, rfl⟩ : ∃ v, vs = [v] := by
    match vs, hvl with
    | [v], _ => exact ⟨v, rfl⟩
  obtain ⟨gb, hgb, rfl⟩ := (hR 0 v _ rfl rfl).bp_
  obtain ⟨us, t', hh, hs, ho, hrel, hty⟩ := hS.mem.hbox i gb _ hgb hb
  have hs2 : us.size = 2 := hs
  have hu1 : us[1]? = some us[1] := Array.getElem?_eq_getElem (by omega)
  have hown1 := hrel 1 _ (.own r m) hu1 rfl
  obtain ⟨A, N, c, hω, hn, hv1⟩ := hown1.own_
  obtain ⟨A2, c2, vals, e1, hc, hmx, hA, hA2, hown, hRR⟩ := hS.mem.rowShape he hω hr
  cases e1
  have hml : m = l.length := by have := congrArg List.length hl; rw [List.length_take, List.length_map] at this; omega
  have hlp : l.length ≠ 0 := by simpa using h0
  rcases hown.2 with ⟨hv, hz⟩ | ⟨g, cap, cur, hv, hbase, hg, h5, h6, h7, h8⟩
  · omega
  injection hv with hv2 hv3 hv4
  subst hv2 hv4
  rw [h1, Nat.mul_one] at h7 h8
  have hval : cur.toList.take l.length = Lib.byteCells l := by
    apply List.ext_getElem?
    intro j
    rw [List.getElem?_take]
    split
    · rename_i hj
      have hlj : l[j]? = some l[j] := List.getElem?_eq_getElem hj
      have hx : xs[j]? = some (bcell l[j]) := by
        have := congrArg (fun q => q[j]?) hl
        simp only [List.getElem?_map, hlj, Option.map_some] at this
        rw [List.getElem?_take] at this
        split at this
        · exact this
        · cases this
      obtain ⟨u, hu, hu2⟩ := hRR.rel j (bcell l[j]) 0 _ hx rfl
      rw [h1, Nat.mul_one, Nat.add_zero, ← h8, List.getElem?_take] at hu
      split at hu
      · rw [hu]
        cases hu2
        simp [Lib.byteCells, hlj]
      · cases hu
    · rw [List.getElem?_eq_none]
      simp [Lib.byteCells]
      omega
  obtain ⟨V', _, s', hk, _, hS', hle⟩ := pubK_sound (vs := []) (ds := []) (K := fun _ s' => K (.s l) s' ∧ s'.row = row.set r none) hS ⟨rfl, fun j v d h => by simp at h⟩ (by
    simp only [pubK] at h ⊢
    rw [hr] at h ⊢
    simp only [subE_eq, subB_eq] at h ⊢
    obtain ⟨hrl, h⟩ := setK_iff _ _ _ _ h
    exact setK_mk hrl ⟨h, rfl⟩)
  refine (C.run gb g w l c cur (by rw [cell_of_row w gb 1 us t' (0, 0) hh, hu1, hv1, hml]) hg (by omega) h6 h7 hval h0).mono ?_
  rintro e' w' ⟨rfl, rfl⟩
  have hno : ∀ q, ¬ Own μ ω s'.row q g := by
    intro q hq
    rw [hk.2] at hq
    cases q with
    | inl j =>
      have := hS.mem.uniq (.inl j) (.inr r) g hq ⟨_, _, hω, hr, rfl⟩
      cases this
    | inr q =>
      obtain ⟨v, y, k1, k2, k3⟩ := hq
      by_cases hqr : q = r
      · subst hqr
        rw [List.getElem?_set_self (List.getElem?_eq_some_iff.1 hr).1] at k2
        cases k2
      · rw [List.getElem?_set_ne (Ne.symm hqr)] at k2
        have := hS.mem.uniq (.inr q) (.inr r) g ⟨v, y, k1, k2, k3⟩ ⟨_, _, hω, hr, rfl⟩
        cases this
        exact hqr rfl
  exact ⟨_, _, s', V', μ, ω, rfl, hk.1, .imm _ _ (.s l), ⟨hS'.tmps, hS'.defers.to (fun k o ho hn => by rw [freeze_other _ _ _ _ (fun e => by rw [e, hg] at ho; exact hn _ _ _ (Option.some.inj ho).symm)]; exact ho), hS'.env, hS'.mem.freeze hbase hno⟩, hle, .refl μ, .refl ω, fun p v hp => by rw [freeze_cell]; exact hp⟩
theorem effW_of_effK {f : Nat} {ds : List D} {K : D → St → Prop} (h : effK P T s f ds K) : effW P T s f ds K :=
  ⟨h.call, fun w0 V0 V μ ω a w vs hS hl hR => (h.run w0 V0 V μ ω a w vs hS hl hR).mono fun e w' ⟨v, d, s', V', μ', ω', h1, h2, h3, h4, _⟩ => ⟨v, d, s', V', μ', ω', h1, h2, h3, h4⟩⟩
end
end Go.Vx
namespace Go.Vx
open Go.RowKit
def planF (ops : Array Oper) (i : Nat) : List Mv → Array Bool → Bool
  | [], listed => (Region.ready .any ops listed) == [i]
  | .q i' :: r, listed => (Region.ready .any ops listed).contains i' && Region.free .any ops listed i' && ((ops[i']?).map isQ).getD false && planF ops i r (listed.setIfInBounds i' true)
  | .l i' :: r, listed => (Region.ready .any ops listed) == [i'] && planF ops i r (listed.setIfInBounds i' true)
def planPOk (ops : Array Oper) (A : Waits) (mvs : List Mv) (i : Nat) : Bool :=
  Region.noSelect ops && waitsB ops A && Nat.blt mvs.length ops.size && planF ops i mvs (Array.replicate ops.size false)
section
variable {w0 w w' : World} {V0 : Fr} {V : Vw} {μ : List Nat} {ω : List Value} {s : St} {a : Act} {P : Program} {T : Tab}
theorem Ok.region_throw {id t1 t2 n : Nat} {ty : TypeId} {env : List (Nat × D)} {box : List (List D)} {row : Rows} {Q : Exit → St → Prop} {y1 y2 y3 : TypeId} {p1 p2 p3 : String} {a1 a2 a3 : Array Edge}
    (hb : ∀ w, (Instr.build ty #[]).run P w = .ok (.agg #[]) w) (hc : P.concrete ty = true) (h1 : t1 < n) (h2 : t2 < n)
    (h : Q (.panic [{ v := .iface ty (.agg #[]), recovered := false }]) ⟨(t2, .u) :: (t1, .u) :: env, box, row, n⟩) :
    Ok P T (.region id #[⟨some t1, .build ty #[], y1, p1, a1, none⟩, ⟨some t2, .makeInterface ty (.tmp t1), y2, p2, a2, none⟩, ⟨none, .panic (.tmp t2), y3, p3, a3, none⟩] false) Q ⟨env, box, row, n⟩ := by
  refine ⟨fun w0 V0 V μ ω a w hS => wp_region_lit ?_⟩
  have hsz : a.tmps.size = n := hS.tmps
  have ps : ∀ {a : Act} {t : Nat} {v : Value}, t < a.tmps.size → (a.put (some t) v).eval (.tmp t) = v := fun h => by simp [Act.put, Act.eval, Array.getD, h]
  unfold wpList
  rw [if_pos (by simp [Region.wanted])]
  left
  unfold Oper.wp
  have r1 : (execOp a.eval ⟨some t1, .build ty #[], y1, p1, a1, none⟩).run P w = .ok (.value (.agg #[])) w := by
    simp only [execOp, Sem.run_bind, Array.map_empty, List.map_toArray, List.map_nil, hb, Result.andThen_ok, Sem.run_pure]
  rw [r1]
  show wpList P _ _ [_, _] (a.put (some t1) _) w
  unfold wpList
  rw [if_pos (by simp [Region.wanted])]
  left
  unfold Oper.wp
  have r2 : (execOp (a.put (some t1) (.agg #[])).eval ⟨some t2, .makeInterface ty (.tmp t1), y2, p2, a2, none⟩).run P w = .ok (.value (.iface ty (.agg #[]))) w := by
    simp only [execOp, ps (a := a) (t := t1) (v := .agg #[]) (by omega), Sem.run_bind, run_makeInterface w ty _ hc, Result.andThen_ok, Sem.run_pure]
  rw [r2]
  show wpList P _ _ [_] ((a.put (some t1) _).put (some t2) _) w
  unfold wpList
  rw [if_pos (by simp [Region.wanted])]
  left
  unfold Oper.wp
  have r3 : (execOp ((a.put (some t1) (.agg #[])).put (some t2) (.iface ty (.agg #[]))).eval ⟨none, .panic (.tmp t2), y3, p3, a3, none⟩).run P w = .halt (.panic (.iface ty (.agg #[]))) w := by
    have e : ((a.put (some t1) (.agg #[])).put (some t2) (.iface ty (.agg #[]))).eval (.tmp t2) = .iface ty (.agg #[]) := ps (by simp [Act.put]; omega)
    simp [execOp, e, Instr.panic, goPanic]
  rw [r3]
  exact ⟨_, V, μ, ω, h, (hS.put h1 (.imm _ _ (.u _))).put h2 (.imm _ _ (.u _))⟩
end
end Go.Vx
namespace Go.Vx
open Go.RowKit Go.Shelf Go.Proofs
theorem split_one {P : Program} {ρ : Ren} (L : Lays.n146 P ρ) (hi9 : (P.info? (ρ.t 9)).map (fun i => (i.zero, i.size, i.bytes)) = some (some (.string ByteArray.empty), 1, 16)) (s : ByteArray) (c : UInt8) (w : World) (hs : s.size < 4294967281) :
    Calls P (ρ.f 146) #[.string s, .string ⟨#[c]⟩] w fun e w' =>
      e = .returned (.slice (some ⟨w.heap.size, 0, none⟩) (Lib.splitB ⟨#[c]⟩ 0 (Lib.countB s ⟨#[c]⟩) s).length (Lib.splitB ⟨#[c]⟩ 0 (Lib.countB s ⟨#[c]⟩) s).length) ∧ w' = w.alloc (.cells ((Lib.splitB ⟨#[c]⟩ 0 (Lib.countB s ⟨#[c]⟩) s).map Value.string).toArray (ρ.t 9)) := by
  have h1 : 1 ≤ (ByteArray.mk #[c]).size := Nat.le_refl 1
  have hle := Lib.countB_le ⟨#[c]⟩ h1 s.size s (Nat.le_refl _)
  have hlen := Lib.splitB_all ⟨#[c]⟩ h1 0 _ s rfl
  have q : Calls P (ρ.f 221) #[.string s, .string ⟨#[c]⟩, .int .i64 (0 : Nat), .int .i64 (-1)] w _ := Any.strings_genSplit_core { L with } hi9 s ⟨#[c]⟩ 0 (-1) (Lib.countB s ⟨#[c]⟩ + 1) w hs h1 (Nat.zero_le _)
    (fun x cs hx => (Any.strings_Index_one { L with } x c _).mono fun e w' ⟨he, hw⟩ => ⟨he.trans (congrArg (fun i => Ending.returned (Value.int .i64 i)) (Lib.index_one _ _).symm), hw⟩)
    ((Any.strings_Count_one { L with } s c w).mono fun e w' ⟨he, hw⟩ => ⟨by rw [he]; show _ = Ending.returned (Value.int .i64 ((Lib.count s.data.toList [c] : Nat) : Int)); rw [Lib.count_one]; rfl, hw⟩)
    (by decide) (by decide) (by rw [if_pos (by decide)]; omega)
  rw [Nat.add_sub_cancel] at q
  have e2 : Lib.cellsOf (Lib.splitB ⟨#[c]⟩ 0 (Lib.countB s ⟨#[c]⟩) s) (Lib.countB s ⟨#[c]⟩ + 1) = ((Lib.splitB ⟨#[c]⟩ 0 (Lib.countB s ⟨#[c]⟩) s).map Value.string).toArray := by rw [← hlen]; exact Lib.cellsOf_full _
  rw [e2] at q
  have t3 := L.t3; have t9 := L.t9; have t31 := L.t31
  have a3 := L.a3; have a9 := L.a9; have a31 := L.a31
  have z3 := L.z3; have v3 := L.v3; have z9 := L.z9; have v9 := L.v9; have z31 := L.z31; have v31 := L.v31
  have e221 : ∀ args w, (callFunc (ρ.f 221) args).run P w = .ok (.enter (ρ.f 221) args) w := enters_of L.f221 (by kernel_rfl) rfl
  go_enter L.f146, Body.n146_ntmps ρ
  go_wp2_with (go_at_fn (ρ.f 221); refine q.mono ?_; rintro e w' ⟨rfl, hw⟩; rw [hw])
  go_ret
  rw [hlen]
  exact ⟨rfl, rfl⟩
def cutL (c : UInt8) : List UInt8 → List (List UInt8)
  | [] => [[]]
  | b :: r => if b = c then [] :: cutL c r else match cutL c r with
    | h :: t => (b :: h) :: t
    | [] => [[b]]
theorem cutL_ne (c : UInt8) : ∀ l, cutL c l ≠ []
  | [] => by simp [cutL]
  | b :: r => by
    unfold cutL
    split
    · simp
    · split <;> simp
theorem cutL_none {c : UInt8} : ∀ {l : List UInt8}, c ∉ l → cutL c l = [l]
  | [], _ => rfl
  | b :: r, h => by
    rw [List.mem_cons, not_or] at h
    rw [cutL, if_neg (Ne.symm h.1), cutL_none h.2]
theorem cutL_at {c : UInt8} : ∀ {a : List UInt8} {b : List UInt8}, c ∉ a → cutL c (a ++ c :: b) = a :: cutL c b
  | [], b, _ => by rw [List.nil_append, cutL, if_pos rfl]
  | x :: a, b, h => by
    rw [List.mem_cons, not_or] at h
    rw [List.cons_append, cutL, if_neg (Ne.symm h.1), cutL_at h.2]
theorem indexByte_cases (c : UInt8) : ∀ l : List UInt8, (c ∉ l ∧ Lib.indexByte l c = -1) ∨ ∃ a b, l = a ++ c :: b ∧ c ∉ a ∧ Lib.indexByte l c = a.length
  | [] => .inl ⟨by simp, rfl⟩
  | x :: l => by
    by_cases h : x = c
    · subst h
      exact .inr ⟨[], l, rfl, by simp, by simp [Lib.indexByte]⟩
    · have e : (x == c) = false := beq_eq_false_iff_ne.2 h
      rcases indexByte_cases c l with ⟨h1, h2⟩ | ⟨a, b, h0, h1, h2⟩
      · refine .inl ⟨fun hm => ?_, by simp [Lib.indexByte, e, h2]⟩
        rcases List.mem_cons.1 hm with q | q
        · exact h q.symm
        · exact h1 q
      · refine .inr ⟨x :: a, b, by rw [h0, List.cons_append], fun hm => ?_, ?_⟩
        · rcases List.mem_cons.1 hm with q | q
          · exact h q.symm
          · exact h1 q
        · have h3 : ((a.length : Int) == -1) = false := beq_eq_false_iff_ne.2 (by omega)
          simp [Lib.indexByte, e, h2, h3]
theorem splitK_cut (c : UInt8) : ∀ (k : Nat) (l : List UInt8), l.count c = k → Lib.splitK [c] 0 k l = cutL c l
  | 0, l, h => by
    rw [cutL_none (List.count_eq_zero.1 h)]
    rfl
  | k + 1, l, h => by
    rcases indexByte_cases c l with ⟨h1, h2⟩ | ⟨a, b, rfl, h1, h2⟩
    · rw [List.count_eq_zero.2 h1] at h; cases h
    · rw [Lib.splitK, Lib.index_one, h2]
      have e1 : ((a.length : Int) == -1) = false := beq_eq_false_iff_ne.2 (by omega)
      rw [if_neg (by rw [e1]; decide)]
      rw [List.count_append, List.count_eq_zero.2 h1, List.count_cons_self] at h
      rw [cutL_at h1, Int.toNat_natCast, Nat.add_zero, List.take_left' rfl, List.length_singleton, splitK_cut c k _ (by
        rw [← List.drop_drop, List.drop_left' rfl]
        simp
        omega), ← List.drop_drop, List.drop_left' rfl]
      rfl
theorem splitB_cut (s : ByteArray) (c : UInt8) : (Lib.splitB ⟨#[c]⟩ 0 (Lib.countB s ⟨#[c]⟩) s).map (·.data.toList) = cutL c s.data.toList := by
  rw [Lib.splitB_data]
  exact splitK_cut c _ _ (Lib.count_one c _).symm
theorem RI.s_ {sz : TypeId → Nat} {V : Vw} {v : Value} {l : List UInt8} (h : RI sz V v (.s l)) : v = .string (bstr l) := by cases h; rfl
theorem FSpec.of_texts {P : Program} {T : Tab} {f : FuncId} {ds : List D} {e : TypeId} {pieces : List ByteArray} (hcall : ∀ args w, (callFunc f args).run P w = .ok (.enter f args) w) (hsz : szOf T e = 1) (hm : pieces.length ≤ maxLen)
    (h : ∀ (V : Vw) (w : World) (args : Array Value), args.size = ds.length → (∀ (j : Nat) v d, args[j]? = some v → ds[j]? = some d → RI (szOf T) V v d) → Calls P f args w fun q w' =>
      q = .returned (.slice (some ⟨w.heap.size, 0, none⟩) pieces.length pieces.length) ∧ w' = w.alloc (.cells (pieces.map Value.string).toArray e)) :
    FSpec P T f ds fun d rows => d = .own 0 pieces.length ∧ rows = [some (e, pieces.map fun b => [.s b.data.toList])] := by
  refine ⟨hcall, fun V w args hV hl hR => (h V w args hl hR).mono ?_⟩
  rintro q w' ⟨rfl, rfl⟩
  refine ⟨V, [.slice (some ⟨w.heap.size, 0, none⟩) pieces.length pieces.length], _, _, _, rfl, ⟨rfl, rfl⟩, .own 0 _ _ _ _ rfl (Nat.le_refl _), (Below.refl _ _).alloc (Nat.le_refl _) _, fun _ _ h => h, hV.ext (Ext.alloc _ _), fun _ _ => rfl, rfl, ?_, ?_, ?_⟩
  · intro r v e' xs h1 h2
    cases r with
    | succ r => simp at h1
    | zero =>
      cases h1
      cases h2
      refine ⟨pieces.map Value.string, .of ⟨by rw [hsz, List.length_map, List.length_map, Nat.mul_one], .inr ⟨w.heap.size, pieces.length, _, ?_, Nat.le_refl _, heap_alloc_new w _, by rw [List.length_map]; exact Nat.le_refl _, hm, by rw [hsz]; simp, ?_⟩⟩, ?_, ?_, ?_⟩
      · rw [List.length_map]
      · rw [hsz, List.length_map, Nat.mul_one]
        show List.take _ (pieces.map Value.string) = _
        rw [List.take_of_length_le (by rw [List.length_map]; exact Nat.le_refl _)]
      · intro u hu
        obtain ⟨b, _, rfl⟩ := List.mem_map.1 hu
        rfl
      · intro i rw_ hi
        rw [List.getElem?_map] at hi
        obtain ⟨b, _, rfl⟩ := Option.map_eq_some_iff.1 hi
        rw [hsz]; rfl
      · intro i rw_ j d hi hj
        rw [List.getElem?_map] at hi
        obtain ⟨b, hb, rfl⟩ := Option.map_eq_some_iff.1 hi
        cases j with
        | succ j => simp at hj
        | zero =>
          cases hj
          refine ⟨.string b, by rw [hsz, Nat.mul_one, Nat.add_zero, List.getElem?_map, hb]; rfl, ?_⟩
          have : b = bstr b.data.toList := by simp [bstr]
          conv => lhs; rw [this]
          exact .s _
  · intro r r' v v' x x' g h1 _ h2 _ _ _
    cases r with
    | succ r => simp at h1
    | zero => cases r' with
      | succ r => simp at h2
      | zero => rfl
  · intro p u r v x hp h1 _ hb
    cases r with
    | succ r => simp at h1
    | zero =>
      cases h1
      have h3 := World.block_lt_of_cell? _ _ (hV p u hp)
      simp only [Value.ownBlock, Option.some.injEq] at hb
      omega
theorem split_at {P : Program} {T : Tab} {ρ : Ren} (L : Lays.n146 P ρ) (hi9 : (P.info? (ρ.t 9)).map (fun i => (i.zero, i.size, i.bytes)) = some (some (.string ByteArray.empty), 1, 16))
    (hc : ∀ args w, (callFunc (ρ.f 146) args).run P w = .ok (.enter (ρ.f 146) args) w) (hsz : szOf T (ρ.t 9) = 1) (s : List UInt8) (c : UInt8) (hs : s.length < 4294967281) :
    FSpec P T (ρ.f 146) [.s s, .s [c]] fun d rows => d = .own 0 (cutL c s).length ∧ rows = [some ((ρ.t 9), (cutL c s).map fun b => [.s b])] := by
  have e1 : (bstr s).data.toList = s := by simp [bstr]
  have hz : (bstr s).size = s.length := by rw [Lib.size_eq, e1]
  have e0 := splitB_cut (bstr s) c
  rw [e1] at e0
  have hlen : (Lib.splitB ⟨#[c]⟩ 0 (Lib.countB (bstr s) ⟨#[c]⟩) (bstr s)).length = (cutL c s).length := by rw [← e0, List.length_map]
  have h := FSpec.of_texts (P := P) (T := T) (ds := [.s s, .s [c]]) (e := (ρ.t 9)) (pieces := Lib.splitB ⟨#[c]⟩ 0 (Lib.countB (bstr s) ⟨#[c]⟩) (bstr s)) hc hsz (by
      have := Lib.splitB_length_le ⟨#[c]⟩ 0 (Lib.countB (bstr s) ⟨#[c]⟩) (bstr s)
      have := Lib.countB_le ⟨#[c]⟩ (Nat.le_refl 1) (bstr s).size (bstr s) (Nat.le_refl _)
      unfold maxLen; omega) fun V w args hl hR => by
    match args, hl with
    | ⟨[a, b]⟩, _ =>
      have ha := (hR 0 a _ rfl rfl).s_
      have hb := (hR 1 b _ rfl rfl).s_
      subst ha hb
      exact split_one L hi9 (bstr s) c w (by rw [hz]; exact hs)
  have e3 : ((Lib.splitB ⟨#[c]⟩ 0 (Lib.countB (bstr s) ⟨#[c]⟩) (bstr s)).map fun b => [D.s b.data.toList]) = (cutL c s).map fun b => [.s b] := by rw [← e0, List.map_map]; rfl
  rw [hlen, e3] at h
  exact h
end Go.Vx
namespace Go.Vx
open Go.RowKit
def memN : List Nat → Nat → Bool
  | [], _ => false
  | x :: r, t => match Nat.beq x t with | true => true | false => memN r t
theorem memN_iff : ∀ {l : List Nat} {t : Nat}, memN l t = true ↔ t ∈ l
  | [], t => by simp [memN]
  | x :: r, t => by
    unfold memN
    cases h : Nat.beq x t with
    | true =>
      have := beq_nat_true h
      simp [this]
    | false =>
      have : x ≠ t := fun e => by subst e; simp at h
      simp [memN_iff (l := r) (t := t), Ne.symm this]
def dstsN : List Oper → List Nat
  | [] => []
  | o :: r => match o.dst with | some t => t :: dstsN r | none => dstsN r
theorem dstsN_mem : ∀ {l : List Oper} {o : Oper} {t : Nat}, o ∈ l → o.dst = some t → t ∈ dstsN l
  | [], o, t, h, _ => by simp at h
  | x :: r, o, t, h, hd => by
    unfold dstsN
    rcases List.mem_cons.1 h with rfl | h
    · rw [hd]; simp
    · have := dstsN_mem h hd
      split
      · simp [this]
      · exact this
def hidS (ds : List Nat) : List (Nat × D) → (List (Nat × D) → Prop) → Prop
  | [], K => K []
  | (t, d) :: r, K => match memN ds t with | false => hidS ds r fun r => K ((t, d) :: r) | true => hidS ds r K
def hidSL (ds : List Nat) (l : List (Nat × D)) : List (Nat × D) := l.filter fun x => !memN ds x.1
theorem hidS_eq (ds : List Nat) : ∀ (l : List (Nat × D)) (K : List (Nat × D) → Prop), hidS ds l K = K (hidSL ds l)
  | [], K => rfl
  | (t, d) :: r, K => by
    simp only [hidS, hidSL]
    cases h : memN ds t with
    | true => simp [hidS_eq ds r, hidSL, h]
    | false => simp [hidS_eq ds r, hidSL, h]
theorem hidSL_look (ds : List Nat) (l : List (Nat × D)) (t : Nat) : look (hidSL ds l) t = if t ∈ ds then .u else look l t := by
  induction l with
  | nil => simp [hidSL, look]
  | cons x l ih =>
    obtain ⟨q, d⟩ := x
    unfold hidSL
    cases h : memN ds q with
    | false =>
      have hnq : q ∉ ds := fun e => by rw [← memN_iff, h] at e; cases e
      rw [List.filter_cons_of_pos (by simp [h])]
      show look ((q, d) :: hidSL ds l) t = _
      unfold look
      cases hq : Nat.beq q t with
      | true =>
        have := beq_nat_true hq
        subst this
        simp [hnq]
      | false => exact ih
    | true =>
      have hnq : q ∈ ds := memN_iff.1 h
      rw [List.filter_cons_of_neg (by simp [h])]
      show look (hidSL ds l) t = _
      rw [ih]
      split
      · rfl
      · rename_i hnt
        conv => rhs; unfold look
        cases hq : Nat.beq q t with
        | true => have := beq_nat_true hq; subst this; exact absurd hnq hnt
        | false => rfl
def callPanS (P : Program) (T : Tab) (ls : List Nat) (Q : Exit → St → Prop) (o : Oper) (s : St) : Prop :=
  match o.guard with
  | some _ => False
  | none => match o.op with
    | .call { callee := .value (.func f), args, argTypes } => expos T s.row argTypes.toList (s.gets args.toList) fun ds => ∃ v, PSpec P T f ds v ∧ (match s with | ⟨env, box, row, n⟩ => hidS ls env fun env => Q (.panic [{ v := v, recovered := false }]) ⟨env, box, row, n⟩)
    | _ => False
def panAtS (P : Program) (T : Tab) (l : List Oper) (i : Nat) (Q : Exit → St → Prop) (s : St) : Prop := match l[i]? with | some o => callPanS P T (dstsN l) Q o s | none => False
section
variable {w0 w w' : World} {V0 : Fr} {V : Vw} {μ : List Nat} {ω : List Value} {s : St} {a : Act} {P : Program} {T : Tab}
theorem dopsF2_sound (hT : TOk P T) {ops : List Oper} {A : Waits} (hns : Region.noSelect ops.toArray = true) (hA : waitsB ops.toArray A = true) {Q : Exit → Act → World → Prop} (hQ : ∀ c o v a w, o ∈ ops → Q (.panic c) (Act.put a o.dst v) w → Q (.panic c) a w) {i0 k : Nat} :
    ∀ (mvs : List Mv) (listed : Array Bool) (ps : Pends) (sps : List (Nat × Src)) (s : St) (V : Vw) (μ : List Nat) (ω : List Value) (a : Act) (w : World) (K : St → Prop),
      planF ops.toArray i0 mvs listed = true → Closed ops.toArray listed → Sim (szOf T) w0 V0 V μ ω s a w → All2 (PendOK V μ ω w) ps sps → dops P T ops A mvs sps s K →
      (∀ s V μ ω a w (next : Act → World → Prop), K s → Sim (szOf T) w0 V0 V μ ω s a w → wpOp P ops.toArray Q i0 next a w) → wpAnyP P ops.toArray (befW A) Q (mvs.length + (k + 1)) ps listed a w
  | [], listed, ps, sps, s, V, μ, ω, a, w, K, hB, hcl, hS, hps, h, hq => by
    simp only [planF, beq_iff_eq] at hB
    rw [List.length_nil, Nat.zero_add]
    refine ⟨fun h0 => (by rw [hB] at h0; cases h0), fun j hj => ?_⟩
    rw [hB] at hj
    have hji : j = i0 := by simpa using hj
    subst hji
    exact hq s V μ ω a w _ h hS
  | .q i :: r, listed, ps, sps, s, V, μ, ω, a, w, K, hB, hcl, hS, hps, h, hq => by
    simp only [planF, Bool.and_eq_true] at hB
    obtain ⟨⟨⟨hr, hf⟩, hq1⟩, hB⟩ := hB
    simp only [dops] at h
    rw [List.length_cons, show r.length + 1 + (k + 1) = (r.length + (k + 1)) + 1 by omega]
    cases ho : ops[i]? with
    | none => rw [ho] at h; exact h.elim
    | some o =>
      rw [ho] at h
      dsimp only at h
      have ho' : ops.toArray[i]? = some o := by simpa using ho
      rw [ho'] at hq1
      have hri : i ∈ Region.ready .any ops.toArray listed := by simpa using hr
      have hall : ∀ x ∈ ps, x.2 w := fun x hx => let ⟨y, hy⟩ := hps.left x hx; hy.mono_
      rcases wantK_sound (o := o) hS h with ⟨hw, s1, h, hS⟩ | ⟨hw, s1, h, hS⟩
      · obtain ⟨d, v, s2, h, hr2, hS2, p, n, hsrc, hq2⟩ := qop_sound hT hS h
        obtain ⟨s3, h, hS3⟩ := putK_sound hS2 hr2 h
        refine wpAnyP_first (C := KeepN p n w) (v := v) (fun i j => befW_spec hA i j) ho' (Region.noSelect_spec hns) (fun c a w hc => hQ _ _ _ _ _ (List.mem_of_getElem? ho) hc) _ ps listed a w hcl (Region.free_spec ho' hf) hri
          (.inl ⟨hw, fun w' hk => quiet_value (by simpa using hq1) (hq2 w' ?_)⟩) (fun _ _ _ h => h) hall ?_
        · unfold QR
          split
          · exact hk
          · rename_i heq; simp [isQ, heq] at hq1
          · trivial
        · exact dopsF2_sound hT hns hA hQ r _ _ _ s3 V μ ω _ w K hB (hcl.set hri) hS3 (.cons ⟨rfl, p, n, w, rfl, hsrc, fun _ _ _ h => h⟩ hps) h hq
      · obtain ⟨s3, h, hS3⟩ := putK_sound hS (v := undef) (d := .tup []) (RS.tup [] #[] rfl (fun j v d h => by simp at h)) h
        refine wpAnyP_first (C := KeepN ⟨0, 0, none⟩ 0 w) (v := undef) (fun i j => befW_spec hA i j) ho' (Region.noSelect_spec hns) (fun c a w hc => hQ _ _ _ _ _ (List.mem_of_getElem? ho) hc) _ ps listed a w hcl (Region.free_spec ho' hf) hri
          (.inr ⟨hw, rfl⟩) (fun _ _ _ h => h) hall ?_
        exact dopsF2_sound hT hns hA hQ r _ _ _ s3 V μ ω _ w K hB (hcl.set hri) hS3 (.cons ⟨rfl, ⟨0, 0, none⟩, 0, w, rfl, SrcP.zero _, fun _ _ _ h => h⟩ hps) h hq
  | .l i :: r, listed, ps, sps, s, V, μ, ω, a, w, K, hB, hcl, hS, hps, h, hq => by
    simp only [planF, Bool.and_eq_true, beq_iff_eq] at hB
    obtain ⟨hr, hB⟩ := hB
    simp only [dops] at h
    rw [List.length_cons, show r.length + 1 + (k + 1) = (r.length + (k + 1)) + 1 by omega]
    cases ho : ops[i]? with
    | none => rw [ho] at h; exact h.elim
    | some o =>
      rw [ho] at h
      dsimp only at h
      have ho' : ops.toArray[i]? = some o := by simpa using ho
      have hri : i ∈ Region.ready .any ops.toArray listed := by rw [hr]; simp
      refine ⟨fun h0 => (by rw [hr] at h0; cases h0), fun j hj => ?_⟩
      rw [hr] at hj
      have hji : j = i := by simpa using hj
      subst hji
      unfold wpOp
      rw [ho']
      dsimp only
      rcases wantK_sound (o := o) hS h with ⟨hw, s1, h, hS⟩ | ⟨hw, s1, h, hS⟩
      · rw [if_pos hw]
        obtain ⟨h, hst⟩ := clearK_step hS.mem hps h
        refine .inl (dop_sound hT hS h _ _ fun d v s2 V2 μ2 ω2 w2 hk hr2 hS2 hstep => ?_)
        obtain ⟨h1, h2⟩ := hst _ _ _ _ hstep
        obtain ⟨s3, h, hS3⟩ := putK_sound hS2 hr2 hk
        exact ⟨h1, dopsF2_sound hT hns hA hQ r _ _ _ s3 _ _ _ _ w2 K hB (hcl.set hri) hS3 h2 h hq⟩
      · rw [if_neg (by rw [hw]; simp)]
        obtain ⟨s3, h, hS3⟩ := putK_sound hS (v := undef) (d := .tup []) (RS.tup [] #[] rfl (fun j v d h => by simp at h)) h
        exact ⟨fun x hx _ => let ⟨y, hy⟩ := hps.left x hx; hy.mono_, dopsF2_sound hT hns hA hQ r _ _ _ s3 _ _ _ _ w K hB (hcl.set hri) hS3 (hps.filter fun _ _ h => h.1) h hq⟩
theorem Ok.region_planpanS (hT : TOk P T) (hm : P.follows .mixedOrders = true) {s : St} {Q : Exit → St → Prop} {id : Nat} {l : List Oper} (A : Waits) (mvs : List Mv) (i0 : Nat) (hB : planPOk l.toArray A mvs i0 = true)
    (h : dops P T l A mvs [] s (panAtS P T l i0 Q)) : Ok P T (.region id l.toArray true) Q s := by
  refine ⟨fun w0 V0 V μ ω a w hS => ?_⟩
  simp only [planPOk, Bool.and_eq_true] at hB
  obtain ⟨⟨⟨hns, hA⟩, hlen⟩, hB⟩ := hB
  have hlt : mvs.length < l.toArray.size := blt_true hlen
  have hd : Ext w { w with drawn := w.drawn + 1 } := (Below.refl w.heap.size w).drew
  refine wp_mono (Q := fun e a' w' => ∃ c, e = .panic c ∧ ∃ s' V' μ' ω', Q e s' ∧ (∀ t, t ∈ dstsN l → look s'.env t = .u) ∧ Sim (szOf T) w0 V0 V' μ' ω' s' a' w') (wp_region_any hm ?_) ?_
  · refine wpAny_of_P (bef := befW A) _ [] _ _ _ ?_
    have hz : ∀ m j : Nat, (Array.replicate m false).getD j false = false := fun m j => by
      rcases Nat.lt_or_ge j m with h | h <;> simp [h]
    have hw := dopsF2_sound hT hns hA (Q := fun e a' w' => ∃ c, e = .panic c ∧ ∃ s' V' μ' ω', Q e s' ∧ (∀ t, t ∈ dstsN l → look s'.env t = .u) ∧ Sim (szOf T) w0 V0 V' μ' ω' s' a' w')
      (by
        rintro c o v a w ho ⟨_, _, s', V', μ', ω', hq, hhid, hS'⟩
        refine ⟨c, rfl, s', V', μ', ω', hq, hhid, ⟨?_, ?_, fun t => ?_, hS'.mem⟩⟩
        · have := hS'.tmps
          cases hd : o.dst <;> simpa [Act.put, hd] using this
        · have := hS'.defers
          cases hd : o.dst <;> simpa [Act.put, hd] using this
        · by_cases ht : t ∈ dstsN l
          · rw [hhid t ht]; exact .imm _ _ (.u _)
          · have := hS'.env t
            cases hd : o.dst with
            | none => rw [hd] at this; exact this
            | some d =>
              have hne : d ≠ t := fun e => ht (by rw [← e]; exact dstsN_mem ho hd)
              rw [hd] at this
              unfold slotV at this ⊢
              split
              · rename_i hlt
                rw [if_pos hlt] at this
                have e1 : (a.put (some d) v).tmps.getD t undef = a.tmps.getD t undef := by
                  show (a.tmps.setIfInBounds d v).getD t undef = _
                  rw [Array.getD_eq_getD_getElem?, Array.getD_eq_getD_getElem?, Array.getElem?_setIfInBounds_ne hne]
                rw [← e1]
                exact this
              · rename_i hlt
                rw [if_neg hlt] at this
                exact this) (i0 := i0) (k := l.toArray.size - mvs.length - 1) mvs _ [] [] s V μ ω a _ _ hB
      (fun j o _ hl => by rw [hz] at hl; cases hl) (hS.ext hd) .nil h ?_
    · rw [show mvs.length + (l.toArray.size - mvs.length - 1 + 1) = l.toArray.size by omega] at hw
      exact hw
    · intro s V μ ω a w next hk hS
      unfold panAtS at hk
      split at hk
      case h_2 => exact hk.elim
      rename_i o ho
      obtain ⟨dst, op, type, pos, after, guard⟩ := o
      unfold callPanS at hk
      split at hk
      · exact hk.elim
      rename_i hg
      dsimp only at hg
      subst hg
      split at hk
      case h_2 => exact hk.elim
      rename_i f args argTypes hop
      dsimp only at hop
      subst hop
      obtain ⟨es, ⟨v, hp, hq⟩, hes, hri⟩ := expos_sound hS.mem argTypes.toList (s.gets args.toList) (args.toList.map a.eval) _ (by simp [St.gets]) (hS.gets args.toList).2 hk
      unfold wpOp
      have ho' : l.toArray[i0]? = some ⟨dst, .call ⟨.value (.func f), args, argTypes⟩, type, pos, after, none⟩ := by simpa using ho
      rw [ho']
      dsimp only
      rw [if_pos (by simp [Region.wanted])]
      left
      unfold Oper.wp
      have hrun : (execOp a.eval ⟨dst, .call ⟨.value (.func f), args, argTypes⟩, type, pos, after, none⟩).run P w = .ok (.enter f (args.map a.eval)) w := by
        simp only [execOp, resolve, Act.eval, Deferred.ofValue, invoke, Sem.run_bind, Sem.run_pure, Result.andThen_ok]
        rw [show (#[] ++ args.map a.eval) ++ #[] = args.map a.eval by simp, hp.call]
      rw [hrun]
      show Calls P f (args.map a.eval) w _
      have hcalls := hp.run _ w (args.map a.eval) (fun _ _ h => h) (by simp [hes, St.gets]) (fun j v d h1 h2 => hri j v d (by simpa using h1) h2)
      refine hcalls.mono ?_
      rintro e w' ⟨rfl, hb⟩
      obtain ⟨env, box, row, n⟩ := s
      dsimp only at hq
      rw [hidS_eq] at hq
      have hS2 := hS.ext hb
      refine ⟨_, rfl, ⟨hidSL (dstsN l) env, box, row, n⟩, V, μ, ω, hq, fun t ht => by rw [hidSL_look, if_pos ht], ⟨hS2.tmps, hS2.defers, fun t => ?_, hS2.mem⟩⟩
      show RS _ _ _ _ (slotV V0 n a t) (look (hidSL (dstsN l) env) t)
      rw [hidSL_look]
      split
      · exact .imm _ _ (.u _)
      · exact hS2.env t
  · rintro e a' w' ⟨c, rfl, s', V', μ', ω', hk, _, hS'⟩
    exact ⟨s', V', μ', ω', hk, hS'⟩
end
section
variable {P : Program} {T : Tab}
theorem FSpec.of_deferK (k : Nat) (hT : TOk P T) {f : FuncId} {fn : Func} {c : Code} (hf : P.funcs[f]? = some fn) (hb : fn.body = some c) (hcall : ∀ args w, (callFunc f args).run P w = .ok (.enter f args) w) {ds : List D} {R : D → Rows → Prop} (hn : ds.length ≤ fn.ntmps)
    {g : FuncId} {pv : Value} {z1 z2 : List Value} (hD : DefSpec P g pv z1 z2) {zd1 zd2 : List D} (hz1 : z1.map ofVal = zd1) (hz2 : z2.map ofVal = zd2) (ho1 : ∀ v ∈ z1, v.oneCell' = true) (ho2 : ∀ v ∈ z2, v.oneCell' = true) {id t p q : Nat} {ty1 ty2 : TypeId} {p1 p2 : String} {e1 e2 : Array Edge} {Bs : List Code}
    (hflat : (flatC c).drop k = .region id #[⟨some t, .makeFunc (.func g) #[] #[.tmp p, .tmp q], ty1, p1, e1, none⟩, ⟨none, .defer ⟨.value (.tmp t), #[], #[]⟩, ty2, p2, e2, none⟩] false :: Bs)
    (h : OkL P T ((flatC c).take k) (defA P T fn R pv zd1 zd2 t p q Bs) ⟨envOf 0 ds, [], [], fn.ntmps⟩) : FSpec P T f ds R :=
  FSpec.of_defer hT hf hb hcall hn hz1 hz2 ho1 ho2 hD (by rw [← hflat, List.take_append_drop]) h
end
end Go.Vx
namespace Go.Vx
open Go.RowKit
variable {P : Program} {T : Tab} {s : St}
theorem FSpec.mono {f : FuncId} {ds : List D} {R R' : D → Rows → Prop} (h : FSpec P T f ds R) (hR : ∀ d rows, R d rows → R' d rows) : FSpec P T f ds R' :=
  ⟨h.1, fun V w args a b c => (h.2 V w args a b c).mono fun e w' ⟨V', ω, row, v, d, h1, h2, h3⟩ => ⟨V', ω, row, v, d, h1, hR _ _ h2, h3⟩⟩
end Go.Vx
namespace Go.Vx
open Go.RowKit
variable {P : Program} {T : Tab}
inductive Pk (box : List (List D)) : D → D → Prop
  | i (k n) : Pk box (.i k n) (.i k n)
  | s (l) : Pk box (.s l) (.s l)
  | bp (i off cs) (h : box[i]? = some cs) (hg : ∀ d ∈ cs.drop off, ∃ k n, d = .i k n) : Pk box (.bp i off) (.ep (cs.drop off))
theorem RS.i_ri {sz : TypeId → Nat} {V V' : Vw} {μ : List Nat} {ω : List Value} {v : Value} {k : IntKind} {n : Int} (h : RS sz V μ ω v (.i k n)) : RI sz V' v (.i k n) ∧ v.oneCell' = true := by
  cases h with
  | imm _ _ h => cases h; exact ⟨.i _ _, rfl⟩
theorem effK.peek {s : St} {f : FuncId} {ds es : List D} {K : D → St → Prop} {R : D → Rows → Prop} (hl : es.length = ds.length) (hp : ∀ (j : Nat) d e, ds[j]? = some d → es[j]? = some e → Pk s.box d e) (hf : FSpec P T f es R)
    (h : ∀ d rows, R d rows → gRowsP rows ∧ boolP d.ownOrG2 (match s with
      | ⟨env, box, row, n⟩ => shiftD row.length d fun d => catK row rows fun row => K d ⟨env, box, row, n⟩)) : effK P T s f ds K := by
  refine ⟨hf.call, fun w0 V0 V μ ω a w vs hS hvl hvR => ?_⟩
  have hri : ∀ (j : Nat) v e, vs[j]? = some v → es[j]? = some e → RI (szOf T) (heapV w) v e := by
    intro j v e h1 h2
    have hj : j < ds.length := by rw [← hl]; exact (List.getElem?_eq_some_iff.1 h2).1
    have h3 := List.getElem?_eq_getElem hj
    have hr := hvR j v _ h1 h3
    generalize ds[j] = d0 at h3 hr
    cases hp j _ e h3 h2 with
    | i k n => exact hr.i_ri.1
    | s l => cases hr with
      | imm _ _ hr => cases hr; exact .s _
    | bp i off cs hb hg =>
      obtain ⟨g, rfl, hμ⟩ : ∃ g, v = .pointer (some ⟨g, off, none⟩) ∧ μ[i]? = some g := by
        cases hr with
        | imm _ _ hr => cases hr
        | bp _ _ g h => exact ⟨g, rfl, h⟩
      obtain ⟨us, t, hu, hs, ho, hR', _⟩ := hS.mem.hbox i g cs hμ hb
      have key : ∀ (j : Nat) d, (cs.drop off)[j]? = some d → ∃ hj : off + j < us.size, RI (szOf T) (heapV w) us[off + j] d ∧ us[off + j].oneCell' = true := by
        intro j d hj
        have hj2 : cs[off + j]? = some d := by rw [List.getElem?_drop] at hj; exact hj
        have hlt : off + j < us.size := by rw [hs]; exact (List.getElem?_eq_some_iff.1 hj2).1
        obtain ⟨k, n, rfl⟩ := hg d (List.mem_of_getElem? hj)
        exact ⟨hlt, (hR' (off + j) us[off + j] _ (by simp [hlt]) hj2).i_ri⟩
      refine .ep _ ⟨g, off, none⟩ (fun j => us.getD (off + j) undef) (fun j d hj => ?_) (fun j d hj => ?_)
      · obtain ⟨hlt, h1, h2⟩ := key j d hj
        have hgd : us.getD (off + j) undef = us[off + j] := by simp [Array.getD, hlt]
        rw [hgd]
        refine ⟨?_, h2⟩
        have ha : (⟨g, off, none⟩ : Addr).add j = ⟨g, off + j, none⟩ := by cases j <;> simp [Addr.add]
        show w.cell? _ = _
        rw [ha]
        simp [World.cell?, hu, hlt]
      · obtain ⟨hlt, h1, h2⟩ := key j d hj
        have hgd : us.getD (off + j) undef = us[off + j] := by simp [Array.getD, hlt]
        rw [hgd]
        exact h1
  have hcalls := hf.run (heapV w) w vs.toArray (fun _ _ h => h) (by simp [hl, hvl]) (fun j v d h1 h2 => hri j v d (by simpa using h1) h2)
  refine hcalls.mono ?_
  rintro e w'' ⟨V', ω0, row0, v, d, rfl, hR, hrs, hres⟩
  obtain ⟨hg, hk⟩ := h d row0 hR
  obtain ⟨hd, hk⟩ := boolP_iff.1 hk
  have hres2 := hres.less hS.mem.vok hg
  have hrs2 := hrs.ownOrG2 (V' := fun p => if p.block < w.heap.size then V p else V' p) hd
  obtain ⟨env, box, row, n⟩ := s
  have hM := hS.mem.call hres2
  have hl : row.length = ω.length := hS.mem.rl.symm
  dsimp only at hk
  rw [hl] at hk
  obtain ⟨d', hk, hr⟩ := shiftD_sound (μ := μ) (ω' := ω ++ ω0) (VLe.refl _) (fun r u hu => by rw [List.getElem?_append_right (by omega), Nat.add_sub_cancel]; exact hu) hrs2 hk
  rw [catK_eq] at hk
  exact ⟨v, d', _, _, μ, ω ++ ω0, rfl, hk, hr, ⟨hS.tmps, hS.defers.ext hres2.below, fun t => (hS.env t).mono hres2.le (.refl μ) (.append _ _), hM⟩, hres2.le, .refl _, .append _ _, fun q v hq => by rw [hres2.below.cell (World.block_lt_of_cell? _ _ hq)]; exact hq⟩
end Go.Vx
namespace Go.Vx
open Go.RowKit
def fen (ρ : Option Nat) : Fence := { Fence.wide with round := ρ }
section
variable {P : Program} {T : Tab} {s : St} {Q : Exit → St → Prop} {w0 : World} {V0 : Fr}
theorem fen_room (ρ : Option Nat) (k : Nat) : (fen ρ).room k := fun _ h => by cases h
theorem opIn_of {ρ : Option Nat} {o : Oper} {a : Act} {w : World} {next : Act → World → Prop} {R : Exit → Act → World → Prop} (h : o.wp P a w next R) (hd : ∀ c, o.op ≠ .defer c) : o.wpIn (fen ρ) 0 P a w next R := by
  refine ⟨fun _ _ => trivial, ?_⟩
  show o.uponIn (fen ρ) 0 P a next R ((o.semAt ρ a.eval).run P w)
  rw [Oper.semAt_eq ρ _ _ hd]
  unfold Oper.wp at h
  generalize (execOp a.eval o).run P w = r at h
  unfold Oper.upon at h
  unfold Oper.uponIn
  split at h
  · exact h
  · exact h
  · exact h
  · refine ⟨(fun hh => by cases hh), ?_⟩
    exact (callsIn_wide (n := 0)).2 h
  · refine ⟨(fun hh => by cases hh), ?_⟩
    intro c cs _
    obtain ⟨v, w', hr, hs⟩ := h c cs
    exact ⟨v, w', hr, stepsIn_wide.2 hs⟩
  · exact h
  · exact h.elim
theorem vop_nodefer {o : Oper} {K : D → St → Prop} (h : vop P T s o K) : ∀ c, o.op ≠ .defer c := by
  intro c hc
  unfold vop at h
  rw [hc] at h
  dsimp only at h
  unfold qop at h
  rw [hc] at h
  exact h
theorem vopsIn_sound (hT : TOk P T) {ρ : Option Nat} {ops : List Oper} {R : Exit → Act → World → Prop} : ∀ (rest : List Oper) (s : St) (V : Vw) (μ : List Nat) (ω : List Value) (a : Act) (w : World) (K : St → Prop), Sim (szOf T) w0 V0 V μ ω s a w →
    vops P T ops rest s K → (∀ s V μ ω a w, K s → Sim (szOf T) w0 V0 V μ ω s a w → R .normal a w) → wpListIn (fen ρ) 0 P ops.toArray R rest a w
  | [], s, V, μ, ω, a, w, K, hS, h, hq => hq s V μ ω a w h hS
  | o :: rest, s, V, μ, ω, a, w, K, hS, h, hq => by
    simp only [vops] at h
    unfold wpListIn
    rcases wantK_sound hS h with ⟨hw, s1, h, hS⟩ | ⟨hw, s1, h, hS⟩
    · rw [if_pos hw]
      refine opIn_of (vop_sound hT hS h _ _ fun d v s2 V2 μ2 ω2 w2 hk hr hS2 _ => ?_) (vop_nodefer h)
      obtain ⟨s3, h, hS3⟩ := putK_sound hS2 hr hk
      exact vopsIn_sound hT rest s3 _ _ _ _ _ K hS3 h hq
    · rw [if_neg (by rw [hw]; simp)]
      obtain ⟨s3, h, hS3⟩ := putK_sound hS (v := undef) (d := .tup []) (RS.tup [] #[] rfl (fun j v d h => by simp at h)) h
      exact ⟨fun _ _ => trivial, vopsIn_sound hT rest s3 _ _ _ _ _ K hS3 h hq⟩
theorem vopsCutIn_sound (hT : TOk P T) {ρ : Option Nat} {ops : List Oper} {R : Exit → Act → World → Prop} : ∀ (n : Nat) (rest : List Oper) (s : St) (V : Vw) (μ : List Nat) (ω : List Value) (a : Act) (w : World) (K : Oper → St → Prop), Sim (szOf T) w0 V0 V μ ω s a w →
    vopsCut P T ops n rest s K → (∀ o r s V μ ω a w, rest.drop n = o :: r → K o s → Sim (szOf T) w0 V0 V μ ω s a w → wpListIn (fen ρ) 0 P ops.toArray R (o :: r) a w) → wpListIn (fen ρ) 0 P ops.toArray R rest a w
  | 0, [], _, _, _, _, _, _, _, _, h, _ => by simp [vopsCut] at h
  | _ + 1, [], _, _, _, _, _, _, _, _, h, _ => by simp [vopsCut] at h
  | 0, o :: rest, s, V, μ, ω, a, w, K, hS, h, hq => hq o rest s V μ ω a w rfl h hS
  | n + 1, o :: rest, s, V, μ, ω, a, w, K, hS, h, hq => by
    simp only [vopsCut] at h
    unfold wpListIn
    rcases wantK_sound hS h with ⟨hw, s1, h, hS⟩ | ⟨hw, s1, h, hS⟩
    · rw [if_pos hw]
      refine opIn_of (vop_sound hT hS h _ _ fun d v s2 V2 μ2 ω2 w2 hk hr hS2 _ => ?_) (vop_nodefer h)
      obtain ⟨s3, h, hS3⟩ := putK_sound hS2 hr hk
      exact vopsCutIn_sound hT n rest s3 _ _ _ _ _ K hS3 h hq
    · rw [if_neg (by rw [hw]; simp)]
      obtain ⟨s3, h, hS3⟩ := putK_sound hS (v := undef) (d := .tup []) (RS.tup [] #[] rfl (fun j v d h => by simp at h)) h
      exact ⟨fun _ _ => trivial, vopsCutIn_sound hT n rest s3 _ _ _ _ _ K hS3 h hq⟩
structure OkR (P : Program) (T : Tab) (c : Code) (Q : Exit → St → Prop) (s : St) : Prop where
  run : ∀ (l : Nat) (w0 : World) (V0 : Fr) (V : Vw) (μ : List Nat) (ω : List Value) (a : Act) (w : World), Sim (szOf T) w0 V0 V μ ω s a w →
    c.wpIn (fen (some l)) 0 P (fun e a' w' => ∃ s' V' μ' ω', Q e s' ∧ Sim (szOf T) w0 V0 V' μ' ω' s' a' w') a w
theorem OkR.mono {c : Code} {Q' : Exit → St → Prop} (h : OkR P T c Q s) (hq : ∀ e s, Q e s → Q' e s) : OkR P T c Q' s := by
  refine ⟨fun l w0 V0 V μ ω a w hS => wpIn_mono (h.run l w0 V0 V μ ω a w hS) ?_⟩
  rintro e a' w' ⟨s', V', μ', ω', hk, hS'⟩
  exact ⟨s', V', μ', ω', hq _ _ hk, hS'⟩
theorem OkR.region (hT : TOk P T) {id : Nat} {l : List Oper} (h : vops P T l l s (Q .normal)) : OkR P T (.region id l.toArray false) Q s :=
  ⟨fun _ w0 V0 V μ ω a w hS => wpIn_region_lit (vopsIn_sound hT l s V μ ω a w _ hS h fun s' V' μ' ω' a' w' hk hS' => ⟨s', V', μ', ω', hk, hS'⟩)⟩
theorem OkR.seq {x y : Code} (h : OkR P T x (thenQ (OkR P T y Q) Q) s) : OkR P T (.seq x y) Q s := by
  refine ⟨fun l w0 V0 V μ ω a w hS => wpIn_seq (wpIn_mono (h.run l w0 V0 V μ ω a w hS) ?_)⟩
  rintro e a' w' ⟨s', V', μ', ω', hk, hS'⟩
  cases e with
  | normal => exact OkR.run hk l w0 V0 V' μ' ω' a' w' hS'
  | _ => exact ⟨s', V', μ', ω', hk, hS'⟩
theorem OkR.skip (h : Q .normal s) : OkR P T .skip Q s := ⟨fun _ _ _ V μ ω _ _ hS => wpIn_skip ⟨s, V, μ, ω, h, hS⟩⟩
theorem OkR.ret (h : Q .ret s) : OkR P T .ret Q s := ⟨fun _ _ _ V μ ω _ _ hS => wpIn_ret ⟨s, V, μ, ω, h, hS⟩⟩
theorem OkR.exit {id : Nat} (h : Q (.exit id) s) : OkR P T (.exit id) Q s := ⟨fun _ _ _ V μ ω _ _ hS => wpIn_exit ⟨s, V, μ, ω, h, hS⟩⟩
theorem OkR.block {id : Nat} {c : Code} (h : OkR P T c (blockQ id Q) s) : OkR P T (.block id c) Q s := by
  refine ⟨fun l w0 V0 V μ ω a w hS => wpIn_block (wpIn_mono (h.run l w0 V0 V μ ω a w hS) ?_)⟩
  rintro e a' w' ⟨s', V', μ', ω', hk, hS'⟩
  cases e with
  | exit id' =>
    simp only [blockQ] at hk
    simp only [Exit.inBlock]
    split at hk
    · rename_i hb
      rw [if_pos (beq_nat_true hb)]
      exact ⟨s', V', μ', ω', hk, hS'⟩
    · rename_i hb
      rw [if_neg (by rintro rfl; rw [Nat.beq_refl] at hb; cases hb)]
      exact ⟨s', V', μ', ω', hk, hS'⟩
  | _ => exact ⟨s', V', μ', ω', hk, hS'⟩
theorem OkR.cond {c : Operand} {x y : Code} (h : condK s c (OkR P T x Q) (OkR P T y Q)) : OkR P T (.cond c x y) Q s := by
  refine ⟨fun l w0 V0 V μ ω a w hS => ?_⟩
  have hc := hS.get c
  unfold condK at h
  split at h
  · rename_i hd; rw [hd] at hc; exact wpIn_cond_true hc.tt_ (h.run l w0 V0 V μ ω a w hS)
  · rename_i hd; rw [hd] at hc; exact wpIn_cond_false hc.ff_ (h.run l w0 V0 V μ ω a w hS)
  · rename_i p hd
    rw [hd] at hc
    obtain ⟨b, hb, hbp⟩ := hc.bool
    cases b with
    | true => exact wpIn_cond_true hb ((h.1 (hbp.1 rfl)).run l w0 V0 V μ ω a w (hS.know c (by rw [hb]; exact .imm _ _ .tt)))
    | false => exact wpIn_cond_false hb ((h.2 (fun hp => by simpa using hbp.2 hp)).run l w0 V0 V μ ω a w (hS.know c (by rw [hb]; exact .imm _ _ .ff)))
  · exact h.elim
theorem OkR.region_throw {id t1 t2 n : Nat} {ty : TypeId} {env : List (Nat × D)} {box : List (List D)} {row : Rows} {y1 y2 y3 : TypeId} {p1 p2 p3 : String} {a1 a2 a3 : Array Edge}
    (hb : ∀ w, (Instr.build ty #[]).run P w = .ok (.agg #[]) w) (hc : P.concrete ty = true) (h1 : t1 < n) (h2 : t2 < n)
    (h : Q (.panic [{ v := .iface ty (.agg #[]), recovered := false }]) ⟨(t2, .u) :: (t1, .u) :: env, box, row, n⟩) :
    OkR P T (.region id #[⟨some t1, .build ty #[], y1, p1, a1, none⟩, ⟨some t2, .makeInterface ty (.tmp t1), y2, p2, a2, none⟩, ⟨none, .panic (.tmp t2), y3, p3, a3, none⟩] false) Q ⟨env, box, row, n⟩ := by
  refine ⟨fun l w0 V0 V μ ω a w hS => wpIn_region_lit ?_⟩
  have hsz : a.tmps.size = n := hS.tmps
  have ps : ∀ {a : Act} {t : Nat} {v : Value}, t < a.tmps.size → (a.put (some t) v).eval (.tmp t) = v := fun h => by simp [Act.put, Act.eval, Array.getD, h]
  unfold wpListIn
  rw [if_pos (by simp [Region.wanted])]
  refine opIn_of ?_ (by intro c; simp)
  unfold Oper.wp
  have r1 : (execOp a.eval ⟨some t1, .build ty #[], y1, p1, a1, none⟩).run P w = .ok (.value (.agg #[])) w := by
    simp only [execOp, Sem.run_bind, Array.map_empty, List.map_toArray, List.map_nil, hb, Result.andThen_ok, Sem.run_pure]
  rw [r1]
  show wpListIn _ _ P _ _ [_, _] (a.put (some t1) _) w
  unfold wpListIn
  rw [if_pos (by simp [Region.wanted])]
  refine opIn_of ?_ (by intro c; simp)
  unfold Oper.wp
  have r2 : (execOp (a.put (some t1) (.agg #[])).eval ⟨some t2, .makeInterface ty (.tmp t1), y2, p2, a2, none⟩).run P w = .ok (.value (.iface ty (.agg #[]))) w := by
    simp only [execOp, ps (a := a) (t := t1) (v := .agg #[]) (by omega), Sem.run_bind, run_makeInterface w ty _ hc, Result.andThen_ok, Sem.run_pure]
  rw [r2]
  show wpListIn _ _ P _ _ [_] ((a.put (some t1) _).put (some t2) _) w
  unfold wpListIn
  rw [if_pos (by simp [Region.wanted])]
  refine opIn_of ?_ (by intro c; simp)
  unfold Oper.wp
  have r3 : (execOp ((a.put (some t1) (.agg #[])).put (some t2) (.iface ty (.agg #[]))).eval ⟨none, .panic (.tmp t2), y3, p3, a3, none⟩).run P w = .halt (.panic (.iface ty (.agg #[]))) w := by
    have e : ((a.put (some t1) (.agg #[])).put (some t2) (.iface ty (.agg #[]))).eval (.tmp t2) = .iface ty (.agg #[]) := ps (by simp [Act.put]; omega)
    simp [execOp, e, Instr.panic, goPanic]
  rw [r3]
  exact ⟨_, V, μ, ω, h, (hS.put h1 (.imm _ _ (.u _))).put h2 (.imm _ _ (.u _))⟩
end
end Go.Vx
namespace Go.Vx
open Go.RowKit
section
variable {P : Program} {T : Tab}
def wpG (P : Program) (G : FuncId → Prop) (c : Code) (Q : Exit → Act → World → Prop) (a : Act) (w : World) : Prop :=
  ∀ (b : Frame) (k : List Item) (cs : List Frame), G b.fn → ∃ e a' w', Q e a' w' ∧ Arrives P (lone (b.at a (.code c :: k)) cs w) b k cs e a' w'
variable {G : FuncId → Prop} {Q : Exit → Act → World → Prop} {a : Act} {w : World}
theorem wpG_of {c : Code} (h : c.wp P Q a w) : wpG P G c Q a w := fun b k cs _ => h b k cs
theorem wpG_mono {c : Code} {Q' : Exit → Act → World → Prop} (h : wpG P G c Q a w) (hq : ∀ e a w, Q e a w → Q' e a w) : wpG P G c Q' a w :=
  fun b k cs hG => let ⟨e, a', w', q, r⟩ := h b k cs hG; ⟨e, a', w', hq _ _ _ q, r⟩
theorem wpG_seq {x y : Code} (h : wpG P G x (Exit.then (wpG P G y Q) Q) a w) : wpG P G (Code.seq x y) Q a w := by
  intro b k cs hG
  obtain ⟨e, a₁, w₁, hq, harr⟩ := h b (.code y :: k) cs hG
  cases e with
  | normal =>
    obtain ⟨e₂, a₂, w₂, hq₂, harr₂⟩ := hq b k cs hG
    exact ⟨e₂, a₂, w₂, hq₂, .of_steps (.head step_seq harr) harr₂⟩
  | exit id => exact ⟨_, a₁, w₁, hq, .of_steps (.one step_seq) (.pass (x := .code y) rfl (fun _ _ => .inl (by simp)) harr)⟩
  | goto l => exact ⟨_, a₁, w₁, hq, .of_steps (.one step_seq) (.pass (x := .code y) rfl (fun _ _ => .inl (by simp)) harr)⟩
  | ret => exact ⟨_, a₁, w₁, hq, .of_steps (.one step_seq) (.pass (x := .code y) rfl (fun _ _ => .inl (by simp)) harr)⟩
  | panic ch => exact ⟨_, a₁, w₁, hq, .of_steps (.one step_seq) (.pass (x := .code y) rfl (fun _ _ => .inl (by simp)) harr)⟩
  | outgrown => exact ⟨_, a₁, w₁, hq, .of_steps (.one step_seq) (.pass (x := .code y) rfl (fun _ _ => .inl (by simp)) harr)⟩
theorem wpG_block {id : Nat} {c : Code} (h : wpG P G c (Exit.inBlock id Q) a w) : wpG P G (Code.block id c) Q a w := by
  intro b k cs hG
  obtain ⟨e, a₁, w₁, hq, harr⟩ := h b (.inBlock id :: k) cs hG
  cases e with
  | normal => exact ⟨.normal, a₁, w₁, hq, .head step_block (Steps.trans harr (.one step_inBlock))⟩
  | exit id' =>
    by_cases hid : id' = id
    · simp only [Exit.inBlock, hid, if_true] at hq
      exact ⟨.normal, a₁, w₁, hq, .head step_block (harr k (by simp [exitTo, hid]))⟩
    · simp only [Exit.inBlock, hid, if_false] at hq
      refine ⟨.exit id', a₁, w₁, hq, fun k' hk => .head step_block (harr k' ?_)⟩
      have : (id == id') = false := by simp; exact fun h => hid h.symm
      simp [exitTo, this, hk]
  | goto l => exact ⟨_, a₁, w₁, hq, fun k' hk => .head step_block (harr k' (by simp [gotoIn, hk]))⟩
  | ret => exact ⟨_, a₁, w₁, hq, .of_steps (.one step_block) harr⟩
  | panic ch => exact ⟨_, a₁, w₁, hq, .of_steps (.one step_block) harr⟩
  | outgrown => exact ⟨_, a₁, w₁, hq, .of_steps (b := b) (k := k) (cs := cs) (e := .outgrown) (.one step_block) harr⟩
theorem calls_of_wpG {f : FuncId} {fn : Func} {c : Code} {args : Array Value} {w : World} {R : Ending → World → Prop} (hf : P.funcs[f]? = some fn) (hb : fn.body = some c) (hG : G f)
    (h : wpG P G c (bodyPostX P fn R) { tmps := args ++ Array.replicate (fn.ntmps - args.size) undef, defers := [] } w) : Calls P f args w R := by
  intro cs
  let b : Frame := { (default : Frame) with fn := f, kind := .normal }
  have henter : Frame.enter P f args .normal =
      b.at { tmps := args ++ Array.replicate (fn.ntmps - args.size) undef, defers := [] } [.code c] := by
    simp [Frame.enter, Frame.at, hf, hb, b]
  obtain ⟨e, a', w', hq, harr⟩ := h b [] cs hG
  rw [← henter] at harr
  cases e with
  | normal =>
    obtain ⟨e', w'', fr', hR, hs, hfn, hl⟩ := leaves_stepsX a'.defers .returning w' { b.at a' [] with mode := .returning } cs rfl rfl rfl hf rfl hq
    exact ⟨e', w'', fr', hR, Comes.of_steps (Steps.trans harr (.one step_end)) hs, hfn, hl⟩
  | ret =>
    obtain ⟨todo, hs₀⟩ := harr
    obtain ⟨e', w'', fr', hR, hs, hfn, hl⟩ := leaves_stepsX a'.defers .returning w' { b.at a' todo with mode := .returning } cs rfl rfl rfl hf rfl hq
    exact ⟨e', w'', fr', hR, Comes.of_steps hs₀ hs, hfn, hl⟩
  | panic chain =>
    obtain ⟨todo, hs₀⟩ := harr
    obtain ⟨e', w'', fr', hR, hs, hfn, hl⟩ := leaves_stepsX a'.defers (.panicking chain) w' { b.at a' todo with mode := .panicking chain } cs rfl rfl rfl hf rfl hq
    exact ⟨e', w'', fr', hR, Comes.of_steps hs₀ hs, hfn, hl⟩
  | exit id => exact hq.elim
  | goto l => exact hq.elim
  | outgrown => exact ⟨.outgrown, w', b, hq, harr.resolve_left (by simp [b]), rfl, trivial⟩
def rangePostG (P : Program) (G : FuncId → Prop) (l : Nat) (Q : Exit → Act → World → Prop) (a' : Act) : Ending → World → Prop
  | .returned _, w₃ => ∃ jump w₄, (Instr.endLoop l).run P w₃ = .ok jump w₄ ∧
      (match jump with
       | none => Q .normal a' w₄
       | some c => wpG P G c Q a' w₄)
  | .panicked chain, w₃ => Q (.panic chain) a' w₃
  | .outgrown, _ => False
theorem wpG_rangeFunc {g : Operand} {ps : Array Tmp} {assign body : Code}
    (h : ∀ fn, G fn → ∃ (l : Nat) (mark : List Deferred) (w₁ : World) (d : Deferred) (w₁' : World) (f : FuncId) (args : Array Value) (w₂ : World),
      (Instr.enterLoop fn a.tmps ps assign body none).run P w = .ok (l, mark) w₁ ∧
      (resolve a.eval (rangeCall g l) 0).run P w₁ = .ok d w₁' ∧
      (invoke d.target d.args).run P w₁' = .ok (.enter f args) w₂ ∧
      Calls P f args w₂ (rangePostG P G l Q { a with defers := mark ++ a.defers })) :
    wpG P G (Code.rangeFunc g ps assign body) Q a w := by
  intro b k cs hG
  obtain ⟨l, mark, w₁, d, w₁', f, args, w₂, he, hres, hinv, hcall⟩ := h b.fn hG
  obtain ⟨b0, hb0⟩ : ∃ b0 : Frame, b0 = { b with roundOf := none } := ⟨_, rfl⟩
  have hr0 : b0.roundOf = none := by rw [hb0]
  have hat : ∀ a k, b0.atR a k = b.at a k := fun a k => by rw [Frame.atR_of_none hr0, hb0]; rfl
  have henter := stepR_rangeFunc (P := P) (b := b0) (a := a) (k := k) (cs := cs) (w := w) (by rw [hr0, hb0]; exact he) hres hinv
  obtain ⟨e, w₃, fr, hR, hsteps, hfn, hleave⟩ := hcall (b0.atR { a with defers := mark ++ a.defers } (.inRangeFunc l :: k) :: cs)
  rw [hat] at henter
  cases e with
  | outgrown => exact hR.elim
  | returned v =>
    obtain ⟨jump, w₄, hend, hj⟩ := hR
    have sback : Steps P (lone (b.at a (.code (.rangeFunc g ps assign body) :: k)) cs w) (lone (b.at { a with defers := mark ++ a.defers } ((jump.map Item.code).toList ++ k)) cs w₄) := by
      have s2 : step P (lone fr (b0.atR { a with defers := mark ++ a.defers } (.inRangeFunc l :: k) :: cs) w₃) = .next (lone (b0.atR { a with defers := mark ++ a.defers } (.endRangeFunc l :: k)) cs w₃) := by
        rw [← finish_atR_inRangeFunc l v]; exact step_leave_returned hleave
      have s3 := stepR_endRangeFunc (P := P) (b := b0) (a := { a with defers := mark ++ a.defers }) (k := k) (cs := cs) hend
      rw [hat _ ((jump.map Item.code).toList ++ k)] at s3
      exact .head henter (Steps.trans hsteps (.head s2 (.one s3)))
    cases jump with
    | none => exact ⟨.normal, _, w₄, hj, sback⟩
    | some c =>
      obtain ⟨e', a'', w₅, hq, harr⟩ := hj b k cs hG
      exact ⟨e', a'', w₅, hq, .of_steps sback harr⟩
  | panicked chain =>
    refine ⟨.panic chain, _, w₃, hR, .inRangeFunc l :: k, .head henter (Steps.trans hsteps (.one ?_))⟩
    have := step_leave_panicked (P := P) (c := b0.atR { a with defers := mark ++ a.defers } (.inRangeFunc l :: k)) (cs := cs) hleave
    rw [Frame.raise_atR, hat] at this
    rw [hat]
    exact this
def roundPostV (P : Program) (l : Nat) (f : FuncId) (R : Ending → World → Prop) : Exit → Act → World → Prop
  | .panic ch, a, w => ∃ fn, P.funcs[f]? = some fn ∧ LeavesX P fn a.tmps (fun e w' => e = .panicked ch ∧ R e w') a.defers (.panicking ch) w
  | .normal, _, w => ∃ v w', (Instr.endRound l none).run P w = .ok v w' ∧ R (.returned v) w'
  | .ret, _, w => ∃ v w', (Instr.endRound l (some .ret)).run P w = .ok v w' ∧ R (.returned v) w'
  | .exit id, _, w => ∃ v w', (Instr.endRound l (some (.exit id))).run P w = .ok v w' ∧ R (.returned v) w'
  | .goto _, _, _ => False
  | .outgrown, _, _ => False
theorem roundIn_of {l : Nat} {f : FuncId} {tmps : Array Value} {assign body : Code} {w : World} {R : Ending → World → Prop}
    (h : assign.wpIn (fen (some l)) 0 P (Exit.then (fun a₁ w₁ => ∃ w₂, (Instr.beginRound l).run P w₁ = .ok () w₂ ∧ body.wpIn (fen (some l)) 0 P (roundPostV P l f R) a₁ w₂) (fun _ _ _ => False))
      { tmps := tmps, defers := [] } w) :
    RoundIn Fence.wide 0 P l f tmps assign body w R := by
  refine ⟨trivial, fun c cs hr => ?_⟩
  let b : Frame := { (default : Frame) with fn := f, kind := .normal, roundOf := some l }
  have hb0 : Frame.round l f tmps assign body .normal = b.atR { tmps := tmps, defers := [] } [.code assign, .beginRound, .code body] := by
    simp [Frame.round, Frame.atR, b]
  obtain ⟨e, a₁, w₁, hq, harr⟩ := h b [.beginRound, .code body] (c :: cs) rfl trivial (fen_room _ _)
  rw [← hb0] at harr
  have w_ : ∀ {m m'}, StepsIn (Machine.fenced P (fen (some l))) P m m' → Steps P m m' := fun h => h.steps
  cases e with
  | normal =>
    obtain ⟨w₂, hbr, hbody⟩ := hq
    have s1 : Steps P (lone (b.atR a₁ [.beginRound, .code body]) (c :: cs) w₁) (lone (b.atR a₁ [.code body]) (c :: cs) w₂) := .one (stepR_beginRound rfl hbr)
    obtain ⟨e₂, a₂, w₃, hq₂, harr₂⟩ := hbody b [] (c :: cs) rfl trivial (fen_room _ _)
    cases e₂ with
    | normal =>
      obtain ⟨v, w₄, hend, hR⟩ := hq₂
      exact ⟨.returned v, w₄, hR, comesIn_wide.2 (((w_ harr).trans s1).trans ((w_ harr₂).trans (.one (stepR_round_end rfl rfl hend))))⟩
    | ret =>
      obtain ⟨v, w₄, hend, hR⟩ := hq₂
      obtain ⟨k₁, hs⟩ := harr₂.2 rfl
      exact ⟨.returned v, w₄, hR, comesIn_wide.2 (((w_ harr).trans s1).trans ((w_ hs).trans (.one (stepR_round_ret rfl rfl hend))))⟩
    | exit id =>
      obtain ⟨v, w₄, hend, hR⟩ := hq₂
      obtain ⟨k₁, hk, hs⟩ := harr₂.2 rfl rfl
      exact ⟨.returned v, w₄, hR, comesIn_wide.2 (((w_ harr).trans s1).trans ((w_ hs).trans (.one (stepR_round_exit rfl rfl hk hend))))⟩
    | goto t => exact hq₂.elim
    | panic chain =>
      obtain ⟨fn, hfn, hl⟩ := hq₂
      obtain ⟨todo, hs⟩ := harr₂
      obtain ⟨e', w'', fr', ⟨he', hR'⟩, hs', hfn', hl'⟩ := leaves_stepsX a₂.defers (.panicking chain) w₃ { b.atR a₂ todo with mode := .panicking chain } (c :: cs) rfl rfl rfl hfn rfl hl
      subst he'
      exact ⟨.panicked chain, w'', hR', comesIn_wide.2 (((w_ harr).trans s1).trans ((w_ hs).trans (Steps.trans hs' (.one (step_leave_panicked hl')))))⟩
    | outgrown => exact hq₂.elim
  | exit id => exact hq.elim
  | goto l => exact hq.elim
  | ret => exact hq.elim
  | panic chain => exact hq.elim
  | outgrown => exact hq.elim
end
end Go.Vx
namespace Go.Vx
open Go.RowKit
section
variable {P : Program} {T : Tab}
structure Yields (P : Program) (T : Tab) (l B : Nat) (xs : List (List D)) (J : Option Nat → Vw → World → Prop) (Jp : List PanicEntry → World → Prop) : Prop where
  vok : ∀ k V W, J k V W → VOk V W
  size : ∀ k V W, J k V W → B ≤ W.heap.size
  grow : ∀ k V V' W W', J k V W → Ext W W' → VLe V V' → VOk V' W' → (∀ p v, V' p = some v → V p = some v ∨ W.heap.size ≤ p.block) → J k V' W'
  shut : ∀ k V W D, J k V W → B ≤ D → W.heap[D]? = some (.deferred (some [])) → J k V (W.putObj D (.deferred none))
  shutp : ∀ c W D, Jp c W → B ≤ D → W.heap[D]? = some (.deferred (some [])) → Jp c (W.putObj D (.deferred none))
  round : ∀ (k : Nat) x V W (vs : List Value), xs[k]? = some x → J (some k) V W → vs.length = x.length → (∀ (j : Nat) v d, vs[j]? = some v → x[j]? = some d → RI (szOf T) V v d) →
    ∀ E : List (Nat × Obj), (∀ x ∈ E, B ≤ x.1 ∧ W.heap[x.1]? = some x.2 ∧ noC x.2) →
    ∃ fn tmps assign body, (Instr.yield l vs.toArray).run P W = .ok (.round l fn tmps assign body) W ∧
      RoundIn Fence.wide 0 P l fn tmps assign body W fun e W' => (∀ x ∈ E, W'.heap[x.1]? = some x.2) ∧
        ((∃ V', VLe V V' ∧ ((e = .returned (.bool true) ∧ J (some (k + 1)) V' W') ∨ (e = .returned (.bool false) ∧ J none V' W'))) ∨ ∃ c, e = .panicked c ∧ Jp c W')
structure YSpec (P : Program) (T : Tab) (f : FuncId) (cap : List D) (xs : List (List D)) : Prop where
  call : ∀ args w, (callFunc f args).run P w = .ok (.enter f args) w
  run : ∀ (V : Vw) (w : World) (args : Array Value), args.size = cap.length → (∀ (j : Nat) v d, args[j]? = some v → cap[j]? = some d → RI (szOf T) V v d) →
    ∀ l J Jp, Yields P T l w.heap.size xs J Jp → J (some 0) V w →
    Calls P f (#[.func (.yield l) #[] #[]] ++ args) w fun e w' => ((∃ v, e = .returned v) ∧ ∃ V', J (some xs.length) V' w' ∨ J none V' w') ∨ ∃ c, e = .panicked c ∧ Jp c w'
structure YSpecI (P : Program) (T : Tab) (f : FuncId) (cap : List D) (xs : List (List D)) (I : Nat → Prop) : Prop where
  call : ∀ args w, (callFunc f args).run P w = .ok (.enter f args) w
  run : ∀ (V : Vw) (w : World) (args : Array Value), args.size = cap.length → (∀ (j : Nat) v d, args[j]? = some v → cap[j]? = some d → RI (szOf T) V v d) →
    ∀ l J Jp, Yields P T l w.heap.size xs J Jp → (∀ k V W, J (some k) V W → I k) → J (some 0) V w →
    Calls P f (#[.func (.yield l) #[] #[]] ++ args) w fun e w' => ((∃ v, e = .returned v) ∧ ∃ V', J (some xs.length) V' w' ∨ J none V' w') ∨ ∃ c, e = .panicked c ∧ Jp c w'
theorem YSpec.toI {f : FuncId} {cap : List D} {xs : List (List D)} (h : YSpec P T f cap xs) (I : Nat → Prop) : YSpecI P T f cap xs I := ⟨h.call, fun V w args a b l J Jp hY _ hJ => h.run V w args a b l J Jp hY hJ⟩
variable {w0 w w' : World} {V V' : Vw} {μ : List Nat} {ω : List Value} {box : List (List D)} {row : Rows} {s : St} {a : Act} {sz : TypeId → Nat}
theorem Mem.grow {F : Fr} (h : Mem sz w0 F V μ ω box row w) (he : Ext w w') (hV : VLe V V') (hok : VOk V' w') (hn : ∀ p v, V' p = some v → V p = some v ∨ w.heap.size ≤ p.block) : Mem sz w0 F V' μ ω box row w' := by
  have h1 := h.ext he
  refine ⟨h1.below, hok, fun p v hp => hV p v (h.vle p v hp), fun p hp => ?_, h1.bl, fun i g cs a b => ?_, h1.rl, fun r v e xs a b => ?_, h1.uniq, h1.new, fun p u l hp ho => ?_⟩
  · rw [← h.vold p hp]
    cases hv : V' p with
    | none =>
      cases hv2 : V p with
      | none => rfl
      | some u => rw [hV p u hv2] at hv; cases hv
    | some u =>
      rcases hn p u hv with hq | hq
      · exact hq.symm
      · have := h.below.size; omega
  · obtain ⟨vs, t, c1, c2, c3, c4, c5⟩ := h1.hbox i g cs a b
    exact ⟨vs, t, c1, c2, c3, fun j v d e1 e2 => (c4 j v d e1 e2).mono hV (.refl _) (.refl _), c5⟩
  · obtain ⟨vals, c1, c2, c3, c4⟩ := h1.hrow r v e xs a b
    exact ⟨vals, c1, c2, c3, fun i rw j d e1 e2 => let ⟨u, x1, x2⟩ := c4 i rw j d e1 e2; ⟨u, x1, x2.mono hV⟩⟩
  · have hg := (h.new l p.block ho).2
    rcases hn p u hp with hq | hq
    · exact h.vmut p u l hq ho
    · omega
theorem Sim.grow {F : Fr} (h : Sim sz w0 F V μ ω s a w) (he : Ext w w') (hV : VLe V V') (hok : VOk V' w') (hn : ∀ p v, V' p = some v → V p = some v ∨ w.heap.size ≤ p.block) : Sim sz w0 F V' μ ω s a w' :=
  ⟨h.tmps, h.defers.ext he, fun t => (h.env t).mono hV (.refl _) (.refl _), h.mem.grow he hV hok hn⟩
theorem Sim.turn {V0 : Vw} {gv : Nat → Value} {df : List Deferred} {l : Nat} {o : Obj} {R : List (Nat × Obj)} (h : Sim sz w0 ⟨V0, gv, df, (l, o) :: R⟩ V μ ω s a w) (o' : Obj) (hR : ∀ x ∈ R, x.1 ≠ l) (ho' : noC o') :
    Sim sz w0 ⟨V0, gv, df, (l, o') :: R⟩ V μ ω s a (w.putObj l o') := by
  obtain ⟨h1, h2, h3⟩ := h.defers.kept (l, o) (by simp)
  have hlt : l < w.heap.size := (Array.getElem?_eq_some_iff.1 h1).1
  refine ⟨h.tmps, ⟨?_, fun x hx => ?_⟩, h.env, (h.mem.putOther o' h1 h2 h3).fr rfl⟩
  · obtain ⟨ms, e1, e2, e3⟩ := h.defers.marks
    refine ⟨ms, e1, e2, fun D hD => ?_⟩
    obtain ⟨k1, k2, k3⟩ := e3 D hD
    have hne : l ≠ D := k3 (l, o) (by simp)
    refine ⟨(World.putObj_heap_other (Ne.symm hne)).trans k1, k2, fun x hx => ?_⟩
    rcases List.mem_cons.1 hx with rfl | hx
    · exact hne
    · exact k3 x (List.mem_cons_of_mem _ hx)
  · rcases List.mem_cons.1 hx with rfl | hx
    · exact ⟨World.putObj_heap_same hlt, ho', h3⟩
    · obtain ⟨k1, k2⟩ := h.defers.kept x (List.mem_cons_of_mem _ hx)
      exact ⟨(World.putObj_heap_other (hR x hx)).trans k1, k2⟩
theorem Sim.unkeep {V0 : Vw} {gv : Nat → Value} {df : List Deferred} {x : Nat × Obj} {R : List (Nat × Obj)} (h : Sim sz w0 ⟨V0, gv, df, x :: R⟩ V μ ω s a w) : Sim sz w0 ⟨V0, gv, df, R⟩ V μ ω s a w := by
  refine ⟨h.tmps, ⟨?_, fun y hy => h.defers.kept y (List.mem_cons_of_mem _ hy)⟩, h.env, h.mem.fr rfl⟩
  obtain ⟨ms, e1, e2, e3⟩ := h.defers.marks
  exact ⟨ms, e1, e2, fun D hD => ⟨(e3 D hD).1, (e3 D hD).2.1, fun y hy => (e3 D hD).2.2 y (List.mem_cons_of_mem _ hy)⟩⟩
theorem Sim.putOld {F : Fr} (h : Sim sz w0 F V μ ω s a w) {D : Nat} {o : Obj} (o' : Obj) (hD : w.heap[D]? = some o) (hn : noC o) (hb : w0.heap.size ≤ D) (hk : ∀ x ∈ F.kp, x.1 ≠ D) (hm : ∀ ms : List Nat, a.defers = ms.map mkD ++ F.df → D ∉ ms) :
    Sim sz w0 F V μ ω s a (w.putObj D o') := by
  refine ⟨h.tmps, ⟨?_, fun x hx => ⟨(World.putObj_heap_other (hk x hx)).trans (h.defers.kept x hx).1, (h.defers.kept x hx).2⟩⟩, h.env, h.mem.putOther o' hD hn hb⟩
  obtain ⟨ms, e1, e2, e3⟩ := h.defers.marks
  refine ⟨ms, e1, e2, fun E hE => ⟨(World.putObj_heap_other (k := E) (r := D) fun e => hm ms e1 (e ▸ hE)).trans (e3 E hE).1, (e3 E hE).2⟩⟩
theorem Mem.base {F F' : Fr} (h : Mem sz w0 F V μ ω box row w) (h1 : VLe F'.V F.V) (h2 : ∀ p, p.block < w0.heap.size → F.V p = F'.V p) : Mem sz w0 F' V μ ω box row w :=
  ⟨h.below, h.vok, fun p v hp => h.vle p v (h1 p v hp), fun p hp => (h.vold p hp).trans (h2 p hp), h.bl, h.hbox, h.rl, h.hrow, h.uniq, h.new, h.vmut⟩
theorem Mem.rebase {F F' : Fr} (h : Mem sz w0 F V μ ω box row w) (h1 : F'.V = V) : Mem sz w0 F' V μ ω box row w :=
  ⟨h.below, h.vok, by rw [h1]; exact fun _ _ h => h, fun p _ => by rw [h1], h.bl, h.hbox, h.rl, h.hrow, h.uniq, h.new, h.vmut⟩
def putPs : List Nat → List D → List (Nat × D) → (List (Nat × D) → Prop) → Prop
  | p :: ps, x :: xs, env, K => x.force fun x => putPs ps xs ((p, x) :: env) K
  | [], [], env, K => K env
  | _, _, _, _ => False
def cutE (n : Nat) : List (Nat × D) → (List (Nat × D) → Prop) → Prop
  | [], K => K []
  | (t, d) :: r, K => match Nat.blt t n with | true => cutE n r fun r => K ((t, d) :: r) | false => cutE n r K
def inRoundK (ps : List Nat) (x : List D) (s : St) (K : St → Prop) : Prop :=
  match s with
  | ⟨env, box, row, n⟩ => shE n env fun env2 => cutE n env fun env1 => catK env1 env2 fun env2 => putPs ps x env2 fun env2 => K ⟨env2, box, row, n⟩
def offRoundK (s : St) (K : St → Prop) : Prop := match s with | ⟨env, box, row, n⟩ => unE n env fun env => K ⟨env, box, row, n⟩
theorem cutE_eq (n : Nat) : ∀ (env : List (Nat × D)) (K : List (Nat × D) → Prop), cutE n env K → K (env.filter fun x => x.1 < n)
  | [], K, h => h
  | (t, d) :: r, K, h => by
    unfold cutE at h
    split at h
    · rename_i hb
      have := cutE_eq n r _ h
      rw [List.filter_cons_of_pos (by simpa using blt_true hb)]
      exact this
    · rename_i hb
      have := cutE_eq n r _ h
      rw [List.filter_cons_of_neg (by
        simp only [decide_eq_true_eq]
        intro hlt
        have : Nat.blt t n = true := by unfold Nat.blt; rw [Nat.ble_eq]; exact hlt
        rw [hb] at this
        cases this)]
      exact this
theorem look_filter (env : List (Nat × D)) (n t : Nat) : look (env.filter fun x => x.1 < n) t = if t < n then look env t else .u := by
  induction env with
  | nil => simp [look]
  | cons x r ih =>
    obtain ⟨k, d⟩ := x
    by_cases hk : k < n
    · rw [List.filter_cons_of_pos (by simpa using hk)]
      unfold look
      cases hb : Nat.beq k t with
      | true =>
        have := beq_nat_true hb
        subst this
        rw [if_pos hk]
      | false => exact ih
    · rw [List.filter_cons_of_neg (by simpa using hk), ih]
      split
      · rename_i ht
        show look r t = (match Nat.beq k t with | true => d | false => look r t)
        cases hb : Nat.beq k t with
        | true => have := beq_nat_true hb; omega
        | false => rfl
      · rfl
theorem putPs_sound {F : Fr} {n : Nat} : ∀ (ps : List Nat) (x : List D) (env : List (Nat × D)) (a : Act) (vs : List Value) (K : List (Nat × D) → Prop), (∀ p ∈ ps, p < n) → a.tmps.size = n → vs.length = x.length → (∀ (j : Nat) v d, vs[j]? = some v → x[j]? = some d → RS sz V μ ω v d) →
    (∀ t, RS sz V μ ω (slotV F n a t) (look env t)) → putPs ps x env K →
    ∃ env', K env' ∧ (List.foldl (fun tmps (x : Nat × Value) => tmps.setIfInBounds x.1 x.2) a.tmps (ps.zip vs)).size = n ∧ ∀ t, RS sz V μ ω (slotV F n { a with tmps := List.foldl (fun tmps (x : Nat × Value) => tmps.setIfInBounds x.1 x.2) a.tmps (ps.zip vs) } t) (look env' t)
  | [], [], env, a, vs, K, _, hn, hl, _, he, h => by
    obtain rfl : vs = [] := List.eq_nil_of_length_eq_zero hl
    exact ⟨env, h, by simpa using hn, by simpa using he⟩
  | [], _ :: _, _, _, _, _, _, _, _, _, _, h => h.elim
  | _ :: _, [], _, _, _, _, _, _, _, _, _, h => h.elim
  | p :: ps, d :: x, env, a, v :: vs, K, hp, hn, hl, hR, he, h => by
    simp only [putPs, D.force_eq] at h
    exact putPs_sound ps x ((p, d) :: env) (a.put (some p) v) vs K (fun q hq => hp q (by simp [hq])) (by simpa [Act.put] using hn) (by simpa using hl) (fun j u e h1 h2 => hR (j + 1) u e (by simpa using h1) (by simpa using h2))
      (fun t => look_put hn (hp p (by simp)) (hR 0 v d rfl rfl) he) h
  | _ :: _, _ :: _, _, _, [], _, _, _, hl, _, _, _ => by simp at hl
theorem zip_fold (ps : Array Tmp) (vs : List Value) (A : Array Value) : (ps.zip vs.toArray).foldl (fun tmps (t, a) => tmps.setIfInBounds t a) A = List.foldl (fun tmps (x : Nat × Value) => tmps.setIfInBounds x.1 x.2) A (ps.toList.zip vs) := by
  obtain ⟨ps⟩ := ps
  simp [List.zip_toArray]
theorem look_round {env : List (Nat × D)} {n : Nat} {F F' : Fr} {a : Act} (he : ∀ t, RS sz V μ ω (slotV F n a t) (look env t)) (hF : ∀ t, F'.gv t = slotV F n a (t - n)) (ds : List Deferred) :
    ∀ t, RS sz V μ ω (slotV F' n { tmps := a.tmps, defers := ds } t) (look (env.filter (fun x => x.1 < n) ++ env.map fun x => (x.1 + n, x.2)) t) := by
  intro t
  by_cases ht : t < n
  · have h1 := he t
    unfold slotV at h1 ⊢
    rw [if_pos ht] at h1 ⊢
    have h2 : look (env.filter (fun x => x.1 < n) ++ env.map fun x => (x.1 + n, x.2)) t = look env t := by
      by_cases hx : ∃ x ∈ env.filter (fun x => x.1 < n), x.1 = t
      · rw [look_append_in _ _ _ hx, look_filter, if_pos ht]
      · rw [look_append _ _ _ (fun x hm e => hx ⟨x, hm, e⟩), look_shift_lt _ _ _ ht]
        have h3 := look_filter env n t
        rw [if_pos ht] at h3
        rw [← h3]
        have : ∀ l : List (Nat × D), (¬ ∃ x ∈ l, x.1 = t) → look l t = .u := by
          intro l
          induction l with
          | nil => intro _; rfl
          | cons y r ih =>
            intro hno
            unfold look
            cases hb : Nat.beq y.1 t with
            | true => exact absurd ⟨y, by simp, beq_nat_true hb⟩ hno
            | false => exact ih fun ⟨x, hm, e⟩ => hno ⟨x, by simp [hm], e⟩
        rw [this _ hx]
    rw [h2]
    exact h1
  · unfold slotV
    rw [if_neg ht, hF]
    rw [look_append _ _ _ (fun x hm => by
      have := (List.mem_filter.1 hm).2
      simp only [decide_eq_true_eq] at this
      omega)]
    have e2 : t = (t - n) + n := by omega
    rw [e2, look_shift, ← e2]
    exact he (t - n)
end
end Go.Vx
namespace Go.Vx
open Go.RowKit
theorem mkD_inj {l m : List Nat} (h : l.map mkD = m.map mkD) : l = m := by
  induction l generalizing m with
  | nil => cases m with
    | nil => rfl
    | cons _ _ => simp at h
  | cons x l ih => cases m with
    | nil => simp at h
    | cons y m =>
      simp only [List.map_cons, List.cons.injEq] at h
      obtain ⟨h1, h2⟩ := h
      simp only [mkD, Deferred.mk.injEq, Target.collected.injEq, and_true] at h1
      rw [h1, ih h2]
section
variable {P : Program} {T : Tab} {G : FuncId → Prop} {Q : Exit → St → Prop}
def rndQ (P : Program) (G : FuncId → Prop) (Q : Exit → St → Prop) (L : List Nat) (nr nb : Nat) (s1 : St) (p : Prop) : Exit → St → Prop
  | .normal, s' => p ∧ offRoundK s' fun s' => keepK L nr nb s' (· = s1)
  | .ret, s' => offRoundK s' (Q .ret)
  | .exit id, s' => offRoundK s' (Q (.exit id))
  | .panic c, s' => (∀ fn, G fn → (P.funcs[fn]?).isSome = true) ∧ offRoundK s' (Q (.panic c))
  | _, _ => False
theorem RS.fn_ {sz : TypeId → Nat} {V : Vw} {μ : List Nat} {ω : List Value} {v : Value} {f : FuncId} {cap : List D} (h : RS sz V μ ω v (.fn f [] cap)) : ∃ us : Array Value, v = .func (.func f) #[] us ∧ us.size = cap.length ∧ ∀ (j : Nat) v d, us[j]? = some v → cap[j]? = some d → RI sz V v d := by
  cases h with
  | imm _ _ h =>
    cases h with
    | fn f first cap vs us h1 h2 hR1 hR2 =>
      obtain rfl : vs = #[] := Array.eq_empty_of_size_eq_zero h1
      exact ⟨us, rfl, h2, hR2⟩
theorem Sim.offRound {sz : TypeId → Nat} {w0 w : World} {V0 V V' : Vw} {gv : Nat → Value} {df : List Deferred} {kp : List (Nat × Obj)} {F : Fr} {μ : List Nat} {ω : List Value} {a a' : Act} {n : Nat} {x : Nat × Obj} {msA : List Nat} {s' : St} {K : St → Prop}
    (h : Sim sz w0 F V' μ ω s' a w) (hF : F.V = V) (hg : ∀ t, F.gv t = slotV ⟨V0, gv, df, kp⟩ n a' (t - n)) {E : List (Nat × Obj)} (hk : F.kp = x :: (kp ++ keptOf msA ++ E)) (hV : VLe V0 V) (hVo : ∀ p, p.block < w0.heap.size → V p = V0 p) (hn : a'.tmps.size = n)
    (hd : a'.defers = msA.map mkD ++ df) (hm1 : msA.Nodup) (hm2 : ∀ D ∈ msA, w0.heap.size ≤ D ∧ (∀ y ∈ kp, y.1 ≠ D) ∧ x.1 ≠ D) (hn2 : s'.n = n) (hK : offRoundK s' K) :
    ∃ s2, K s2 ∧ s2.n = n ∧ Sim sz w0 ⟨V0, gv, df, x :: kp⟩ V' μ ω s2 a' w := by
  obtain ⟨env, box, row, m⟩ := s'
  dsimp only at hn2
  subst hn2
  simp only [offRoundK, unE_eq] at hK
  refine ⟨_, hK, rfl, hn, ⟨⟨msA, hd, hm1, fun D hD => ⟨?_, (hm2 D hD).1, fun y hy => ?_⟩⟩, fun y hy => h.defers.kept y ?_⟩, fun t => ?_, h.mem.base (by rw [hF]; exact hV) (by rw [hF]; exact hVo)⟩
  · exact (h.defers.kept (D, .deferred (some [])) (by rw [hk]; exact List.mem_cons_of_mem _ (List.mem_append_left _ (List.mem_append_right _ (List.mem_map.2 ⟨D, hD, rfl⟩))))).1
  · rcases List.mem_cons.1 hy with rfl | hy
    · exact (hm2 D hD).2.2
    · exact (hm2 D hD).2.1 y hy
  · rw [hk]
    rcases List.mem_cons.1 hy with rfl | hy
    · simp
    · exact List.mem_cons_of_mem _ (List.mem_append_left _ (List.mem_append_left _ hy))
  · have := h.env (t + m)
    unfold slotV at this
    dsimp only at this
    rw [if_neg (by omega), hg] at this
    dsimp only
    rw [look_unEF]
    have e3 : t + m - m = t := by omega
    rw [e3] at this
    exact this
theorem range_sound {s : St} {g : Operand} {ps : Array Tmp} {assign body : Code} {f : FuncId} {cap : List D} {xs : List (List D)} {n : Nat} (L : List Nat) (nr nb : Nat) (mk : Nat → St) (I : Nat → Prop) (hI : I 0) (hs : keepK L nr nb s (· = mk 0)) (hg : (mk 0).get g = .fn f [] cap)
    (hY : YSpecI P T f cap xs I) (hmk : ∀ k, (mk k).n = n) (hps : ∀ p ∈ ps.toList, p < n)
    (round : ∀ (k : Nat) x, xs[k]? = some x → I k → x.length = ps.size ∧ inRoundK ps.toList x (mk k) fun s1 => OkR P T assign (thenQ (fun s2 => OkR P T body (fun e s3 => s3.n = n ∧ rndQ P G Q L nr nb (mk (k + 1)) (I (k + 1)) e s3) s2) (fun _ _ => False)) s1)
    (done : I xs.length → Q .normal (mk xs.length)) {w0 : World} {V0 : Fr} {V : Vw} {μ : List Nat} {ω : List Value} {a : Act} {w : World} (hS : Sim (szOf T) w0 V0 V μ ω s a w) :
    wpG P G (.rangeFunc g ps assign body) (fun e a' w' => ∃ s' V' μ' ω', Q e s' ∧ Sim (szOf T) w0 V0 V' μ' ω' s' a' w') a w := by
  obtain ⟨_, μ, ω, rfl, hS⟩ := keepK_sound hS hs
  clear hs
  obtain ⟨V00, gv, df, kp⟩ := V0
  refine wpG_rangeFunc ?_
  intro fn hfn
  obtain ⟨rec, hrec⟩ : ∃ rec : LoopState → Option Code → Loop, rec = fun st pe => { state := st, pending := pe, fn, tmps := a.tmps, params := ps, assign, body, defers := w.heap.size } := ⟨_, rfl⟩
  obtain ⟨W1, hW1⟩ : ∃ W1, (w.alloc (.deferred (some []))).alloc (.loop (rec .ready none)) = W1 := ⟨_, rfl⟩
  obtain ⟨a', ha'⟩ : ∃ a' : Act, a' = { a with defers := mkD w.heap.size :: a.defers } := ⟨_, rfl⟩
  obtain ⟨l, hl⟩ : ∃ l, l = w.heap.size + 1 := ⟨_, rfl⟩
  have hL1 : W1.heap[l]? = some (.loop (rec .ready none)) := by
    rw [← hW1, hl]; have := World.alloc_heap_new (w.alloc (.deferred (some []))) (.loop (rec .ready none)); rwa [World.size_alloc] at this
  have hK1 : W1.heap[w.heap.size]? = some (.deferred (some [])) := by
    rw [← hW1]; exact (Below.heap_alloc _ _ _ (by simp)).trans (World.alloc_heap_new w _)
  have hx1 : Ext w W1 := by
    rw [← hW1]; exact (Ext.alloc w _).trans (Ext.alloc _ _)
  obtain ⟨ms0, e1, e2, e3⟩ := hS.defers.marks
  have hsz0 := hS.mem.below.size
  have hkl : ∀ x ∈ kp, x.1 < w.heap.size := fun x hx => (Array.getElem?_eq_some_iff.1 (hS.defers.kept x hx).1).1
  have hml : ∀ D ∈ ms0, D < w.heap.size := fun D hD => (Array.getElem?_eq_some_iff.1 (e3 D hD).1).1
  obtain ⟨msA, hmsA⟩ : ∃ msA, msA = w.heap.size :: ms0 := ⟨_, rfl⟩
  have hda : a'.defers = msA.map mkD ++ df := by rw [ha', hmsA]; simp [e1]
  have hmn : msA.Nodup := by rw [hmsA]; exact List.nodup_cons.2 ⟨fun h => by have := hml _ h; omega, e2⟩
  have hm2 : ∀ D ∈ msA, w0.heap.size ≤ D ∧ (∀ y ∈ kp, y.1 ≠ D) ∧ l ≠ D := by
    intro D hD
    rw [hmsA] at hD
    rcases List.mem_cons.1 hD with rfl | hD
    · exact ⟨hsz0, fun y hy e => by have := hkl y hy; omega, by omega⟩
    · exact ⟨(e3 D hD).2.1, (e3 D hD).2.2, by have := hml D hD; omega⟩
  have hlk : ∀ x ∈ kp, x.1 ≠ l := fun x hx => by have := hkl x hx; omega
  have htm : a'.tmps = a.tmps := by rw [ha']
  have hns : a'.tmps.size = n := by rw [htm, hS.tmps, hmk]
  have noL : ∀ r, noC (.loop r) := fun r _ _ _ e => by cases e
  have hS1 : Sim (szOf T) w0 ⟨V00, gv, df, (l, .loop (rec .ready none)) :: kp⟩ V μ ω (mk 0) a' W1 := by
    have h := hS.ext hx1
    refine ⟨by rw [htm]; exact h.tmps, ⟨⟨msA, hda, hmn, fun D hD => ⟨?_, (hm2 D hD).1, fun x hx => ?_⟩⟩, fun x hx => ?_⟩, fun t => ?_, h.mem.fr rfl⟩
    · rw [hmsA] at hD
      rcases List.mem_cons.1 hD with rfl | hD
      · exact hK1
      · exact hx1.heap (e3 D hD).1
    · rcases List.mem_cons.1 hx with rfl | hx
      · exact (hm2 D hD).2.2
      · exact (hm2 D hD).2.1 x hx
    · rcases List.mem_cons.1 hx with rfl | hx
      · exact ⟨hL1, noL _, by show w0.heap.size ≤ l; omega⟩
      · exact h.defers.kept x hx
    · have := h.env t
      unfold slotV at this ⊢
      rw [htm]
      exact this
  obtain ⟨us, hev, hus, hri⟩ := (by have := hS1.get g; rw [hg] at this; exact this.fn_ : ∃ us : Array Value, a'.eval g = .func (.func f) #[] us ∧ us.size = cap.length ∧ ∀ (j : Nat) v d, us[j]? = some v → cap[j]? = some d → RI (szOf T) V v d)
  have hev : a.eval g = .func (.func f) #[] us := by rw [← hev]; cases g <;> simp [Act.eval, htm]
  obtain ⟨J, hJ⟩ : ∃ J : Option Nat → Vw → World → Prop, J = fun k V W => match k with
    | some k => I k ∧ ∃ μ ω, Sim (szOf T) w0 ⟨V00, gv, df, (l, .loop (rec .ready none)) :: kp⟩ V μ ω (mk k) a' W
    | none => ∃ c s' μ ω, ((c = Code.ret ∧ Q .ret s') ∨ ∃ id, c = Code.exit id ∧ Q (.exit id) s') ∧ Sim (szOf T) w0 ⟨V00, gv, df, (l, .loop (rec .done (some c))) :: kp⟩ V μ ω s' a' W := ⟨_, rfl⟩
  obtain ⟨Jp, hJp⟩ : ∃ Jp : List PanicEntry → World → Prop, Jp = fun c W => ∃ s' V' μ' ω', Q (.panic c) s' ∧ Sim (szOf T) w0 ⟨V00, gv, df, kp⟩ V' μ' ω' s' a' W := ⟨_, rfl⟩
  have hYl : Yields P T l W1.heap.size xs J Jp := by
    have hBl : l < W1.heap.size := (Array.getElem?_eq_some_iff.1 hL1).1
    have hBm : ∀ (D : Nat), W1.heap.size ≤ D → ∀ ms : List Nat, a'.defers = ms.map mkD ++ df → D ∉ ms := fun D hD ms hm hin => by
      rw [hda] at hm
      rw [← mkD_inj (List.append_cancel_right hm), hmsA] at hin
      have hws := hx1.size
      rcases List.mem_cons.1 hin with rfl | hin
      · omega
      · have := hml D hin; omega
    have hBk : ∀ (D : Nat), W1.heap.size ≤ D → ∀ (r : Loop), ∀ x ∈ ((l, Obj.loop r) :: kp), x.1 ≠ D := fun D hD r x hx e => by
      have hws := hx1.size
      rcases List.mem_cons.1 hx with rfl | hx
      · dsimp only at e; omega
      · have := hkl x hx; omega
    have hB0 : ∀ (D : Nat), W1.heap.size ≤ D → w0.heap.size ≤ D := fun D hD => by have := hx1.size; omega
    refine ⟨fun k V W h => ?_, fun k V W h => ?_, fun k V V' W W' h he hV hok hn => ?_, fun k V W D h hD hh => ?_, fun c W D h hD hh => ?_, fun k x V W vs hx h hvl hvr E hE => ?_⟩
    · subst hJ
      cases k with
      | some k => obtain ⟨_, μ, ω, h⟩ := h; exact h.mem.vok
      | none => obtain ⟨c, s', μ, ω, _, h⟩ := h; exact h.mem.vok
    · subst hJ
      have hBs : W1.heap.size = l + 1 := by rw [← hW1, hl]; simp
      have key : ∀ {r : Loop} {W : World}, W.heap[l]? = some (.loop r) → W1.heap.size ≤ W.heap.size := fun h => by have := (Array.getElem?_eq_some_iff.1 h).1; omega
      cases k with
      | some k => obtain ⟨_, μ, ω, h⟩ := h; exact key (h.defers.kept _ (List.mem_cons_self)).1
      | none => obtain ⟨c, s', μ, ω, _, h⟩ := h; exact key (h.defers.kept _ (List.mem_cons_self)).1
    · subst hJ
      cases k with
      | some k => obtain ⟨hik, μ, ω, h⟩ := h; exact ⟨hik, μ, ω, h.grow he hV hok hn⟩
      | none => obtain ⟨c, s', μ, ω, hc, h⟩ := h; exact ⟨c, s', μ, ω, hc, h.grow he hV hok hn⟩
    · subst hJ
      cases k with
      | some k => obtain ⟨hik, μ, ω, h⟩ := h; exact ⟨hik, μ, ω, h.putOld _ hh (fun _ _ _ e => by cases e) (hB0 D hD) (hBk D hD _) (hBm D hD)⟩
      | none => obtain ⟨c, s', μ, ω, hc, h⟩ := h; exact ⟨c, s', μ, ω, hc, h.putOld _ hh (fun _ _ _ e => by cases e) (hB0 D hD) (hBk D hD _) (hBm D hD)⟩
    · subst hJp
      obtain ⟨s', V', μ', ω', hq, h⟩ := h
      exact ⟨s', V', μ', ω', hq, h.putOld _ hh (fun _ _ _ e => by cases e) (hB0 D hD) (fun x hx => hBk D hD (rec .ready none) x (List.mem_cons_of_mem _ hx)) (hBm D hD)⟩
    · have h' : I k ∧ ∃ μ ω, Sim (szOf T) w0 ⟨V00, gv, df, (l, .loop (rec .ready none)) :: kp⟩ V μ ω (mk k) a' W := by rw [hJ] at h; exact h
      obtain ⟨hik, μ, ω, hS⟩ := h'
      obtain ⟨hxl, hround⟩ := round k x hx hik
      have hlW := (hS.defers.kept (l, .loop (rec .ready none)) (by simp)).1
      have hy := run_yield (P := P) (args := vs.toArray) hlW (by rw [hrec]; simp [hvl, hxl])
      rw [hrec] at hy
      rw [zip_fold] at hy
      refine ⟨fn, _, assign, body, hy, ?_⟩
      clear hy
      have hV0 : VLe V00 V := hS.mem.vle
      have hVo : ∀ p, p.block < w0.heap.size → V p = V00 p := hS.mem.vold
      obtain ⟨gv2, hgv2⟩ : ∃ gv2 : Nat → Value, gv2 = fun t => slotV ⟨V00, gv, df, kp⟩ n a' (t - n) := ⟨_, rfl⟩
      obtain ⟨R2, hR2⟩ : ∃ R2, R2 = kp ++ keptOf msA ++ E := ⟨_, rfl⟩
      have hRk : ∀ x ∈ R2, x.1 ≠ l := fun x hx => by
        rw [hR2] at hx
        rcases List.mem_append.1 hx with hx | hx
        · rcases List.mem_append.1 hx with hx | hx
          · exact hlk x hx
          · obtain ⟨D, hD, rfl⟩ := List.mem_map.1 hx; exact fun e => (hm2 D hD).2.2 e.symm
        · have := (hE x hx).1
          have := (Array.getElem?_eq_some_iff.1 hL1).1
          omega
      have hmk' := hmk k
      obtain ⟨env, box, row, n', hmkk⟩ : ∃ env box row n', mk k = ⟨env, box, row, n'⟩ := ⟨_, _, _, _, rfl⟩
      rw [hmkk] at hround hS hmk'
      dsimp only at hmk'
      subst hmk'
      simp only [inRoundK, shE_eq] at hround
      have hround := cutE_eq _ _ _ hround
      rw [catK_eq] at hround
      obtain ⟨env', hk, hsz', henv'⟩ := putPs_sound (F := ⟨V, gv2, [], (l, .loop (rec .ready none)) :: R2⟩) (μ := μ) (ω := ω) ps.toList x _ { tmps := a.tmps, defers := [] } vs _ hps (by rw [← htm]; exact hns) hvl (fun j v d h1 h2 => .imm _ _ (hvr j v d h1 h2))
        (by rw [← htm]; exact look_round hS.env (fun t => by rw [hgv2]; rfl) []) hround
      have hmarks : ∀ D ∈ msA, W.heap[D]? = some (.deferred (some [])) := by
        obtain ⟨ms', f1, f2, f3⟩ := hS.defers.marks
        have f1 : a'.defers = ms'.map mkD ++ df := f1
        rw [hda] at f1
        have := mkD_inj (List.append_cancel_right f1)
        rw [this]
        exact fun D hD => (f3 D hD).1
      have hSr : Sim (szOf T) w0 ⟨V, gv2, [], (l, .loop (rec .ready none)) :: R2⟩ V μ ω ⟨env', box, row, n'⟩ { tmps := List.foldl (fun tmps (x : Nat × Value) => tmps.setIfInBounds x.1 x.2) a.tmps (ps.toList.zip vs), defers := [] } W := by
        refine ⟨hsz', ⟨⟨[], rfl, List.nodup_nil, by simp⟩, fun x hx => ?_⟩, henv', hS.mem.rebase rfl⟩
        rcases List.mem_cons.1 hx with rfl | hx
        · exact hS.defers.kept _ (by simp)
        · rw [hR2] at hx
          rcases List.mem_append.1 hx with hx | hx
          · rcases List.mem_append.1 hx with hx | hx
            · exact hS.defers.kept _ (List.mem_cons_of_mem _ hx)
            · obtain ⟨D, hD, rfl⟩ := List.mem_map.1 hx
              exact ⟨hmarks D hD, (fun _ _ _ e => by cases e), (hm2 D hD).1⟩
          · have := hx1.size
            exact ⟨(hE x hx).2.1, (hE x hx).2.2, by have := (hE x hx).1; omega⟩
      have keepE : ∀ {r : Loop} {V' : Vw} {μ' : List Nat} {ω' : List Value} {s3 : St} {a3 : Act} {W3 : World}, Sim (szOf T) w0 ⟨V, gv2, [], (l, .loop r) :: R2⟩ V' μ' ω' s3 a3 W3 → ∀ x ∈ E, W3.heap[x.1]? = some x.2 := fun h x hx =>
        (h.defers.kept x (List.mem_cons_of_mem _ (by rw [hR2]; exact List.mem_append_right _ hx))).1
      have back : ∀ {r : Loop} {V' : Vw} {μ' : List Nat} {ω' : List Value} {s3 : St} {a3 : Act} {W3 : World} {K : St → Prop}, Sim (szOf T) w0 ⟨V, gv2, [], (l, .loop r) :: R2⟩ V' μ' ω' s3 a3 W3 → s3.n = n' → offRoundK s3 K →
          ∃ s2, K s2 ∧ s2.n = n' ∧ Sim (szOf T) w0 ⟨V00, gv, df, (l, .loop r) :: kp⟩ V' μ' ω' s2 a' W3 := fun h hn hK =>
        h.offRound rfl (fun t => by rw [hgv2]) (by rw [hR2]) hV0 hVo hns hda hmn (fun D hD => hm2 D hD) hn hK
      refine roundIn_of (wpIn_mono (hk.run l w0 _ V μ ω _ W hSr) ?_)
      rintro e a1 W1' ⟨s2, V2, μ2, ω2, hq, hS2⟩
      cases e with
      | normal =>
        have hl2 := (hS2.defers.kept (l, .loop (rec .ready none)) (by simp)).1
        have hS3 := hS2.turn (.loop { rec .ready none with state := .busy }) hRk (noL _)
        refine ⟨_, run_beginRound hl2 (by rw [hrec]), wpIn_mono (OkR.run hq l w0 _ V2 μ2 ω2 a1 _ hS3) ?_⟩
        rintro e a2 W2 ⟨s3, V3, μ3, ω3, ⟨hn3, hq3⟩, hS4⟩
        have hl4 := (hS4.defers.kept (l, .loop { rec .ready none with state := .busy }) (by simp)).1
        cases e with
        | normal =>
          obtain ⟨hik1, hq3⟩ := hq3
          have hq3 : offRoundK s3 (fun s' => keepK L nr nb s' (· = mk (k + 1))) := hq3
          have hS5 := hS4.turn (.loop (rec .ready none)) hRk (noL _)
          obtain ⟨s4, hk4, _, hS6⟩ := back hS5 hn3 hq3
          obtain ⟨_, μ5, ω5, rfl, hS7⟩ := keepK_sound hS6 hk4
          refine ⟨_, W2.putObj l (.loop (rec .ready none)), by have := run_endRound (P := P) none hl4; rw [hrec] at this ⊢; exact this, keepE hS5, .inl ⟨V3, hS4.mem.vle, .inl ⟨rfl, ?_⟩⟩⟩
          rw [hJ]
          exact ⟨hik1, μ5, ω5, hS7⟩
        | ret =>
          have hq3 : offRoundK s3 (Q .ret) := hq3
          have hS5 := hS4.turn (.loop (rec .done (some .ret))) hRk (noL _)
          obtain ⟨s4, hk4, _, hS6⟩ := back hS5 hn3 hq3
          refine ⟨_, W2.putObj l (.loop (rec .done (some .ret))), by have := run_endRound (P := P) (some .ret) hl4; rw [hrec] at this ⊢; exact this, keepE hS5, .inl ⟨V3, hS4.mem.vle, .inr ⟨rfl, ?_⟩⟩⟩
          rw [hJ]
          exact ⟨_, s4, μ3, ω3, .inl ⟨rfl, hk4⟩, hS6⟩
        | exit id =>
          have hq3 : offRoundK s3 (Q (.exit id)) := hq3
          have hS5 := hS4.turn (.loop (rec .done (some (.exit id)))) hRk (noL _)
          obtain ⟨s4, hk4, _, hS6⟩ := back hS5 hn3 hq3
          refine ⟨_, W2.putObj l (.loop (rec .done (some (.exit id)))), by have := run_endRound (P := P) (some (.exit id)) hl4; rw [hrec] at this ⊢; exact this, keepE hS5, .inl ⟨V3, hS4.mem.vle, .inr ⟨rfl, ?_⟩⟩⟩
          rw [hJ]
          exact ⟨_, s4, μ3, ω3, .inr ⟨id, rfl, hk4⟩, hS6⟩
        | panic c =>
          obtain ⟨hval, hq3⟩ := hq3
          obtain ⟨fn', hfn'⟩ := Option.isSome_iff_exists.1 (hval fn hfn)
          obtain ⟨ms2, f1, f2, f3, hS5⟩ := hS4.shut
          obtain ⟨s4, hk4, _, hS6⟩ := back hS5 hn3 hq3
          refine ⟨fn', hfn', ?_⟩
          rw [f1]
          refine leavesX_marks (by simp) ms2 W2 f2 f3 ⟨rfl, keepE hS5, .inr ⟨c, rfl, ?_⟩⟩
          rw [hJp]
          exact ⟨s4, V3, μ3, ω3, hk4, hS6.unkeep⟩
        | goto t => exact hq3.elim
        | outgrown => exact hq3.elim
      | _ => exact hq.elim
  refine ⟨l, [mkD w.heap.size], W1, { target := .fn (.func f) us, args := #[.func (.yield l) #[] #[]] }, W1, f, #[.func (.yield l) #[] #[]] ++ us, W1, ?_, ?_, ?_, ?_⟩
  · rw [← hW1, hrec, hl]; exact run_enterLoop_outer _ _ _ _ _
  · simp only [resolve, hev]
    simp [go_sem]
  · simp [invoke, go_sem, hY.call]
  · refine (hY.run V W1 us hus hri l J Jp hYl (fun k V W h => by rw [hJ] at h; exact h.1) (by rw [hJ]; exact ⟨hI, μ, ω, hS1⟩)).mono ?_
    have haa : ({ a with defers := [mkD w.heap.size] ++ a.defers } : Act) = a' := by rw [ha']; rfl
    rw [haa]
    rintro e w' (⟨⟨v, rfl⟩, V', h⟩ | ⟨c, rfl, h⟩)
    · rw [hJ] at h
      rcases h with ⟨hik, μ', ω', hS'⟩ | ⟨c, s', μ', ω', hc, hS'⟩
      · have hl' := (hS'.defers.kept (l, .loop (rec .ready none)) (by simp)).1
        refine ⟨none, _, by have := run_endLoop (P := P) hl' (by rw [hrec]; simp); rw [hrec] at this; exact this, ?_⟩
        exact ⟨_, V', μ', ω', done hik, (hS'.turn _ hlk (noL _)).unkeep⟩
      · have hl' := (hS'.defers.kept (l, .loop (rec .done (some c))) (by simp)).1
        refine ⟨some c, _, by have := run_endLoop (P := P) hl' (by rw [hrec]; simp); rw [hrec] at this; exact this, ?_⟩
        have hS2 := (hS'.turn (.loop { rec .done (some c) with state := .exhausted }) hlk (noL _)).unkeep
        rw [hrec] at hS2
        rcases hc with ⟨rfl, hq⟩ | ⟨id, rfl, hq⟩
        · exact wpG_of (wp_ret ⟨_, V', μ', ω', hq, hS2⟩)
        · exact wpG_of (wp_exit ⟨_, V', μ', ω', hq, hS2⟩)
    · rw [hJp] at h
      obtain ⟨s', V', μ', ω', hq, hS'⟩ := h
      exact ⟨s', V', μ', ω', hq, hS'⟩
end
end Go.Vx
namespace Go.Vx
open Go.RowKit
section
variable {P : Program} {T : Tab} {G : FuncId → Prop} {Q : Exit → St → Prop} {s : St}
structure OkG (P : Program) (T : Tab) (G : FuncId → Prop) (c : Code) (Q : Exit → St → Prop) (s : St) : Prop where
  run : ∀ (w0 : World) (V0 : Fr) (V : Vw) (μ : List Nat) (ω : List Value) (a : Act) (w : World), Sim (szOf T) w0 V0 V μ ω s a w →
    wpG P G c (fun e a' w' => ∃ s' V' μ' ω', Q e s' ∧ Sim (szOf T) w0 V0 V' μ' ω' s' a' w') a w
theorem OkG.of {c : Code} (h : Ok P T c Q s) : OkG P T G c Q s := ⟨fun w0 V0 V μ ω a w hS => wpG_of (h.run w0 V0 V μ ω a w hS)⟩
theorem OkG.seq {x y : Code} (h : OkG P T G x (thenQ (OkG P T G y Q) Q) s) : OkG P T G (.seq x y) Q s := by
  refine ⟨fun w0 V0 V μ ω a w hS => wpG_seq (wpG_mono (h.run w0 V0 V μ ω a w hS) ?_)⟩
  rintro e a' w' ⟨s', V', μ', ω', hk, hS'⟩
  cases e with
  | normal => exact OkG.run hk w0 V0 V' μ' ω' a' w' hS'
  | _ => exact ⟨s', V', μ', ω', hk, hS'⟩
theorem OkG.block {id : Nat} {c : Code} (h : OkG P T G c (blockQ id Q) s) : OkG P T G (.block id c) Q s := by
  refine ⟨fun w0 V0 V μ ω a w hS => wpG_block (wpG_mono (h.run w0 V0 V μ ω a w hS) ?_)⟩
  rintro e a' w' ⟨s', V', μ', ω', hk, hS'⟩
  cases e with
  | exit id' =>
    simp only [blockQ] at hk
    simp only [Exit.inBlock]
    split at hk
    · rename_i hb
      rw [if_pos (beq_nat_true hb)]
      exact ⟨s', V', μ', ω', hk, hS'⟩
    · rename_i hb
      rw [if_neg (by rintro rfl; rw [Nat.beq_refl] at hb; cases hb)]
      exact ⟨s', V', μ', ω', hk, hS'⟩
  | _ => exact ⟨s', V', μ', ω', hk, hS'⟩
theorem OkG.range {g : Operand} {ps : Array Tmp} {assign body : Code} {f : FuncId} {cap : List D} {xs : List (List D)} {n : Nat} (L : List Nat) (nr nb : Nat) (mk : Nat → St) (I : Nat → Prop) (hI : I 0) (hs : keepK L nr nb s (· = mk 0)) (hg : (mk 0).get g = .fn f [] cap)
    (hY : YSpec P T f cap xs) (hmk : ∀ k, (mk k).n = n) (hps : ∀ p ∈ ps.toList, p < n)
    (round : ∀ (k : Nat) x, xs[k]? = some x → I k → x.length = ps.size ∧ inRoundK ps.toList x (mk k) fun s1 => OkR P T assign (thenQ (fun s2 => OkR P T body (fun e s3 => s3.n = n ∧ rndQ P G Q L nr nb (mk (k + 1)) (I (k + 1)) e s3) s2) (fun _ _ => False)) s1)
    (done : I xs.length → Q .normal (mk xs.length)) : OkG P T G (.rangeFunc g ps assign body) Q s :=
  ⟨fun _ _ _ _ _ _ _ hS => range_sound L nr nb mk I hI hs hg (hY.toI I) hmk hps round done hS⟩
def isFn (P : Program) (f : FuncId) : Prop := (P.funcs[f]?).isSome = true
theorem FSpec.of_okG (hT : TOk P T) {f : FuncId} {fn : Func} {c : Code} (hf : P.funcs[f]? = some fn) (hb : fn.body = some c) (hcall : ∀ args w, (callFunc f args).run P w = .ok (.enter f args) w) {ds : List D} {R : D → Rows → Prop} (hn : ds.length ≤ fn.ntmps)
    (h : OkG P T (isFn P) c (endQ T fn R) ⟨envOf 0 ds, [], [], fn.ntmps⟩) : FSpec P T f ds R := by
  refine ⟨hcall, fun V w args hV hl hR => calls_of_wpG hf hb (G := isFn P) (by unfold isFn; rw [hf]; rfl) ?_⟩
  refine wpG_mono (h.run w ⟨V, fun _ => undef, [], []⟩ V [] [] _ w (start_sim hn hV hl hR)) ?_
  rintro e a' w' ⟨s', V', μ', ω', hq, hS'⟩
  have fin : retK T fn R s' → LeavesX P fn a'.tmps (fun e w' => ∃ V' ω row v' d, e = .returned v' ∧ R d row ∧ RS (szOf T) V' [] ω v' d ∧ Res (szOf T) V V' ω row w w') a'.defers .returning w' := by
    intro hr
    obtain ⟨ms', e1, e2, e3, hS'⟩ := hS'.shut
    rw [e1]
    refine leavesX_marks (by simp) ms' w' e2 e3 ?_
    obtain ⟨v, hv, hr⟩ := retK_leaves (P := P) hT rfl hS' hr
    exact ⟨v, hv, hr⟩
  cases e <;> simp only [endQ] at hq
  · exact fin hq
  · exact fin hq
theorem PSpec.of_okG {f : FuncId} {fn : Func} {c : Code} (hf : P.funcs[f]? = some fn) (hb : fn.body = some c) (hcall : ∀ args w, (callFunc f args).run P w = .ok (.enter f args) w) {ds : List D} {v : Value} (hn : ds.length ≤ fn.ntmps)
    (h : OkG P T (isFn P) c (panQ v) ⟨envOf 0 ds, [], [], fn.ntmps⟩) : PSpec P T f ds v := by
  refine ⟨hcall, fun V w args hV hl hR => calls_of_wpG hf hb (G := isFn P) (by unfold isFn; rw [hf]; rfl) ?_⟩
  refine wpG_mono (h.run w ⟨V, fun _ => undef, [], []⟩ V [] [] _ w (start_sim hn hV hl hR)) ?_
  rintro e a' w' ⟨s', V', μ', ω', hq, hS'⟩
  cases e <;> simp only [panQ] at hq
  subst hq
  obtain ⟨ms', e1, e2, e3, hS'⟩ := hS'.shut
  show LeavesX _ _ _ _ a'.defers _ _
  rw [e1]
  exact leavesX_marks (by simp) ms' w' e2 e3 ⟨rfl, hS'.mem.below⟩
def pbD1 (box : List (List D)) (d : D) (K : D → Prop) : Prop :=
  match d with
  | .bp i off => match box[i]? with | some cs => forceL (cs.drop off) fun cs => K (.ep cs) | none => K .u
  | .own .. => K .u
  | .op .. => K .u
  | .agg cs => match immL cs with | true => K (.agg cs) | false => K .u
  | .tup _ => K .u
  | .fnh .. => K .u
  | d => d.force K
def pbL (box : List (List D)) : List D → (List D → Prop) → Prop
  | [], K => K []
  | d :: r, K => pbD1 box d fun d => pbL box r fun r => K (d :: r)
def pbD (box : List (List D)) (d : D) (K : D → Prop) : Prop :=
  match d with
  | .fnh f x y => pbL box x fun x => pbL box y fun y => K (.fn f x y)
  | d => pbD1 box d K
def pbE (box : List (List D)) : List (Nat × D) → (List (Nat × D) → Prop) → Prop
  | [], K => K []
  | (t, d) :: r, K => pbD box d fun d => pbE box r fun r => K ((t, d) :: r)
def immLL : List (List D) → Bool | [] => true | c :: r => immL c && immLL r
theorem immLL_at : ∀ {l : List (List D)}, immLL l = true → ∀ (i : Nat) c, l[i]? = some c → immL c = true
  | [], _, i, c, h => by simp at h
  | x :: l, hf, i, c, h => by
    simp only [immLL, Bool.and_eq_true] at hf
    cases i with
    | zero => simp at h; subst h; exact hf.1
    | succ i => exact immLL_at hf.2 i c (by simpa using h)
section
variable {sz : TypeId → Nat} {w0 w : World} {V0 : Fr} {V V' : Vw} {μ : List Nat} {ω : List Value} {box : List (List D)} {row : Rows} {a : Act}
theorem RS.fnh_ {v : Value} {f : FuncId} {x y : List D} (h : RS sz V μ ω v (.fnh f x y)) : ∃ vs us : Array Value, v = .func (.func f) vs us ∧ vs.size = x.length ∧ us.size = y.length ∧ (∀ (j : Nat) v d, vs[j]? = some v → x[j]? = some d → RS sz V μ ω v d) ∧
    ∀ (j : Nat) v d, us[j]? = some v → y[j]? = some d → RS sz V μ ω v d := by
  cases h with
  | imm _ _ h => cases h
  | fnh f x y vs us h1 h2 hR1 hR2 => exact ⟨vs, us, rfl, h1, h2, hR1, hR2⟩
theorem pbD1_sound (hM : Mem sz w0 V0 V μ ω box row w) (hi : immLL box = true) (hV : VLe V V') (hp : ∀ (i g : Nat) (off : Nat) v, μ[i]? = some g → w.cell? ⟨g, off, none⟩ = some v → V' ⟨g, off, none⟩ = some v) {d : D} {K : D → Prop} (h : pbD1 box d K) :
    ∃ d', K d' ∧ ∀ v, RS sz V μ ω v d → RI sz V' v d' := by
  unfold pbD1 at h
  split at h
  · rename_i i off
    split at h
    · rename_i cs hcs
      rw [forceL_eq] at h
      refine ⟨_, h, fun v hv => ?_⟩
      obtain ⟨g, hg, rfl⟩ := hv.bp_
      obtain ⟨vs, t, hh, hs, ho, hR, _⟩ := hM.hbox i g cs hg hcs
      refine .ep _ _ (fun j => vs.getD (off + j) undef) (fun j d hd => ?_) fun j d hd => ?_
      · rw [List.getElem?_drop] at hd
        have hlt : off + j < vs.size := by rw [hs]; exact (List.getElem?_eq_some_iff.1 hd).1
        have hvj : vs[off + j]? = some vs[off + j] := Array.getElem?_eq_getElem hlt
        have hadd : (⟨g, off, none⟩ : Addr).add j = ⟨g, off + j, none⟩ := by unfold Addr.add; split <;> simp_all
        rw [hadd]
        have hcell : w.cell? ⟨g, off + j, none⟩ = some vs[off + j] := by rw [cell_of_row w g (off + j) vs t (0, 0) hh, hvj]
        refine ⟨?_, ?_⟩
        · rw [hp i g _ _ hg hcell]
          simp [Array.getD, hlt]
        · rw [show vs.getD (off + j) undef = vs[off + j] by simp [Array.getD, hlt]]
          exact ho _ (by simp)
      · rw [List.getElem?_drop] at hd
        have hlt : off + j < vs.size := by rw [hs]; exact (List.getElem?_eq_some_iff.1 hd).1
        rw [show vs.getD (off + j) undef = vs[off + j] by simp [Array.getD, hlt]]
        exact (imm1_ri (hR _ _ d (Array.getElem?_eq_getElem hlt) hd) (immL_at (immLL_at hi i cs hcs) _ d hd)).mono hV
    · exact ⟨_, h, fun v _ => .u v⟩
  · exact ⟨_, h, fun v _ => .u v⟩
  · exact ⟨_, h, fun v _ => .u v⟩
  · split at h
    · rename_i cs hc
      exact ⟨_, h, fun v hv => (immD_ri hv hc).mono hV⟩
    · exact ⟨_, h, fun v _ => .u v⟩
  · exact ⟨_, h, fun v _ => .u v⟩
  · exact ⟨_, h, fun v _ => .u v⟩
  · rename_i h1 h2 h3 h4 h5 h6
    rw [D.force_eq] at h
    refine ⟨d, h, fun v hv => (imm1_ri hv ?_).mono hV⟩
    cases d <;> first | rfl | (exfalso; first | exact h1 _ _ rfl | exact h2 _ _ rfl | exact h3 _ _ _ _ rfl | exact h4 _ rfl | exact h5 _ rfl | exact h6 _ _ _ rfl)
theorem pbL_sound (hM : Mem sz w0 V0 V μ ω box row w) (hi : immLL box = true) (hV : VLe V V') (hp : ∀ (i g : Nat) (off : Nat) v, μ[i]? = some g → w.cell? ⟨g, off, none⟩ = some v → V' ⟨g, off, none⟩ = some v) : ∀ {l : List D} {K : List D → Prop}, pbL box l K →
    ∃ l', K l' ∧ l'.length = l.length ∧ ∀ (j : Nat) d d' v, l[j]? = some d → l'[j]? = some d' → RS sz V μ ω v d → RI sz V' v d'
  | [], K, h => ⟨[], h, rfl, fun j d d' v h1 => by simp at h1⟩
  | d :: l, K, h => by
    simp only [pbL] at h
    obtain ⟨d', h, hd⟩ := pbD1_sound hM hi hV hp h
    obtain ⟨l', h, hl, hr⟩ := pbL_sound hM hi hV hp h
    refine ⟨d' :: l', h, by simp [hl], fun j e e' v h1 h2 hv => ?_⟩
    cases j with
    | zero => simp at h1 h2; subst h1 h2; exact hd v hv
    | succ j => exact hr j e e' v (by simpa using h1) (by simpa using h2) hv
theorem pbD_sound (hM : Mem sz w0 V0 V μ ω box row w) (hi : immLL box = true) (hV : VLe V V') (hp : ∀ (i g : Nat) (off : Nat) v, μ[i]? = some g → w.cell? ⟨g, off, none⟩ = some v → V' ⟨g, off, none⟩ = some v) {d : D} {K : D → Prop} (h : pbD box d K) :
    ∃ d', K d' ∧ ∀ v, RS sz V μ ω v d → RI sz V' v d' := by
  unfold pbD at h
  split at h
  · obtain ⟨x', h, hx, hxr⟩ := pbL_sound hM hi hV hp h
    obtain ⟨y', h, hy, hyr⟩ := pbL_sound hM hi hV hp h
    refine ⟨_, h, fun v hv => ?_⟩
    obtain ⟨vs, us, rfl, h1, h2, hR1, hR2⟩ := hv.fnh_
    refine .fn _ _ _ vs us (by rw [h1, hx]) (by rw [h2, hy]) (fun j v d' a b => ?_) fun j v d' a b => ?_
    · obtain ⟨hlt, _⟩ := Array.getElem?_eq_some_iff.1 a
      have := List.getElem?_eq_getElem (show j < _ by rw [← h1]; exact hlt)
      exact hxr j _ d' v this b (hR1 j v _ a this)
    · obtain ⟨hlt, _⟩ := Array.getElem?_eq_some_iff.1 a
      have := List.getElem?_eq_getElem (show j < _ by rw [← h2]; exact hlt)
      exact hyr j _ d' v this b (hR2 j v _ a this)
  · exact pbD1_sound hM hi hV hp h
theorem pbE_sound {n : Nat} (hM : Mem sz w0 V0 V μ ω box row w) (hi : immLL box = true) (hV : VLe V V') (hp : ∀ (i g : Nat) (off : Nat) v, μ[i]? = some g → w.cell? ⟨g, off, none⟩ = some v → V' ⟨g, off, none⟩ = some v) : ∀ {env : List (Nat × D)} {K : List (Nat × D) → Prop}, pbE box env K →
    ∃ env', K env' ∧ ∀ t v, RS sz V μ ω v (look env t) → RI sz V' v (look env' t)
  | [], K, h => ⟨[], h, fun t v _ => .u v⟩
  | (k, d) :: env, K, h => by
    simp only [pbE] at h
    obtain ⟨d', h, hd⟩ := pbD_sound hM hi hV hp h
    obtain ⟨env', h, he⟩ := pbE_sound (n := n) hM hi hV hp h
    refine ⟨(k, d') :: env', h, fun t v hv => ?_⟩
    unfold look at hv ⊢
    cases hb : Nat.beq k t with
    | true => rw [hb] at hv; exact hd v hv
    | false => rw [hb] at hv; exact he t v hv
theorem Ok.pubB {c : Code} {env : List (Nat × D)} {box : List (List D)} {row : Rows} {n : Nat} (hi : immLL box = true) (h : pbE box env fun env' => Ok P T c Q ⟨env', [], [], n⟩) : Ok P T c Q ⟨env, box, row, n⟩ := by
  refine ⟨fun w0 V0 V μ ω a w hS => ?_⟩
  have hM := hS.mem
  dsimp only at hM
  classical
  obtain ⟨V', hV'⟩ : ∃ V' : Vw, V' = (fun p => if ∃ i : Nat, μ[i]? = some p.block then w.cell? p else V p : Vw) := ⟨(fun p => if ∃ i : Nat, μ[i]? = some p.block then w.cell? p else V p : Vw), rfl⟩
  have hok : VOk V' w := fun p v hp => by
    rw [hV'] at hp
    dsimp only at hp
    split at hp
    · exact hp
    · exact hM.vok p v hp
  have hle : VLe V V' := fun p v hp => by
    rw [hV']
    dsimp only
    split
    · exact hM.vok p v hp
    · exact hp
  obtain ⟨env', hk, he⟩ := pbE_sound (n := n) hM hi hle (fun i g off v h1 h2 => by rw [hV']; dsimp only; rw [if_pos ⟨i, h1⟩]; exact h2) h
  refine hk.run w0 V0 V' [] [] a w ⟨hS.tmps, hS.defers, fun t => .imm _ _ (he t _ (hS.env t)), ?_⟩
  refine ⟨hM.below, hok, fun p v hp => hle p v (hM.vle p v hp), fun p hp => ?_, rfl, by simp, rfl, by simp, fun l l' g h1 => ?_, fun l g h1 => ?_, fun p u l _ h1 => ?_⟩
  · rw [← hM.vold p hp, hV']
    dsimp only
    rw [if_neg]
    rintro ⟨i, hi⟩
    have := (hM.new (.inl i) p.block hi).1
    omega
  all_goals
    cases l with
    | inl i => simp [Own] at h1
    | inr r => obtain ⟨v, x, h1, _⟩ := h1; simp at h1
end
end
end Go.Vx
namespace Go.Vx
open Go.RowKit
section
variable {P : Program} {T : Tab}
structure PureS (sz : TypeId → Nat) (B : Nat) (V : Vw) (env : List (Nat × D)) (n : Nat) (a : Act) (w : World) : Prop where
  tmps : a.tmps.size = n
  marks : ∃ ms : List Nat, a.defers = ms.map mkD ∧ ms.Nodup ∧ ∀ D ∈ ms, B ≤ D ∧ w.heap[D]? = some (.deferred (some []))
  size : B ≤ w.heap.size
  vok : VOk V w
  env : ∀ t, RS sz V [] [] (slotV ⟨V, fun _ => undef, [], []⟩ n a t) (look env t)
theorem PureS.sim {B : Nat} {V : Vw} {env : List (Nat × D)} {n : Nat} {a : Act} {w : World} (h : PureS (szOf T) B V env n a w) : Sim (szOf T) w ⟨V, fun _ => undef, a.defers, []⟩ V [] [] ⟨env, [], [], n⟩ a w :=
  ⟨h.tmps, .start, h.env, (Mem.start h.vok).fr rfl⟩
def purE : List (Nat × D) → (List (Nat × D) → Prop) → Prop
  | [], K => K []
  | (t, d) :: r, K => match immD d with | true => d.force fun d => purE r fun r => K ((t, d) :: r) | false => purE r fun r => K ((t, .u) :: r)
def purK (n : Nat) (s : St) (K : List (Nat × D) → Prop) : Prop := match s with | ⟨env, _, _, m⟩ => eqN m n <| purE env K
theorem purE_sound {sz : TypeId → Nat} {V : Vw} {μ : List Nat} {ω : List Value} : ∀ {env : List (Nat × D)} {K : List (Nat × D) → Prop}, purE env K → ∃ env', K env' ∧ ∀ t v, RS sz V μ ω v (look env t) → RI sz V v (look env' t)
  | [], K, h => ⟨[], h, fun t v _ => .u v⟩
  | (k, d) :: env, K, h => by
    simp only [purE] at h
    split at h
    · rename_i hd
      rw [D.force_eq] at h
      obtain ⟨env', h, he⟩ := purE_sound (sz := sz) (V := V) (μ := μ) (ω := ω) h
      refine ⟨_, h, fun t v hv => ?_⟩
      unfold look at hv ⊢
      cases hb : Nat.beq k t with
      | true => rw [hb] at hv; exact immD_ri hv hd
      | false => rw [hb] at hv; exact he t v hv
    · obtain ⟨env', h, he⟩ := purE_sound (sz := sz) (V := V) (μ := μ) (ω := ω) h
      refine ⟨_, h, fun t v hv => ?_⟩
      unfold look at hv ⊢
      cases hb : Nat.beq k t with
      | true => exact .u v
      | false => rw [hb] at hv; exact he t v hv
theorem PureS.after {B : Nat} {V V' : Vw} {env : List (Nat × D)} {n : Nat} {a a' : Act} {w w' : World} {μ' : List Nat} {ω' : List Value} {s' : St} {K : List (Nat × D) → Prop} (h : PureS (szOf T) B V env n a w)
    (hS : Sim (szOf T) w ⟨V, fun _ => undef, a.defers, []⟩ V' μ' ω' s' a' w') (hK : purK n s' K) : ∃ env', K env' ∧ PureS (szOf T) B V' env' n a' w' := by
  obtain ⟨env2, box, row, m⟩ := s'
  obtain ⟨hmn, hK2⟩ := eqN_iff hK
  subst hmn
  obtain ⟨env', hk, he⟩ := purE_sound (sz := szOf T) (V := V') (μ := μ') (ω := ω') hK2
  obtain ⟨ms, e1, e2, e3⟩ := h.marks
  obtain ⟨ms', f1, f2, f3⟩ := hS.defers.marks
  have hsz := h.size
  refine ⟨env', hk, hS.tmps, ⟨ms' ++ ms, ?_, ?_, fun D hD => ?_⟩, by have := hS.mem.below.size; omega, hS.mem.vok, fun t => .imm _ _ (he t _ (hS.env t))⟩
  · rw [f1, List.map_append]
    show ms'.map mkD ++ a.defers = _
    rw [e1]
  · refine List.nodup_append.2 ⟨f2, e2, fun x hx y hy e => ?_⟩
    have h1 := (f3 x hx).2.1
    have h2 := (Array.getElem?_eq_some_iff.1 (e3 y hy).2).1
    omega
  · rcases List.mem_append.1 hD with hD | hD
    · exact ⟨by have := (f3 D hD).2.1; omega, (f3 D hD).1⟩
    · exact ⟨(e3 D hD).1, by rw [hS.mem.below.block D (Array.getElem?_eq_some_iff.1 (e3 D hD).2).1]; exact (e3 D hD).2⟩
theorem fresh_of {F : Fr} {V V' : Vw} {μ : List Nat} {ω : List Value} {box : List (List D)} {row : Rows} {w w' : World} {sz : TypeId → Nat} (h : Mem sz w F V' μ ω box row w') (hF : F.V = V) : ∀ p v, V' p = some v → V p = some v ∨ w.heap.size ≤ p.block := by
  intro p v hp
  by_cases hb : p.block < w.heap.size
  · left
    rw [← hF, ← h.vold p hb]
    exact hp
  · right; omega
def yPost (P : Program) (T : Tab) (B : Nat) (J : Option Nat → Vw → World → Prop) (Jp : List PanicEntry → World → Prop) (n : Nat) (Q : Exit → Option Nat → List (Nat × D) → Prop) (e : Exit) (a' : Act) (w' : World) : Prop :=
  (∃ g' env' V', Q e g' env' ∧ J g' V' w' ∧ PureS (szOf T) B V' env' n a' w') ∨
    ∃ ch, e = .panic ch ∧ Jp ch w' ∧ ∃ ms : List Nat, a'.defers = ms.map mkD ∧ ms.Nodup ∧ ∀ D ∈ ms, B ≤ D ∧ w'.heap[D]? = some (.deferred (some []))
structure OkY (P : Program) (T : Tab) (l : Nat) (xs : List (List D)) (n : Nat) (c : Code) (Q : Exit → Option Nat → List (Nat × D) → Prop) (g : Option Nat) (env : List (Nat × D)) : Prop where
  run : ∀ (B : Nat) J Jp, Yields P T l B xs J Jp → ∀ (V : Vw) (a : Act) (w : World), J g V w → PureS (szOf T) B V env n a w → c.wp P (yPost P T B J Jp n Q) a w
variable {l : Nat} {xs : List (List D)} {n : Nat} {Q : Exit → Option Nat → List (Nat × D) → Prop} {g : Option Nat} {env : List (Nat × D)}
theorem OkY.piece {c : Code} (h : Ok P T c (fun e s' => purK n s' fun env' => Q e g env') ⟨env, [], [], n⟩) : OkY P T l xs n c Q g env := by
  refine ⟨fun B J Jp hY V a w hJ hp => wp_mono (h.run w _ V [] [] a w hp.sim) ?_⟩
  rintro e a' w' ⟨s', V', μ', ω', hq, hS⟩
  obtain ⟨env', hk, hp'⟩ := hp.after hS hq
  exact .inl ⟨g, env', V', hk, hY.grow g V V' w w' hJ hS.mem.below hS.mem.vle hS.mem.vok (fresh_of hS.mem rfl), hp'⟩
theorem OkY.mono {c : Code} {Q' : Exit → Option Nat → List (Nat × D) → Prop} (h : OkY P T l xs n c Q g env) (hq : ∀ e g env, Q e g env → Q' e g env) : OkY P T l xs n c Q' g env := by
  refine ⟨fun B J Jp hY V a w hJ hp => wp_mono (h.run B J Jp hY V a w hJ hp) ?_⟩
  rintro e a' w' (⟨g', env', V', hk, h1, h2⟩ | h)
  · exact .inl ⟨g', env', V', hq _ _ _ hk, h1, h2⟩
  · exact .inr h
def thenY (N : Option Nat → List (Nat × D) → Prop) (Q : Exit → Option Nat → List (Nat × D) → Prop) : Exit → Option Nat → List (Nat × D) → Prop
  | .normal, g, env => N g env
  | e, g, env => Q e g env
theorem OkY.seq {x y : Code} (h : OkY P T l xs n x (thenY (OkY P T l xs n y Q) Q) g env) : OkY P T l xs n (.seq x y) Q g env := by
  refine ⟨fun B J Jp hY V a w hJ hp => wp_seq (wp_mono (h.run B J Jp hY V a w hJ hp) ?_)⟩
  rintro e a' w' (⟨g', env', V', hk, h1, h2⟩ | ⟨ch, rfl, h⟩)
  · cases e with
    | normal => exact OkY.run hk B J Jp hY V' a' w' h1 h2
    | _ => exact .inl ⟨g', env', V', hk, h1, h2⟩
  · exact .inr ⟨ch, rfl, h⟩
theorem OkY.skip (h : Q .normal g env) : OkY P T l xs n .skip Q g env := ⟨fun _ _ _ _ V _ _ hJ hp => wp_skip (.inl ⟨g, env, V, h, hJ, hp⟩)⟩
theorem OkY.ret (h : Q .ret g env) : OkY P T l xs n .ret Q g env := ⟨fun _ _ _ _ V _ _ hJ hp => wp_ret (.inl ⟨g, env, V, h, hJ, hp⟩)⟩
theorem OkY.exit {id : Nat} (h : Q (.exit id) g env) : OkY P T l xs n (.exit id) Q g env := ⟨fun _ _ _ _ V _ _ hJ hp => wp_exit (.inl ⟨g, env, V, h, hJ, hp⟩)⟩
def blockY (id : Nat) (Q : Exit → Option Nat → List (Nat × D) → Prop) : Exit → Option Nat → List (Nat × D) → Prop
  | .exit id', g, env => match Nat.beq id' id with | true => Q .normal g env | false => Q (.exit id') g env
  | e, g, env => Q e g env
theorem OkY.block {id : Nat} {c : Code} (h : OkY P T l xs n c (blockY id Q) g env) : OkY P T l xs n (.block id c) Q g env := by
  refine ⟨fun B J Jp hY V a w hJ hp => wp_block (wp_mono (h.run B J Jp hY V a w hJ hp) ?_)⟩
  rintro e a' w' (⟨g', env', V', hk, h1, h2⟩ | ⟨ch, rfl, h⟩)
  · cases e with
    | exit id' =>
      simp only [blockY] at hk
      simp only [Exit.inBlock]
      split at hk
      · rename_i hb
        rw [if_pos (beq_nat_true hb)]
        exact .inl ⟨g', env', V', hk, h1, h2⟩
      · rename_i hb
        rw [if_neg (by rintro rfl; rw [Nat.beq_refl] at hb; cases hb)]
        exact .inl ⟨g', env', V', hk, h1, h2⟩
    | _ => exact .inl ⟨g', env', V', hk, h1, h2⟩
  · exact .inr ⟨ch, rfl, h⟩
def condY (env : List (Nat × D)) (n : Nat) (c : Operand) (X Y : List (Nat × D) → Prop) : Prop :=
  condK ⟨env, [], [], n⟩ c (fun s => X s.env) (fun s => Y s.env)
theorem PureS.know {B : Nat} {V : Vw} {a : Act} {w : World} (hp : PureS (szOf T) B V env n a w) (c : Operand) {d : D} (hd : RS (szOf T) V [] [] (a.eval c) d) : PureS (szOf T) B V ((⟨env, [], [], n⟩ : St).know c d).env n a w := by
  have h := hp.sim.know c hd
  have hn : ((⟨env, [], [], n⟩ : St).know c d).n = n := by
    unfold St.know
    split
    · split <;> rfl
    · rfl
  refine ⟨hp.tmps, hp.marks, hp.size, hp.vok, fun t => ?_⟩
  have := h.env t
  rw [hn] at this
  exact this
theorem OkY.cond {c : Operand} {x y : Code} (h : condY env n c (OkY P T l xs n x Q g) (OkY P T l xs n y Q g)) : OkY P T l xs n (.cond c x y) Q g env := by
  refine ⟨fun B J Jp hY V a w hJ hp => ?_⟩
  have hc := hp.sim.get c
  unfold condY condK at h
  split at h
  · rename_i hd; rw [hd] at hc; exact wp_cond_true hc.tt_ (h.run B J Jp hY V a w hJ hp)
  · rename_i hd; rw [hd] at hc; exact wp_cond_false hc.ff_ (h.run B J Jp hY V a w hJ hp)
  · rename_i p hd
    rw [hd] at hc
    obtain ⟨b, hb, hbp⟩ := hc.bool
    cases b with
    | true => exact wp_cond_true hb ((h.1 (hbp.1 rfl)).run B J Jp hY V a w hJ (hp.know c (by rw [hb]; exact .imm _ _ .tt)))
    | false => exact wp_cond_false hb ((h.2 (fun hp => by simpa using hbp.2 hp)).run B J Jp hY V a w hJ (hp.know c (by rw [hb]; exact .imm _ _ .ff)))
  · exact h.elim
def selE (env : List (Nat × D)) : List Nat → (List (Nat × D) → Prop) → Prop
  | [], K => K []
  | t :: L, K => (look env t).force fun d => selE env L fun r => K ((t, d) :: r)
theorem selE_sound {sz : TypeId → Nat} {V : Vw} {env : List (Nat × D)} : ∀ {L : List Nat} {K : List (Nat × D) → Prop}, selE env L K → ∃ env', K env' ∧ ∀ t v, RS sz V [] [] v (look env t) → RS sz V [] [] v (look env' t)
  | [], K, h => ⟨[], h, fun t v _ => .imm _ _ (.u v)⟩
  | x :: L, K, h => by
    simp only [selE, D.force_eq] at h
    obtain ⟨env', h, he⟩ := selE_sound (sz := sz) (V := V) h
    refine ⟨_, h, fun t v hv => ?_⟩
    show RS sz V [] [] v (match Nat.beq x t with | true => look env x | false => look env' t)
    cases hb : Nat.beq x t with
    | true => rw [← beq_nat_true hb] at hv; exact hv
    | false => exact he t v hv
theorem OkY.keep {c : Code} (L : List Nat) (h : selE env L fun env => OkY P T l xs n c Q g env) : OkY P T l xs n c Q g env := by
  refine ⟨fun B J Jp hY V a w hJ hp => ?_⟩
  obtain ⟨env', hk, he⟩ := selE_sound (sz := szOf T) (V := V) h
  exact hk.run B J Jp hY V a w hJ ⟨hp.tmps, hp.marks, hp.size, hp.vok, fun t => he t _ (hp.env t)⟩
theorem OkY.loopK {c : Code} {ι : Type} (L : List Nat) (mk : ι → List (Nat × D)) (gk : ι → Option Nat) (I : ι → Prop) (m : ι → Nat) (x0 : ι) (h0 : I x0) (hg : g = gk x0) (hs : selE env L (· = mk x0))
    (round : ∀ x, I x → OkY P T l xs n c (thenY (fun g' env' => ∃ x', m x' < m x ∧ I x' ∧ g' = gk x' ∧ selE env' L (· = mk x')) Q) (gk x) (mk x)) : OkY P T l xs n (.loop c) Q g env := by
  refine ⟨fun B J Jp hY V a w hJ hp => ?_⟩
  obtain ⟨env', hk, he⟩ := selE_sound (sz := szOf T) (V := V) hs
  subst hg
  refine wp_loop_at (fun k a w => ∃ x V, m x = k ∧ I x ∧ J (gk x) V w ∧ PureS (szOf T) B V (mk x) n a w) ?_ ⟨x0, V, rfl, h0, hJ, by rw [← hk]; exact ⟨hp.tmps, hp.marks, hp.size, hp.vok, fun t => he t _ (hp.env t)⟩⟩
  rintro k a w ⟨x, V, rfl, hI, hJ, hp⟩
  refine wp_mono ((round x hI).run B J Jp hY V a w hJ hp) ?_
  rintro e a' w' (⟨g', env', V', hk, h1, h2⟩ | ⟨ch, rfl, h⟩)
  · cases e with
    | normal =>
      obtain ⟨x', hlt, hI', rfl, hs'⟩ := hk
      obtain ⟨env2, hk2, he2⟩ := selE_sound (sz := szOf T) (V := V') hs'
      exact ⟨m x', hlt, x', V', rfl, hI', h1, by rw [← hk2]; exact ⟨h2.tmps, h2.marks, h2.size, h2.vok, fun t => he2 t _ (h2.env t)⟩⟩
    | _ => exact .inl ⟨g', env', V', hk, h1, h2⟩
  · exact .inr ⟨ch, rfl, h⟩
theorem OkY.loop {c : Code} {ι : Type} (I : ι → Option Nat → List (Nat × D) → Prop) (m : ι → Nat) (x0 : ι) (h0 : I x0 g env)
    (round : ∀ x g env, I x g env → OkY P T l xs n c (thenY (fun g' env' => ∃ x', m x' < m x ∧ I x' g' env') Q) g env) : OkY P T l xs n (.loop c) Q g env := by
  refine ⟨fun B J Jp hY V a w hJ hp => ?_⟩
  refine wp_loop_at (fun k a w => ∃ x g env V, m x = k ∧ I x g env ∧ J g V w ∧ PureS (szOf T) B V env n a w) ?_ ⟨x0, g, env, V, rfl, h0, hJ, hp⟩
  rintro k a w ⟨x, g, env, V, rfl, hI, hJ, hp⟩
  refine wp_mono ((round x g env hI).run B J Jp hY V a w hJ hp) ?_
  rintro e a' w' (⟨g', env', V', hk, h1, h2⟩ | ⟨ch, rfl, h⟩)
  · cases e with
    | normal =>
      obtain ⟨x', hlt, hI'⟩ := hk
      exact ⟨m x', hlt, x', g', env', V', rfl, hI', h1, h2⟩
    | _ => exact .inl ⟨g', env', V', hk, h1, h2⟩
  · exact .inr ⟨ch, rfl, h⟩
def yCallK (P : Program) (T : Tab) (l n : Nat) (ops r : List Oper) (x : List D) (Q : Exit → Option Nat → List (Nat × D) → Prop) (k : Nat) (o : Oper) (s : St) : Prop :=
  match o.guard with
  | some _ => False
  | none => match o.op with
    | .call { callee := .value (.tmp t), args, argTypes := _ } => s.get (.tmp t) = .yld l ∧ s.gets args.toList = x ∧ imms x = true ∧ purK n s fun env' =>
        (putK ⟨env', [], [], n⟩ o.dst .tt fun s => vops P T ops r s fun s' => purK n s' (Q .normal (some (k + 1)))) ∧ (putK ⟨env', [], [], n⟩ o.dst .ff fun s => vops P T ops r s fun s' => purK n s' (Q .normal none))
    | _ => False
theorem RS.yld_ {sz : TypeId → Nat} {V : Vw} {μ : List Nat} {ω : List Value} {v : Value} {l : Nat} (h : RS sz V μ ω v (.yld l)) : v = .func (.yield l) #[] #[] := by
  cases h with | imm _ _ h => cases h; rfl
structure OkZ (P : Program) (T : Tab) (l : Nat) (xs : List (List D)) (n : Nat) (c : Code) (Q : Exit → Option Nat → List (Nat × D) → Prop) (g : Option Nat) (s : St) : Prop where
  run : ∀ (B : Nat) J Jp, Yields P T l B xs J Jp → ∀ (V : Vw) (a0 : Act) (w0 : World) (env : List (Nat × D)), J g V w0 → PureS (szOf T) B V env n a0 w0 →
    ∀ (V' : Vw) (μ : List Nat) (ω : List Value) (a : Act) (w : World), Sim (szOf T) w0 ⟨V, fun _ => undef, a0.defers, []⟩ V' μ ω s a w → c.wp P (yPost P T B J Jp n Q) a w
theorem OkY.ofZ {c : Code} (h : OkZ P T l xs n c Q g ⟨env, [], [], n⟩) : OkY P T l xs n c Q g env :=
  ⟨fun B J Jp hY V a w hJ hp => h.run B J Jp hY V a w env hJ hp V [] [] a w hp.sim⟩
theorem OkZ.seq {x y : Code} {s : St} (h : Ok P T x (thenQ (OkZ P T l xs n y Q g) (fun e s' => purK n s' fun env' => Q e g env')) s) : OkZ P T l xs n (.seq x y) Q g s := by
  refine ⟨fun B J Jp hY V a0 w0 env hJ hp V' μ ω a w hS => wp_seq (wp_mono (h.run w0 _ V' μ ω a w hS) ?_)⟩
  rintro e a' w' ⟨s', V2, μ', ω', hq, hS2⟩
  have pur : ∀ e, purK n s' (fun env' => Q e g env') → yPost P T B J Jp n Q e a' w' := fun e hq => by
    obtain ⟨env', hk, hp'⟩ := hp.after hS2 hq
    exact .inl ⟨g, env', V2, hk, hY.grow g V V2 w0 w' hJ hS2.mem.below hS2.mem.vle hS2.mem.vok (fresh_of hS2.mem rfl), hp'⟩
  cases e with
  | normal => exact OkZ.run hq B J Jp hY V a0 w0 env hJ hp V2 μ' ω' a' w' hS2
  | _ => exact pur _ hq
theorem OkZ.seqY {x y : Code} {s : St} (h : OkZ P T l xs n x (thenY (OkY P T l xs n y Q) Q) g s) : OkZ P T l xs n (.seq x y) Q g s := by
  refine ⟨fun B J Jp hY V a0 w0 env hJ hp V' μ ω a w hS => wp_seq (wp_mono (h.run B J Jp hY V a0 w0 env hJ hp V' μ ω a w hS) ?_)⟩
  rintro e a' w' (⟨g', env', V', hk, h1, h2⟩ | ⟨ch, rfl, h⟩)
  · cases e with
    | normal => exact OkY.run hk B J Jp hY V' a' w' h1 h2
    | _ => exact .inl ⟨g', env', V', hk, h1, h2⟩
  · exact .inr ⟨ch, rfl, h⟩
theorem OkZ.ofY {c : Code} {s : St} (h : purK n s fun env' => OkY P T l xs n c Q g env') : OkZ P T l xs n c Q g s := by
  refine ⟨fun B J Jp hY V a0 w0 env hJ hp V' μ ω a w hS => ?_⟩
  obtain ⟨env', hk, hp'⟩ := hp.after hS h
  exact hk.run B J Jp hY V' a w (hY.grow g V V' w0 w hJ hS.mem.below hS.mem.vle hS.mem.vok (fresh_of hS.mem rfl)) hp'
theorem OkZ.yreg (hT : TOk P T) {s0 : St} {id : Nat} {ops : List Oper} (j k : Nat) (x : List D) (hx : xs[k]? = some x) (h : vopsCut P T ops j ops s0 (yCallK P T l n ops (ops.drop (j + 1)) x Q k)) :
    OkZ P T l xs n (.region id ops.toArray false) Q (some k) s0 := by
  refine ⟨fun B J Jp hY V a0 w0 env hJ hp V' μ ω a w hS0 => (wpIn_wide (n := 0)).1 ?_⟩
  show Code.wpIn (fen none) 0 P _ _ a w
  refine wpIn_region_lit (vopsCutIn_sound hT j ops _ V' μ ω a w _ hS0 h ?_)
  intro o r s V1 μ1 ω1 a1 w1 hr hk hS1
  have hr2 : ops.drop (j + 1) = r := by rw [← List.drop_drop, hr]; rfl
  rw [hr2] at hk
  obtain ⟨dst, op, type, pos, after, guard⟩ := o
  unfold yCallK at hk
  split at hk
  · exact hk.elim
  rename_i hg
  dsimp only at hg
  subst hg
  split at hk
  case h_2 => exact hk.elim
  rename_i t args ats hop
  dsimp only at hop
  subst hop
  obtain ⟨hyl, hgs, him, hk⟩ := hk
  have hev : a1.eval (.tmp t) = .func (.yield l) #[] #[] := by have := hS1.get (.tmp t); rw [hyl] at this; exact this.yld_
  obtain ⟨env', ⟨hk1, hk2⟩, hp1⟩ := hp.after hS1 hk
  have hJ1 := hY.grow _ _ _ _ _ hJ hS1.mem.below hS1.mem.vle hS1.mem.vok (fresh_of hS1.mem rfl)
  obtain ⟨ms, e1, e2, e3⟩ := hp1.marks
  have hvals := hS1.gets args.toList
  rw [hgs] at hvals
  obtain ⟨fn, tmps, assign, body, hyi, hround⟩ := hY.round k x V1 w1 (args.toList.map a1.eval) hx hJ1 hvals.1 (fun i v d h1 h2 => immD_ri (hvals.2 i v d h1 h2) (imms_at him i d h2)) (keptOf ms) (fun y hy => by
    obtain ⟨D, hD, rfl⟩ := List.mem_map.1 hy
    exact ⟨(e3 D hD).1, (e3 D hD).2, fun _ _ _ e => by cases e⟩)
  unfold wpListIn
  rw [if_pos (by simp [Region.wanted])]
  refine ⟨fun _ _ => trivial, ?_⟩
  have hrun : (execOp a1.eval ⟨dst, .call ⟨.value (.tmp t), args, ats⟩, type, pos, after, none⟩).run P w1 = .ok (.round l fn tmps assign body) w1 := by
    have ha : (args.toList.map a1.eval).toArray = args.map a1.eval := by apply Array.ext'; simp
    rw [ha] at hyi
    simp only [execOp, resolve, hev, Deferred.ofValue, Sem.run_bind, Sem.run_pure, Result.andThen_ok]
    simp [invoke, go_sem, hyi]
  have hsem : ∀ o, Oper.semAt (fen none).round a1.eval o = execOp a1.eval o := fun o => Oper.semAt_none _ _
  rw [hsem, hrun]
  refine ⟨(fun hh => by cases hh), ?_⟩
  refine RoundIn.mono hround ?_
  rintro e W' ⟨hE, h⟩
  have hmk : ∃ ms : List Nat, a1.defers = ms.map mkD ∧ ms.Nodup ∧ ∀ D ∈ ms, B ≤ D ∧ W'.heap[D]? = some (.deferred (some [])) := ⟨ms, e1, e2, fun D hD => ⟨(e3 D hD).1, hE (D, _) (List.mem_map.2 ⟨D, hD, rfl⟩)⟩⟩
  have go : ∀ {g' : Option Nat} {V2 : Vw} {d : D} {v : Value}, VLe V1 V2 → J g' V2 W' → RS (szOf T) V2 [] [] v d → (putK ⟨env', [], [], n⟩ dst d fun s => vops P T ops r s fun s' => purK n s' (Q .normal g')) →
      wpListIn (fen none) 0 P ops.toArray (yPost P T B J Jp n Q) r (a1.put dst v) W' := by
    intro g' V2 d v hle hJ2 hv hput
    have hp2 : PureS (szOf T) B V2 env' n a1 W' := ⟨hp1.tmps, hmk, hY.size _ _ _ hJ2, hY.vok _ _ _ hJ2, fun t => (hp1.env t).mono hle (.refl _) (.refl _)⟩
    obtain ⟨s3, hq3, hS3⟩ := putK_sound hp2.sim hv hput
    refine vopsIn_sound hT r s3 V2 [] [] _ W' _ hS3 hq3 ?_
    intro s4 V4 μ4 ω4 a4 w4 hk4 hS4
    obtain ⟨env5, hk5, hp5⟩ := hp2.after (a' := a4) (w' := w4) hS4 hk4
    exact .inl ⟨g', env5, V4, hk5, hY.grow _ _ _ _ _ hJ2 hS4.mem.below hS4.mem.vle hS4.mem.vok (fresh_of hS4.mem rfl), hp5⟩
  rcases h with ⟨V2, hle, ⟨rfl, hJ2⟩ | ⟨rfl, hJ2⟩⟩ | ⟨c, rfl, hJp⟩
  · exact go hle hJ2 (.imm _ _ .tt) hk1
  · exact go hle hJ2 (.imm _ _ .ff) hk2
  · exact .inr ⟨c, rfl, hJp, hmk⟩
theorem OkY.yreg (hT : TOk P T) {id : Nat} {ops : List Oper} (j k : Nat) (x : List D) (hx : xs[k]? = some x) (h : vopsCut P T ops j ops ⟨env, [], [], n⟩ (yCallK P T l n ops (ops.drop (j + 1)) x Q k)) :
    OkY P T l xs n (.region id ops.toArray false) Q (some k) env := .ofZ (.yreg hT j k x hx h)
theorem J_shut {l B : Nat} {xs : List (List D)} {J : Option Nat → Vw → World → Prop} {Jp : List PanicEntry → World → Prop} (hY : Yields P T l B xs J Jp) : ∀ (ms : List Nat) (w : World), ms.Nodup → (∀ D ∈ ms, B ≤ D ∧ w.heap[D]? = some (.deferred (some []))) →
    (∀ g V, J g V w → J g V (shut ms w)) ∧ ∀ c, Jp c w → Jp c (shut ms w)
  | [], w, _, _ => ⟨fun _ _ h => h, fun _ h => h⟩
  | D :: ms, w, hn, hd => by
    obtain ⟨h1, h2⟩ := List.nodup_cons.1 hn
    obtain ⟨a, b⟩ := J_shut hY ms (w.putObj D (.deferred none)) h2 (fun E hE => ⟨(hd E (by simp [hE])).1, (World.putObj_heap_other (r := D) (k := E) fun e => h1 (e ▸ hE)).trans (hd E (by simp [hE])).2⟩)
    exact ⟨fun g V h => a g V (hY.shut g V w D h (hd D (by simp)).1 (hd D (by simp)).2), fun c h => b c (hY.shutp c w D h (hd D (by simp)).1 (hd D (by simp)).2)⟩
theorem YSpec.of_okY {f : FuncId} {fn : Func} {c : Code} (hf : P.funcs[f]? = some fn) (hb : fn.body = some c) (hcall : ∀ args w, (callFunc f args).run P w = .ok (.enter f args) w) {cap : List D} (hres : fn.results = #[]) (hn : cap.length + 1 ≤ fn.ntmps)
    (h : ∀ l, OkY P T l xs fn.ntmps c (fun e g _ => (e = .normal ∨ e = .ret) ∧ (g = some xs.length ∨ g = none)) (some 0) (envOf 0 (.yld l :: cap))) : YSpec P T f cap xs := by
  refine ⟨hcall, fun V w args hl hR l J Jp hY hJ => calls_of_wp_X hf hb ?_⟩
  have hst := start_sim (T := T) (fn := fn) (ds := .yld l :: cap) (V := V) (w := w) (args := #[.func (.yield l) #[] #[]] ++ args) (df := []) (by simpa using hn) (hY.vok _ _ _ hJ) (by simp; omega) (fun j v d h1 h2 => by
    cases j with
    | zero =>
      rw [Array.getElem?_append_left (by simp)] at h1
      simp at h1 h2
      subst h1 h2
      exact .yld l
    | succ j =>
      refine hR j v d ?_ (by simpa using h2)
      rw [Array.getElem?_append_right (by simp)] at h1
      simpa using h1)
  refine wp_mono ((h l).run w.heap.size J Jp hY V _ w hJ ⟨hst.tmps, ⟨[], rfl, List.nodup_nil, by simp⟩, Nat.le_refl _, hY.vok _ _ _ hJ, hst.env⟩) ?_
  rintro e a' w' (⟨g', env', V', ⟨he, hg⟩, hJ', hp⟩ | ⟨ch, rfl, hJp, ms, e1, e2, e3⟩)
  · obtain ⟨ms, e1, e2, e3⟩ := hp.marks
    have fin : LeavesX P fn a'.tmps (fun e w' => ((∃ v, e = .returned v) ∧ ∃ V', J (some xs.length) V' w' ∨ J none V' w') ∨ ∃ c, e = .panicked c ∧ Jp c w') a'.defers .returning w' := by
      rw [e1, ← List.append_nil (ms.map mkD)]
      refine leavesX_marks (by simp) ms w' e2 (fun D hD => (e3 D hD).2) ⟨.tuple #[], ?_, .inl ⟨⟨_, rfl⟩, V', ?_⟩⟩
      · rw [results_eq, hres]
        simp
      · have := (J_shut hY ms w' e2 e3).1 g' V' hJ'
        rcases hg with rfl | rfl
        · exact .inl this
        · exact .inr this
    rcases he with rfl | rfl
    · exact fin
    · exact fin
  · show LeavesX P fn a'.tmps _ a'.defers _ w'
    rw [e1, ← List.append_nil (ms.map mkD)]
    exact leavesX_marks (by simp) ms w' e2 (fun D hD => (e3 D hD).2) (.inr ⟨ch, rfl, (J_shut hY ms w' e2 e3).2 ch hJp⟩)
theorem effW.of {s : St} {f : FuncId} {ds : List D} {K : D → St → Prop} (h : effK P T s f ds K) : effW P T s f ds K :=
  ⟨h.call, fun w0 V0 V μ ω a w vs hS hl hR => (h.run w0 V0 V μ ω a w vs hS hl hR).mono fun _ _ ⟨v, d, s', V', μ', ω', h1, h2, h3, h4, _⟩ => ⟨v, d, s', V', μ', ω', h1, h2, h3, h4⟩⟩
end
end Go.Vx
namespace Go.Vx
open Go.RowKit Go.ChangeShapes Go.WideShapes
open Go.Proofs.YtaiondckookpiaaGreatDoor (Rows.uptoBulk Rows.uptoBulkAll)
inductive Shp where
  | bool | int (k : IntKind) | str | slice (e : TypeId) (cells : List Shp)
def shpFs (F : TypeId → Option (List Shp)) : Nat → List (Nat × TypeId) → Option (List Shp)
  | _, [] => some []
  | k, (o, t) :: r => match Nat.beq o k, F t with
    | true, some l => (match shpFs F (k + l.length) r with | some m => some (l ++ m) | none => none)
    | _, _ => none
def lenIs (s : Nat) (o : Option (List Shp)) : Option (List Shp) := match o with | some l => (match Nat.beq s l.length with | true => some l | false => none) | none => none
def shpC (T : Tab) : Nat → TypeId → Option (List Shp)
  | 0, _ => none
  | f + 1, t => match T t with
    | some ⟨s, _, .bool, _⟩ => lenIs s (some [.bool])
    | some ⟨s, _, .int k, _⟩ => lenIs s (some [.int k])
    | some ⟨s, _, .str, _⟩ => lenIs s (some [.str])
    | some ⟨s, _, .slice e, _⟩ => lenIs s (match shpC T f e with | some l => some [.slice e l] | none => none)
    | some ⟨s, _, .struct fs, _⟩ => lenIs s (shpFs (shpC T f) 0 fs)
    | _ => none
mutual
/-- A cell of such a type; lists and texts of at most B. -/
def TyS (B : Nat) : Shp → D → Prop
  | .bool, d => ∃ p, d = .b p
  | .int k, d => ∃ n, d = .i k n ∧ (Lit.int k n).wf = true
  | .str, d => ∃ l, d = .s l ∧ l.length ≤ B
  | .slice e l, d => ∃ rows room, d = .lst e rows room ∧ rows.length + room.length ≤ B ∧ ∀ r, r ∈ rows ++ room → TySs B l r
/-- .. a row of cells. -/
def TySs (B : Nat) : List Shp → List D → Prop
  | [], [] => True
  | s :: ss, d :: ds => TyS B s d ∧ TySs B ss ds
  | [], _ :: _ => False
  | _ :: _, [] => False
end
def TyA (T : Tab) (B : Nat) (t : TypeId) (l : List Shp) (x : D) : Prop :=
  match T t with
  | some ⟨_, _, .struct _, _⟩ => ∃ row, x = .agg row ∧ TySs B l row
  | _ => TySs B l [x]
theorem TySs.append {B : Nat} : ∀ {ts us : List Shp} {ds es : List D}, TySs B ts ds → TySs B us es → TySs B (ts ++ us) (ds ++ es)
  | [], _, [], _, _, h => h
  | _ :: _, _, _ :: _, _, h, h' => by
    simp only [TySs, List.cons_append] at h ⊢
    exact ⟨h.1, TySs.append h.2 h'⟩
  | [], _, _ :: _, _, h, _ => by simp [TySs] at h
  | _ :: _, _, [], _, h, _ => by simp [TySs] at h
theorem lenIs_some {s : Nat} {o : Option (List Shp)} {l : List Shp} (h : lenIs s o = some l) : o = some l ∧ s = l.length := by
  unfold lenIs at h
  split at h
  · split at h
    · rename_i hb
      cases h
      exact ⟨rfl, Nat.eq_of_beq_eq_true hb⟩
    · cases h
  · cases h
theorem shpC_len {T : Tab} {f : Nat} {t : TypeId} {l : List Shp} (h : shpC T f t = some l) : szOf T t = l.length ∧ ∃ ti, T t = some ti := by
  cases f with
  | zero => simp [shpC] at h
  | succ f =>
    simp only [shpC] at h
    split at h
    all_goals first
      | (cases h)
      | (rename_i ht; have := lenIs_some h; rw [szOf_eq ht]; exact ⟨this.2, _, ht⟩)
section
variable {H : Type} {enc : TypeId × Value → H} {P : Program} {T : Tab} {w : World} {held : Bool}
theorem bulk_mem {d : DataW H} : ∀ {l : List (DataW H)}, d ∈ l → Rows.uptoBulk d ≤ Rows.uptoBulkAll l
  | [], h => by cases h
  | x :: r, h => by
    simp only [Rows.uptoBulkAll]
    rcases List.mem_cons.1 h with rfl | h
    · omega
    · have := bulk_mem h; omega
theorem bulk_one (d : DataW H) : 1 ≤ Rows.uptoBulk d := by
  cases d with
  | lit l => cases l <;> simp [Rows.uptoBulk]
  | _ => simp [Rows.uptoBulk]
theorem bulk_length : ∀ (l : List (DataW H)), l.length ≤ Rows.uptoBulkAll l
  | [] => by simp [Rows.uptoBulkAll]
  | x :: r => by have := bulk_one x; have := bulk_length r; simp only [Rows.uptoBulkAll, List.length_cons]; omega
def CellsR (T : Tab) (w : World) (cs : List Value) (row : List D) : Prop :=
  cs.length = row.length ∧ ∀ (j : Nat) v d, cs[j]? = some v → row[j]? = some d → RI (szOf T) (heapV w) v d ∧ v.oneCell' = true
theorem CellsR.append {cs cs' : List Value} {row row' : List D} (h : CellsR T w cs row) (h' : CellsR T w cs' row') : CellsR T w (cs ++ cs') (row ++ row') := by
  refine ⟨by simp [h.1, h'.1], fun j v d h1 h2 => ?_⟩
  by_cases hj : j < cs.length
  · rw [List.getElem?_append_left hj] at h1
    rw [List.getElem?_append_left (by rw [← h.1]; exact hj)] at h2
    exact h.2 j v d h1 h2
  · rw [List.getElem?_append_right (by omega)] at h1
    rw [List.getElem?_append_right (by rw [← h.1]; omega), ← h.1] at h2
    exact h'.2 _ v d h1 h2
theorem CellsR.one {v : Value} {d : D} (h : RI (szOf T) (heapV w) v d) (h1 : v.oneCell' = true) : CellsR T w [v] [d] := by
  refine ⟨rfl, fun j v' d' h2 h3 => ?_⟩
  cases j with
  | zero => simp at h2 h3; subst h2 h3; exact ⟨h, h1⟩
  | succ j => simp at h2
theorem cells_of (hT : TOk P T) {t : TypeId} (h : ∃ ti, T t = some ti) : szOf T t = P.cellsOf t := by
  obtain ⟨ti, ht⟩ := h
  obtain ⟨i, z, h1, h2, _⟩ := (hT t ti ht).info
  rw [szOf_eq ht]
  simp [Program.cellsOf, h1, h2]
theorem fields_ri {f B : Nat} {k : Nat} (ih : ∀ t cs x l, shpC T f t = some l → (B = maxLen ∨ Rows.uptoBulk x.1 ≤ B) → DataW.trod enc P w 0 (fun _ => true) held k t cs = some x → ∃ row, TySs B l row ∧ CellsR T w cs row)
    (hT : TOk P T) (cs : List Value) :
    ∀ (fs : List (Nat × TypeId)) (o : Nat) (xs : List (DataW H × List MemPlace)) (l : List Shp), shpFs (shpC T f) o fs = some l →
      (B = maxLen ∨ Rows.uptoBulkAll (xs.map (·.1)) ≤ B) → xs.length = fs.length →
      (∀ (i : Nat) p, fs[i]? = some p → DataW.trod enc P w 0 (fun _ => true) held k p.2 ((cs.drop p.1).take (P.cellsOf p.2)) = xs[i]?) →
      cs.length = o + l.length → ∃ row, TySs B l row ∧ CellsR T w (cs.drop o) row
  | [], o, xs, l, h1, _, _, _, hl => ⟨[], by simp [shpFs] at h1; subst h1; simp [TySs], by
      simp [shpFs] at h1
      subst h1
      have : cs.drop o = [] := List.drop_of_length_le (by rw [hl]; simp)
      rw [this]
      exact ⟨rfl, fun j v d h => by simp at h⟩⟩
  | (o', t) :: r, o, xs, l, h1, hB, hxl, hx, hl => by
    simp only [shpFs] at h1
    split at h1
    case h_2 => cases h1
    rename_i l0 hb ht
    split at h1
    case h_2 => cases h1
    rename_i m hm
    cases h1
    have ho : o' = o := Nat.eq_of_beq_eq_true hb
    obtain ⟨hs, hti⟩ := shpC_len ht
    subst ho
    cases xs with
    | nil => simp at hxl
    | cons x0 xs =>
      have h0 := hx 0 _ rfl
      simp only [List.getElem?_cons_zero] at h0
      have hb0 : B = maxLen ∨ Rows.uptoBulk x0.1 ≤ B := by
        rcases hB with hB | hB
        · exact .inl hB
        · right; simp only [List.map_cons, Rows.uptoBulkAll] at hB; omega
      have hb1 : B = maxLen ∨ Rows.uptoBulkAll (xs.map (·.1)) ≤ B := by
        rcases hB with hB | hB
        · exact .inl hB
        · right; simp only [List.map_cons, Rows.uptoBulkAll] at hB; omega
      simp only [List.length_append] at hl
      obtain ⟨row0, a0, r0⟩ := ih _ _ _ _ ht hb0 h0
      obtain ⟨row1, a1, r1⟩ := fields_ri ih hT cs r (o' + l0.length) xs m hm hb1 (by simpa using hxl) (fun i p hp => by
        have := hx (i + 1) p (by simpa using hp)
        simpa using this) (by omega)
      refine ⟨row0 ++ row1, a0.append a1, ?_⟩
      have hc : cs.drop o' = (cs.drop o').take (P.cellsOf t) ++ cs.drop (o' + l0.length) := by
        rw [← cells_of hT hti, hs, ← List.drop_drop, List.take_append_drop]
      rw [hc]
      exact r0.append r1
theorem trod_ri (hT : TOk P T) (B : Nat) (hBm : B ≤ maxLen) : ∀ (f k : Nat) (t : TypeId) (cs : List Value) (x : DataW H × List MemPlace) (l : List Shp), shpC T f t = some l → (B = maxLen ∨ Rows.uptoBulk x.1 ≤ B) →
    DataW.trod enc P w 0 (fun _ => true) held k t cs = some x → ∃ row, TySs B l row ∧ CellsR T w cs row
  | 0, _, _, _, _, _, h, _, _ => by simp [shpC] at h
  | f + 1, k, t, cs, x, l, hok, hB, h => by
    cases ht : T t with
    | none => simp [shpC, ht] at hok
    | some ti =>
      obtain ⟨s, b, kd, z⟩ := ti
      have hG := (hT t _ ht).kind
      cases kd with
      | bool =>
        obtain ⟨v, rfl, rfl⟩ := DataW.trod_bool hG h
        simp only [shpC, ht] at hok
        obtain ⟨hok, _⟩ := lenIs_some hok
        cases hok
        refine ⟨[.b (v = true)], ?_, .one (.b _ _ Iff.rfl) rfl⟩
        simp only [TySs, TyS, and_true]
        exact ⟨_, rfl⟩
      | int kk =>
        obtain ⟨n, rfl, rfl, hw⟩ := DataW.trod_int hG h
        simp only [shpC, ht] at hok
        obtain ⟨hok, _⟩ := lenIs_some hok
        cases hok
        refine ⟨[.i kk n], ?_, .one (.i _ _) rfl⟩
        simp [TySs, TyS, hw]
      | str =>
        obtain ⟨v, rfl, rfl, hl⟩ := DataW.trod_string hG h
        simp only [shpC, ht] at hok
        obtain ⟨hok, _⟩ := lenIs_some hok
        cases hok
        refine ⟨[.s v.data.toList], ?_, .one (by have := RI.s (sz := szOf T) (V := heapV w) v.data.toList; rwa [bstr_data] at this) rfl⟩
        simp only [TySs, TyS, and_true]
        refine ⟨_, rfl, ?_⟩
        have hl' : v.data.toList.length ≤ maxLen := by rw [Array.length_toList]; exact hl
        rcases hB with rfl | hB
        · exact hl'
        · simp only [Rows.uptoBulk] at hB; omega
      | slice e =>
        simp only [shpC, ht] at hok
        obtain ⟨hok, _⟩ := lenIs_some hok
        split at hok
        case h_2 => cases hok
        rename_i le hle
        cases hok
        obtain ⟨hse, hti⟩ := shpC_len hle
        have hce := cells_of hT hti
        rcases Go.Deep.open_slice hG h with ⟨rfl, rfl⟩ | ⟨a, len, cap, m, n, Df, Pl, rfl, _, hlc, hcm, hm, rfl, hx⟩
        · refine ⟨[.lst e [] []], ?_, .one (RI.lst e [] [] none ⟨0, 0, none⟩ 0 (fun _ _ => undef) (by simp) (by unfold maxLen; omega) (by simp) (by simp) (by simp) (by simp) (by simp)) rfl⟩
          simp only [TySs, TyS, and_true]
          exact ⟨[], [], rfl, Nat.zero_le _, fun r hr => by cases hr⟩
        · simp only [if_true] at hm
          subst hm
          have hbi : ∀ i, i < m → (B = maxLen ∨ Rows.uptoBulk (Df i) ≤ B) := by
            intro i hi
            rcases hB with hB | hB
            · exact .inl hB
            · right
              simp only [Rows.uptoBulk] at hB
              by_cases hil : i < len
              · have := bulk_mem (d := Df i) (l := (List.range len).map Df) (List.mem_map.2 ⟨i, by simpa using hil, rfl⟩)
                omega
              · have := bulk_mem (d := Df i) (l := (List.range (m - len)).map fun j => Df (len + j)) (List.mem_map.2 ⟨i - len, by simp; omega, by rw [show len + (i - len) = i by omega]⟩)
                omega
          have hmB : m ≤ B := by
            rcases hB with rfl | hB
            · exact hcm
            · simp only [Rows.uptoBulk] at hB
              have h1 := bulk_length ((List.range len).map Df)
              have h2 := bulk_length ((List.range (m - len)).map fun j => Df (len + j))
              simp at h1 h2
              omega
          have key : ∀ i, i < m → ∃ p : List Value × List D, w.cells? 0 (a.add (i * szOf T e)) (szOf T e) = some p.1 ∧ TySs B le p.2 ∧ CellsR T w p.1 p.2 := by
            intro i hi
            obtain ⟨cs', h1, h2⟩ := hx i hi
            obtain ⟨row, h3, h4⟩ := trod_ri hT B hBm f n e cs' _ le hle (hbi i hi) h2
            exact ⟨(cs', row), by rw [hce]; exact h1, h3, h4⟩
          obtain ⟨g, hg⟩ := Go.Deep.choose_lt key
          have hat : ∀ (i : Nat) row, (((List.range len).map fun i => (g i).2) ++ ((List.range (m - len)).map fun j => (g (len + j)).2))[i]? = some row → i < m ∧ row = (g i).2 := by
            intro i row hr
            by_cases hil : i < len
            · rw [List.getElem?_append_left (by simpa using hil)] at hr
              simp [hil] at hr
              exact ⟨by omega, hr.symm⟩
            · rw [List.getElem?_append_right (by simp; omega)] at hr
              simp only [List.length_map, List.length_range, List.getElem?_map, Option.map_eq_some_iff] at hr
              obtain ⟨j, hj, rfl⟩ := hr
              have hj2 := List.getElem?_eq_some_iff.1 hj
              obtain ⟨hj3, hj4⟩ := hj2
              simp at hj3 hj4
              refine ⟨by omega, by rw [← hj4, show len + (i - len) = i by omega]⟩
          have hcell : ∀ i, i < m → (g i).1.length = szOf T e ∧ ∀ j, j < szOf T e → w.cell? ((a.add (i * szOf T e)).add j) = (g i).1[j]? := by
            intro i hi
            obtain ⟨_, h2, h3⟩ := World.cells?_some (hg i hi).1
            exact ⟨h2, h3⟩
          refine ⟨[.lst e ((List.range len).map fun i => (g i).2) ((List.range (m - len)).map fun j => (g (len + j)).2)], ?_, .one ?_ rfl⟩
          · simp only [TySs, TyS, and_true]
            refine ⟨_, _, rfl, by simp; omega, fun r hr => ?_⟩
            obtain ⟨i, hi⟩ := List.getElem?_of_mem hr
            obtain ⟨h1, rfl⟩ := hat i r hi
            exact (hg i h1).2.1
          · have hres := RI.lst (sz := szOf T) (V := heapV w) e ((List.range len).map fun i => (g i).2) ((List.range (m - len)).map fun j => (g (len + j)).2) (some a) a m (fun i j => (g i).1.getD j undef)
              (by simp; omega) hcm (fun _ => rfl) (fun hno => by cases hno)
              (fun i row hr => by
                obtain ⟨h1, rfl⟩ := hat i row hr
                rw [← (hg i h1).2.2.1, (hcell i h1).1])
              (fun i row j d hr hd => by
                obtain ⟨h1, rfl⟩ := hat i row hr
                have hj : j < (g i).1.length := by rw [(hg i h1).2.2.1]; exact (List.getElem?_eq_some_iff.1 hd).1
                have h2 := (hcell i h1).2 j (by rw [← (hcell i h1).1]; exact hj)
                have hv : (g i).1[j]? = some ((g i).1.getD j undef) := by simp [List.getD, List.getElem?_eq_getElem hj]
                refine ⟨?_, ((hg i h1).2.2.2 j _ d hv hd).2⟩
                show w.cell? _ = _
                rw [← add_add, h2, hv])
              (fun i row j d hr hd => by
                obtain ⟨h1, rfl⟩ := hat i row hr
                have hj : j < (g i).1.length := by rw [(hg i h1).2.2.1]; exact (List.getElem?_eq_some_iff.1 hd).1
                have hv : (g i).1[j]? = some ((g i).1.getD j undef) := by simp [List.getD, List.getElem?_eq_getElem hj]
                exact ((hg i h1).2.2.2 j _ d hv hd).1)
            simpa using hres
      | struct fs =>
        simp only [shpC, ht] at hok
        obtain ⟨hok, hs⟩ := lenIs_some hok
        obtain ⟨fa, hu, hfa⟩ := hG
        obtain ⟨xs, n, _, rfl, hl, hxl, hx⟩ := DataW.trod_struct hu h
        have hc : P.cellsOf t = s := by
          obtain ⟨i, z', h1, h2, _⟩ := (hT t _ ht).info
          simp [Program.cellsOf, h1, h2]
        have hfl : fs.length = fa.size := by rw [← hfa]; simp
        obtain ⟨row, h1, h2⟩ := fields_ri (fun t cs x l a b c => trod_ri hT B hBm f n t cs x l a b c) hT cs fs 0 xs l hok (by
            rcases hB with hB | hB
            · exact .inl hB
            · right; simp only [Rows.uptoBulk] at hB; omega) (by rw [hxl, hfl]) (fun i p hp => by
            rw [← hfa] at hp
            simp only [List.getElem?_map, Option.map_eq_some_iff] at hp
            obtain ⟨fd, h3, rfl⟩ := hp
            exact hx i fd (by simpa using h3)) (by rw [hl, hc, hs, Nat.zero_add])
        exact ⟨row, h1, by simpa using h2⟩
      | array n e => simp [shpC, ht] at hok
      | ptr e => simp [shpC, ht] at hok
      | other => simp [shpC, ht] at hok
end
end Go.Vx
namespace Go.Vx
open Go.RowKit Go.ChangeShapes Go.WideShapes
open Go.Proofs.YtaiondckookpiaaGreatDoor (Rows.uptoBulk Rows.uptoBulkAll)
def shapes (T : Tab) (f : Nat) : List TypeId → Option (List (List Shp))
  | [] => some []
  | t :: ts => match shpC T f t, shapes T f ts with | some l, some r => some (l :: r) | _, _ => none
def TyAs (T : Tab) (B : Nat) : List TypeId → List (List Shp) → List D → Prop
  | [], [], [] => True
  | t :: ts, l :: ls, x :: xs => TyA T B t l x ∧ TyAs T B ts ls xs
  | _, _, _ => False
section
variable {H : Type} {enc : TypeId × Value → H} {P : Program} {T : Tab} {w : World}
theorem arg_ri (hT : TOk P T) {B : Nat} (hBm : B ≤ maxLen) {f base : Nat} {r : Reach} {t : TypeId} {v : Value} {d : DataW H} {ps : List MemPlace} {l : List Shp} (hs : shpC T f t = some l) (hB : B = maxLen ∨ Rows.uptoBulk d ≤ B)
    (hv : Value.okWide P w r base t v) (h : DataW.Trod enc P w 0 (fun _ => true) true t v d ps) : ∃ x, TyA T B t l x ∧ RI (szOf T) (heapV w) v x := by
  obtain ⟨k, hk⟩ := h
  obtain ⟨row, h1, h2⟩ := trod_ri hT B hBm f k t _ _ l hs hB hk
  obtain ⟨hz, ti, ht⟩ := shpC_len hs
  obtain ⟨s, b, kd, z⟩ := ti
  have hG := (hT t _ ht).kind
  have one : ∀ u, v = u → u.cells = #[u] → TyA T B t l = (fun x => TySs B l [x]) → ∃ x, TyA T B t l x ∧ RI (szOf T) (heapV w) v x := by
    rintro u rfl hu he
    rw [hu] at h2
    obtain ⟨h3, h4⟩ := h2
    match row, h3 with
    | [x], _ => exact ⟨x, by rw [he]; exact h1, (h4 0 v x rfl rfl).1⟩
  cases kd with
  | bool => obtain ⟨u, rfl⟩ := okWide_bool hG hv; exact one _ rfl rfl (by funext x; simp [TyA, ht])
  | int kk => obtain ⟨u, rfl⟩ := okWide_int hG hv; exact one _ rfl rfl (by funext x; simp [TyA, ht])
  | str => obtain ⟨u, rfl⟩ := okWide_string hG hv; exact one _ rfl rfl (by funext x; simp [TyA, ht])
  | slice e => obtain ⟨a, m, n, rfl⟩ := okWide_slice hG hv; exact one _ rfl rfl (by funext x; simp [TyA, ht])
  | struct fs =>
    obtain ⟨fa, hu, _⟩ := hG
    obtain ⟨cs, rfl, _⟩ := okWide_struct hu hv
    refine ⟨.agg row, by simp only [TyA, ht]; exact ⟨row, rfl, h1⟩, ?_⟩
    simp only [Value.cells] at h2
    refine RI.agg row cs (by simpa using h2.1) (fun u hu => ?_) (fun j u d a b => (h2.2 j u d (by simpa using a) b).1)
    obtain ⟨j, hj⟩ := List.getElem?_of_mem hu
    have hl : j < row.length := by rw [← h2.1]; exact (List.getElem?_eq_some_iff.1 hj).1
    exact (h2.2 j u _ hj (List.getElem?_eq_getElem hl)).2
  | array n e => cases f with | zero => simp [shpC] at hs | succ f => simp [shpC, ht] at hs
  | ptr e => cases f with | zero => simp [shpC] at hs | succ f => simp [shpC, ht] at hs
  | other => cases f with | zero => simp [shpC] at hs | succ f => simp [shpC, ht] at hs
theorem args_ri (hT : TOk P T) {B : Nat} (hBm : B ≤ maxLen) {f base : Nat} {r : Reach} : ∀ (ts : List TypeId) (ls : List (List Shp)) (vs : List Value) (ds : List (DataW H)) (ps : List MemPlace), shapes T f ts = some ls →
    (B = maxLen ∨ Rows.uptoBulkAll ds ≤ B) → (∀ (j : Nat) t v, ts[j]? = some t → vs[j]? = some v → Value.okWide P w r base t v) → DataW.TrodAll enc P w 0 (fun _ => true) true ts vs ds ps →
    ∃ xs, TyAs T B ts ls xs ∧ vs.length = xs.length ∧ ∀ (j : Nat) v x, vs[j]? = some v → xs[j]? = some x → RI (szOf T) (heapV w) v x
  | [], ls, vs, ds, ps, hs, _, _, h => by
    obtain ⟨rfl, rfl, rfl⟩ := trodAll_nil h
    cases hs
    exact ⟨[], trivial, rfl, fun j v x h => by simp at h⟩
  | t :: ts, ls, vs, ds, ps, hs, hB, hv, h => by
    obtain ⟨v, vs', d, ds', p, q, rfl, rfl, rfl, h1, h2⟩ := trodAll_cons h
    simp only [shapes] at hs
    split at hs
    case h_2 => cases hs
    rename_i l r h3 h4
    cases hs
    obtain ⟨x, hx1, hx2⟩ := arg_ri hT hBm h3 (by
      rcases hB with hB | hB
      · exact .inl hB
      · right; simp only [Rows.uptoBulkAll] at hB; omega) (hv 0 t v rfl rfl) h1
    obtain ⟨xs, hy1, hy2, hy3⟩ := args_ri hT hBm ts r vs' ds' q h4 (by
      rcases hB with hB | hB
      · exact .inl hB
      · right; simp only [Rows.uptoBulkAll] at hB; omega) (fun j t' v' a b => hv (j + 1) t' v' (by simpa using a) (by simpa using b)) h2
    refine ⟨x :: xs, ⟨hx1, hy1⟩, by simp [hy2], fun j v' x' a b => ?_⟩
    cases j with
    | zero => simp at a b; subst a b; exact hx2
    | succ j => exact hy3 j v' x' (by simpa using a) (by simpa using b)
theorem stays (hl : laidOutB P = true) {W W' : World} (hb : Below W.heap.size W W') {sp : Nat → Bool} : ∀ (ts : List TypeId) (vs : List Value) (ds : List (DataW H)) (ps : List MemPlace), (∀ t ∈ ts, P.readableRec t = true ∧ t < P.types.size) →
    (∀ p ∈ ps, p.block < W.heap.size) → (∀ p ∈ ps, sp p.block = true) → DataW.TrodAll enc P W 0 (fun _ => true) true ts vs ds ps → DataW.TrodAll enc P W' 0 sp true ts vs ds ps
  | [], vs, ds, ps, _, _, _, h => by
    obtain ⟨rfl, rfl, rfl⟩ := trodAll_nil h
    exact trodAll_mk0
  | t :: ts, vs, ds, ps, ht, h1, h2, h => by
    obtain ⟨v, vs', d, ds', p, q, rfl, rfl, rfl, h3, h4⟩ := trodAll_cons h
    refine ⟨p, q, WideElems.Trod_stays hl (ht t (by simp)).1 (ht t (by simp)).2 h3 (fun x hx => hb.same (h1 x (by simp [hx]))) (fun x hx => h2 x (by simp [hx])),
      stays hl hb ts vs' ds' q (fun t' hm => ht t' (by simp [hm])) (fun x hx => h1 x (by simp [hx])) (fun x hx => h2 x (by simp [hx])) h4, rfl⟩
theorem trod_len : ∀ {ts : List TypeId} {vs : List Value} {ds : List (DataW H)} {ps : List MemPlace}, DataW.TrodAll enc P w 0 (fun _ => true) true ts vs ds ps → ds.length = ts.length
  | [], _, _, _, h => by obtain ⟨rfl, rfl, rfl⟩ := trodAll_nil h; rfl
  | _ :: _, _, _, _, h => by
    obtain ⟨v, vs', d, ds', p, q, rfl, rfl, rfl, _, h4⟩ := trodAll_cons h
    simp [trod_len h4]
theorem law_calls (hT : TOk P T) {B : Nat} (hBm : B ≤ maxLen) {f : FuncId} {fn : Func} {s : ChangeSpec} {ls : List (List Shp)} {n : Nat} {tb : TypeId} {ts : List TypeId} (hp : fn.params.toList = ts) (hr : fn.resultTypes = #[tb]) (htb : P.underlying tb = some .bool)
    (hsv : s.vars = []) (hs : ∀ (ds : List (DataW H)), ds.length = ts.length → s.fn H ds = { results := [.lit (.bool true)], args := ds })
    (hl : laidOutB P = true) (hts : ∀ t ∈ ts, P.readableRec t = true ∧ t < P.types.size) (hsh : shapes T n ts = some ls)
    (hlaw : ∀ xs, TyAs T B ts ls xs → FSpec P T f xs (fun d _ => d = .b True))
    (W : World) (base : Nat) (args : Array Value) (ds gs : List (DataW H)) (before : List MemPlace)
    (hval : ∀ (j : Nat) t v, fn.params[j]? = some t → args[j]? = some v → Value.okWide P W .any base t v)
    (hW : DataW.Whole enc P fn.params.toList s.vars false W args.toList ds gs before) (hB : B = maxLen ∨ Rows.uptoBulkAll (ds ++ gs) ≤ B) :
    Calls P f args W fun e W' => ∃ v, e = .returned v ∧ s.post enc P fn false true false false W args v W' := by
  have hlt := hW.lt
  obtain ⟨p, q, hA, hV, rfl, hfz, hnd⟩ := id hW
  rw [hsv] at hV
  obtain ⟨rfl, rfl⟩ := trodVars_none hV
  simp only [List.append_nil] at hlt hB hfz
  rw [hp] at hA
  obtain ⟨xs, h1, h2, h3⟩ := args_ri hT hBm ts ls args.toList ds p hsh hB (fun j t v a b => hval j t v (by rw [← hp] at a; simpa using a) (by simpa using b)) hA
  have hdl : ds.length = ts.length := trod_len hA
  refine ((hlaw xs h1).run (heapV W) W args (fun _ _ h => h) (by simpa using h2) (fun j v d a b => h3 j v d (by simpa using a) b)).mono fun e W' hx => ?_
  obtain ⟨V', ω, row, v, d, rfl, hd, hRS, hres⟩ := hx
  subst hd
  obtain ⟨b, rfl, hbt⟩ := hRS.bool
  have hbt : b = true := hbt.2 trivial
  subst hbt
  refine ⟨_, rfl, ?_⟩
  have hb := hres.below
  have hargs : ∀ sp : Nat → Bool, (∀ x ∈ p, sp x.block = true) → DataW.TrodAll enc P W' 0 sp true fn.params.toList args.toList ds p := fun sp hsp => by
    rw [hp]; exact stays hl hb ts args.toList ds p hts hlt hsp hA
  have hrs : ∀ (b : Nat) (sp : Nat → Bool) (hd : Bool), DataW.TrodAll enc P W' b sp hd fn.resultTypes.toList ((Value.bool true).resultList fn.resultTypes.size) [.lit (.bool true)] [] := fun b sp hd => by
    rw [hr]
    exact trodAll_mk1 (shut_bool htb _)
  have hsf := hs ds hdl
  refine ⟨ds, [], p, [], p, [], by simpa using hW, ?_, ?_, ?_, ?_, ?_⟩
  · rw [List.append_nil, hsf]; exact hrs _ _ _
  · rw [List.append_nil, hsf]; exact hargs _ fun x hx => by simpa using hlt x hx
  · rw [hsv, List.append_nil, hsf]; exact rfl
  · exact World.keptBut_mono (fun x hx => ⟨hx, by simpa using hx⟩) (hb.frame (· ∈ p))
  · intro _
    refine ⟨?_, ?_⟩
    · exact ok_one hr rfl (okWide_bool_mk htb _)
    · refine ⟨_, [], ([] ++ p) ++ [], ⟨[] ++ p, [], trodAll_append (hargs _ (fun _ _ => rfl)) (hrs 0 _ _), ?_, rfl, ?_, fun h => by cases h⟩, fun x hx _ => by simpa using hx⟩
      · rw [hsv]; rfl
      · intro b off hx
        have hin : MemPlace.cell b off ∈ p := by simpa using hx
        rw [hb.frozen (hlt _ hin)]
        exact hfz b off hin
end
end Go.Vx
namespace Go.Vx
open Go.RowKit
theorem ss_cons {B : Nat} {s : Shp} {ss : List Shp} {r : List D} (h : TySs B (s :: ss) r) : ∃ d ds, r = d :: ds ∧ TySs B [s] [d] ∧ TySs B ss ds := by
  cases r with
  | nil => simp [TySs] at h
  | cons d ds => simp only [TySs] at h; exact ⟨d, ds, rfl, by simpa only [TySs, and_true] using h.1, h.2⟩
theorem ss_nil {B : Nat} {r : List D} (h : TySs B [] r) : r = [] := by
  cases r with
  | nil => rfl
  | cons d ds => simp [TySs] at h
theorem as_cons {T : Tab} {B : Nat} {t : TypeId} {ts : List TypeId} {l : List Shp} {ls : List (List Shp)} {xs : List D} (h : TyAs T B (t :: ts) (l :: ls) xs) : ∃ x r, xs = x :: r ∧ TyA T B t l x ∧ TyAs T B ts ls r := by
  cases xs with
  | nil => exact h.elim
  | cons x r => exact ⟨x, r, rfl, h.1, h.2⟩
theorem as_nil {T : Tab} {B : Nat} {xs : List D} (h : TyAs T B [] [] xs) : xs = [] := by
  cases xs with
  | nil => rfl
  | cons x r => exact h.elim
def isSt : Option TI → Bool | some ⟨_, _, .struct _, _⟩ => true | _ => false
theorem leaf {T : Tab} {B : Nat} {t : TypeId} {l : List Shp} {x : D} (h : TyA T B t l x) (ht : isSt (T t) = false) : TySs B l [x] := by
  unfold TyA at h
  split at h
  · rename_i h1; rw [h1] at ht; cases ht
  · exact h
theorem list_of {α : Type} {f : α → List D} {p : α → Prop} : ∀ {rows : List (List D)}, (∀ r ∈ rows, ∃ a, r = f a ∧ p a) → ∃ l : List α, rows = l.map f ∧ ∀ a ∈ l, p a
  | [], _ => ⟨[], rfl, by simp⟩
  | r :: rows, h => by
    obtain ⟨a, rfl, ha⟩ := h r (by simp)
    obtain ⟨l, rfl, hl⟩ := list_of (rows := rows) fun r hr => h r (by simp [hr])
    exact ⟨a :: l, rfl, by simpa using ⟨ha, hl⟩⟩
theorem lst_of {B : Nat} {α : Type} {f : α → List D} {p : α → Prop} {e : TypeId} {l : List Shp} {x : D} (h : TySs B [.slice e l] [x]) (hf : ∀ r, TySs B l r → ∃ a, r = f a ∧ p a) :
    ∃ (us : List α) (room : List α), x = .lst e (us.map f) (room.map f) ∧ us.length + room.length ≤ B ∧ (∀ a ∈ us, p a) ∧ ∀ a ∈ room, p a := by
  simp only [TySs, TyS, and_true] at h
  obtain ⟨rows, room, rfl, hl, hr⟩ := h
  obtain ⟨us, rfl, h1⟩ := list_of (f := f) (p := p) (rows := rows) fun r h => hf r (hr r (by simp [h]))
  obtain ⟨bs, rfl, h2⟩ := list_of (f := f) (p := p) (rows := room) fun r h => hf r (hr r (by simp [h]))
  exact ⟨us, bs, rfl, by simpa using hl, h1, h2⟩
theorem int_of {B : Nat} {k : IntKind} {x : D} (h : TySs B [.int k] [x]) : ∃ n, x = .i k n ∧ (Lit.int k n).wf = true := by
  simpa only [TySs, TyS, and_true] using h
theorem str_of {B : Nat} {x : D} (h : TySs B [.str] [x]) : ∃ l, x = .s l ∧ l.length ≤ B := by
  simpa only [TySs, TyS, and_true] using h
end Go.Vx
namespace Go.Proofs.YtaiondckookpiaaGreatDoor
open Go Go.Vx
def T : Tab := fun t => match t with
  | 3 => some ⟨1, 8, .int .i64, [.i .i64 0]⟩
  | 4 => some ⟨1, 1, .bool, [.ff]⟩
  | 5 => some ⟨1, 1, .int .u8, [.i .u8 0]⟩
  | 9 => some ⟨1, 16, .str, [.s []]⟩
  | 20 => some ⟨1, 16, .other, [.u]⟩
  | 22 => some ⟨1, 24, .slice 112, [.nilS]⟩
  | 24 => some ⟨2, 32, .struct [(0, 3), (1, 22)], [.i .i64 0, .nilS]⟩
  | 25 => some ⟨1, 24, .slice 120, [.nilS]⟩
  | 27 => some ⟨2, 32, .struct [(0, 3), (1, 25)], [.i .i64 0, .nilS]⟩
  | 30 => some ⟨1, 8, .int .i64, [.i .i64 0]⟩
  | 37 => some ⟨1, 24, .slice 9, [.nilS]⟩
  | 38 => some ⟨1, 8, .other, [.u]⟩
  | 42 => some ⟨1, 8, .int .u64, [.i .u64 0]⟩
  | 44 => some ⟨4, 32, .array 4 42, [.i .u64 0, .i .u64 0, .i .u64 0, .i .u64 0]⟩
  | 46 => some ⟨9, 72, .struct [(0, 3), (1, 44), (5, 44)], [.i .i64 0, .i .u64 0, .i .u64 0, .i .u64 0, .i .u64 0, .i .u64 0, .i .u64 0, .i .u64 0, .i .u64 0]⟩
  | 52 => some ⟨1, 8, .other, [.u]⟩
  | 58 => some ⟨1, 24, .slice 46, [.nilS]⟩
  | 82 => some ⟨1, 24, .slice 4, [.nilS]⟩
  | 89 => some ⟨1, 24, .slice 100, [.nilS]⟩
  | 90 => some ⟨1, 8, .ptr 94, [.nilP]⟩
  | 91 => some ⟨1, 24, .slice 24, [.nilS]⟩
  | 92 => some ⟨1, 24, .slice 27, [.nilS]⟩
  | 94 => some ⟨3, 72, .struct [(0, 91), (1, 92), (2, 37)], [.nilS, .nilS, .nilS]⟩
  | 100 => some ⟨7, 64, .struct [(0, 3), (1, 3), (2, 3), (3, 3), (4, 3), (5, 9), (6, 3)], [.i .i64 0, .i .i64 0, .i .i64 0, .i .i64 0, .i .i64 0, .s [], .i .i64 0]⟩
  | 104 => some ⟨1, 8, .other, [.u]⟩
  | 112 => some ⟨11, 112, .struct [(0, 46), (9, 58), (10, 9)], [.i .i64 0, .i .u64 0, .i .u64 0, .i .u64 0, .i .u64 0, .i .u64 0, .i .u64 0, .i .u64 0, .i .u64 0, .nilS, .s []]⟩
  | 120 => some ⟨2, 40, .struct [(0, 9), (1, 37)], [.s [], .nilS]⟩
  | 126 => some ⟨1, 8, .other, [.u]⟩
  | 129 => some ⟨1, 24, .slice 5, [.nilS]⟩
  | 136 => some ⟨1, 8, .other, [.u]⟩
  | 138 => some ⟨1, 24, .slice 58, [.nilS]⟩
  | 144 => some ⟨1, 8, .ptr 146, [.nilP]⟩
  | 146 => some ⟨2, 32, .struct [(0, 144), (1, 129)], [.nilP, .nilS]⟩
  | 154 => some ⟨0, 0, .struct [], []⟩
  | 157 => some ⟨1, 8, .other, [.u]⟩
  | 161 => some ⟨1, 8, .other, [.u]⟩
  | 162 => some ⟨1, 24, .slice 164, [.nilS]⟩
  | 164 => some ⟨10, 88, .struct [(0, 46), (9, 9)], [.i .i64 0, .i .u64 0, .i .u64 0, .i .u64 0, .i .u64 0, .i .u64 0, .i .u64 0, .i .u64 0, .i .u64 0, .s []]⟩
  | 167 => some ⟨1, 8, .ptr 44, [.nilP]⟩
  | _ => none
theorem good3 : Vx.Good Tryz.prog 3 ⟨1, 8, .int .i64, [.i .i64 0]⟩ :=
  ⟨⟨Tryz.t3, .int .i64 0, by kernel_rfl, rfl, rfl, rfl, rfl, rfl, by simp [Value.cells, Value.oneCell']⟩, Tryz.underlying3, fun w => Tryz.isAgg3 w, by decide⟩
theorem good4 : Vx.Good Tryz.prog 4 ⟨1, 1, .bool, [.ff]⟩ :=
  ⟨⟨Tryz.t4, .bool false, by kernel_rfl, rfl, rfl, rfl, rfl, rfl, by simp [Value.cells, Value.oneCell']⟩, Tryz.underlying4, fun w => Tryz.isAgg4 w, by decide⟩
theorem good5 : Vx.Good Tryz.prog 5 ⟨1, 1, .int .u8, [.i .u8 0]⟩ :=
  ⟨⟨Tryz.t5, .int .u8 0, by kernel_rfl, rfl, rfl, rfl, rfl, rfl, by simp [Value.cells, Value.oneCell']⟩, Tryz.underlying5, fun w => Tryz.isAgg5 w, by decide⟩
theorem good9 : Vx.Good Tryz.prog 9 ⟨1, 16, .str, [.s []]⟩ :=
  ⟨⟨Tryz.t9, .string ⟨#[]⟩, by kernel_rfl, rfl, rfl, rfl, rfl, rfl, by simp [Value.cells, Value.oneCell']⟩, Tryz.underlying9, fun w => Tryz.isAgg9 w, by decide⟩
theorem good20 : Vx.Good Tryz.prog 20 ⟨1, 16, .other, [.u]⟩ :=
  ⟨⟨Tryz.t20, .nilIface, by kernel_rfl, rfl, rfl, rfl, rfl, rfl, by simp [Value.cells, Value.oneCell']⟩, trivial, fun w => Tryz.isAgg20 w, by decide⟩
theorem good22 : Vx.Good Tryz.prog 22 ⟨1, 24, .slice 112, [.nilS]⟩ :=
  ⟨⟨Tryz.t22, .slice none 0 0, by kernel_rfl, rfl, rfl, rfl, rfl, rfl, by simp [Value.cells, Value.oneCell']⟩, Tryz.underlying22, fun w => Tryz.isAgg22 w, by decide⟩
theorem good24 : Vx.Good Tryz.prog 24 ⟨2, 32, .struct [(0, 3), (1, 22)], [.i .i64 0, .nilS]⟩ :=
  ⟨⟨Tryz.t24, .agg #[.int .i64 0, .slice none 0 0], by kernel_rfl, rfl, rfl, rfl, rfl, rfl, by simp [Value.cells, Value.oneCell']⟩, ⟨_, Tryz.underlying24, rfl⟩, fun w => Tryz.isAgg24 w, by decide⟩
theorem good25 : Vx.Good Tryz.prog 25 ⟨1, 24, .slice 120, [.nilS]⟩ :=
  ⟨⟨Tryz.t25, .slice none 0 0, by kernel_rfl, rfl, rfl, rfl, rfl, rfl, by simp [Value.cells, Value.oneCell']⟩, Tryz.underlying25, fun w => Tryz.isAgg25 w, by decide⟩
theorem good27 : Vx.Good Tryz.prog 27 ⟨2, 32, .struct [(0, 3), (1, 25)], [.i .i64 0, .nilS]⟩ :=
  ⟨⟨Tryz.t27, .agg #[.int .i64 0, .slice none 0 0], by kernel_rfl, rfl, rfl, rfl, rfl, rfl, by simp [Value.cells, Value.oneCell']⟩, ⟨_, Tryz.underlying27, rfl⟩, fun w => Tryz.isAgg27 w, by decide⟩
theorem good30 : Vx.Good Tryz.prog 30 ⟨1, 8, .int .i64, [.i .i64 0]⟩ :=
  ⟨⟨Tryz.t30, .int .i64 0, by kernel_rfl, rfl, rfl, rfl, rfl, rfl, by simp [Value.cells, Value.oneCell']⟩, Tryz.underlying30, fun w => Tryz.isAgg30 w, by decide⟩
theorem good37 : Vx.Good Tryz.prog 37 ⟨1, 24, .slice 9, [.nilS]⟩ :=
  ⟨⟨Tryz.t37, .slice none 0 0, by kernel_rfl, rfl, rfl, rfl, rfl, rfl, by simp [Value.cells, Value.oneCell']⟩, Tryz.underlying37, fun w => Tryz.isAgg37 w, by decide⟩
theorem good38 : Vx.Good Tryz.prog 38 ⟨1, 8, .other, [.u]⟩ :=
  ⟨⟨Tryz.t38, .nilFunc, by kernel_rfl, rfl, rfl, rfl, rfl, rfl, by simp [Value.cells, Value.oneCell']⟩, trivial, fun w => Tryz.isAgg38 w, by decide⟩
theorem good42 : Vx.Good Tryz.prog 42 ⟨1, 8, .int .u64, [.i .u64 0]⟩ :=
  ⟨⟨Tryz.t42, .int .u64 0, by kernel_rfl, rfl, rfl, rfl, rfl, rfl, by simp [Value.cells, Value.oneCell']⟩, Tryz.underlying42, fun w => Tryz.isAgg42 w, by decide⟩
theorem good44 : Vx.Good Tryz.prog 44 ⟨4, 32, .array 4 42, [.i .u64 0, .i .u64 0, .i .u64 0, .i .u64 0]⟩ :=
  ⟨⟨Tryz.t44, .agg #[.int .u64 0, .int .u64 0, .int .u64 0, .int .u64 0], by kernel_rfl, rfl, rfl, rfl, rfl, rfl, by simp [Value.cells, Value.oneCell']⟩, Tryz.underlying44, fun w => Tryz.isAgg44 w, by decide⟩
theorem good46 : Vx.Good Tryz.prog 46 ⟨9, 72, .struct [(0, 3), (1, 44), (5, 44)], [.i .i64 0, .i .u64 0, .i .u64 0, .i .u64 0, .i .u64 0, .i .u64 0, .i .u64 0, .i .u64 0, .i .u64 0]⟩ :=
  ⟨⟨Tryz.t46, .agg #[.int .i64 0, .int .u64 0, .int .u64 0, .int .u64 0, .int .u64 0, .int .u64 0, .int .u64 0, .int .u64 0, .int .u64 0], by kernel_rfl, rfl, rfl, rfl, rfl, rfl, by simp [Value.cells, Value.oneCell']⟩, ⟨_, Tryz.underlying46, rfl⟩, fun w => Tryz.isAgg46 w, by decide⟩
theorem good52 : Vx.Good Tryz.prog 52 ⟨1, 8, .other, [.u]⟩ :=
  ⟨⟨Tryz.t52, .nilFunc, by kernel_rfl, rfl, rfl, rfl, rfl, rfl, by simp [Value.cells, Value.oneCell']⟩, trivial, fun w => Tryz.isAgg52 w, by decide⟩
theorem good58 : Vx.Good Tryz.prog 58 ⟨1, 24, .slice 46, [.nilS]⟩ :=
  ⟨⟨Tryz.t58, .slice none 0 0, by kernel_rfl, rfl, rfl, rfl, rfl, rfl, by simp [Value.cells, Value.oneCell']⟩, Tryz.underlying58, fun w => Tryz.isAgg58 w, by decide⟩
theorem good82 : Vx.Good Tryz.prog 82 ⟨1, 24, .slice 4, [.nilS]⟩ :=
  ⟨⟨Tryz.t82, .slice none 0 0, by kernel_rfl, rfl, rfl, rfl, rfl, rfl, by simp [Value.cells, Value.oneCell']⟩, Tryz.underlying82, fun w => Tryz.isAgg82 w, by decide⟩
theorem good89 : Vx.Good Tryz.prog 89 ⟨1, 24, .slice 100, [.nilS]⟩ :=
  ⟨⟨Tryz.t89, .slice none 0 0, by kernel_rfl, rfl, rfl, rfl, rfl, rfl, by simp [Value.cells, Value.oneCell']⟩, Tryz.underlying89, fun w => Tryz.isAgg89 w, by decide⟩
theorem good90 : Vx.Good Tryz.prog 90 ⟨1, 8, .ptr 94, [.nilP]⟩ :=
  ⟨⟨Tryz.t90, .pointer none, by kernel_rfl, rfl, rfl, rfl, rfl, rfl, by simp [Value.cells, Value.oneCell']⟩, Tryz.underlying90, fun w => Tryz.isAgg90 w, by decide⟩
theorem good91 : Vx.Good Tryz.prog 91 ⟨1, 24, .slice 24, [.nilS]⟩ :=
  ⟨⟨Tryz.t91, .slice none 0 0, by kernel_rfl, rfl, rfl, rfl, rfl, rfl, by simp [Value.cells, Value.oneCell']⟩, Tryz.underlying91, fun w => Tryz.isAgg91 w, by decide⟩
theorem good92 : Vx.Good Tryz.prog 92 ⟨1, 24, .slice 27, [.nilS]⟩ :=
  ⟨⟨Tryz.t92, .slice none 0 0, by kernel_rfl, rfl, rfl, rfl, rfl, rfl, by simp [Value.cells, Value.oneCell']⟩, Tryz.underlying92, fun w => Tryz.isAgg92 w, by decide⟩
theorem good94 : Vx.Good Tryz.prog 94 ⟨3, 72, .struct [(0, 91), (1, 92), (2, 37)], [.nilS, .nilS, .nilS]⟩ :=
  ⟨⟨Tryz.t94, .agg #[.slice none 0 0, .slice none 0 0, .slice none 0 0], by kernel_rfl, rfl, rfl, rfl, rfl, rfl, by simp [Value.cells, Value.oneCell']⟩, ⟨_, Tryz.underlying94, rfl⟩, fun w => Tryz.isAgg94 w, by decide⟩
theorem good100 : Vx.Good Tryz.prog 100 ⟨7, 64, .struct [(0, 3), (1, 3), (2, 3), (3, 3), (4, 3), (5, 9), (6, 3)], [.i .i64 0, .i .i64 0, .i .i64 0, .i .i64 0, .i .i64 0, .s [], .i .i64 0]⟩ :=
  ⟨⟨Tryz.t100, .agg #[.int .i64 0, .int .i64 0, .int .i64 0, .int .i64 0, .int .i64 0, .string ⟨#[]⟩, .int .i64 0], by kernel_rfl, rfl, rfl, rfl, rfl, rfl, by simp [Value.cells, Value.oneCell']⟩, ⟨_, Tryz.underlying100, rfl⟩, fun w => Tryz.isAgg100 w, by decide⟩
theorem good104 : Vx.Good Tryz.prog 104 ⟨1, 8, .other, [.u]⟩ :=
  ⟨⟨Tryz.t104, .nilFunc, by kernel_rfl, rfl, rfl, rfl, rfl, rfl, by simp [Value.cells, Value.oneCell']⟩, trivial, fun w => Tryz.isAgg104 w, by decide⟩
theorem good112 : Vx.Good Tryz.prog 112 ⟨11, 112, .struct [(0, 46), (9, 58), (10, 9)], [.i .i64 0, .i .u64 0, .i .u64 0, .i .u64 0, .i .u64 0, .i .u64 0, .i .u64 0, .i .u64 0, .i .u64 0, .nilS, .s []]⟩ :=
  ⟨⟨Tryz.t112, .agg #[.int .i64 0, .int .u64 0, .int .u64 0, .int .u64 0, .int .u64 0, .int .u64 0, .int .u64 0, .int .u64 0, .int .u64 0, .slice none 0 0, .string ⟨#[]⟩], by kernel_rfl, rfl, rfl, rfl, rfl, rfl, by simp [Value.cells, Value.oneCell']⟩, ⟨_, Tryz.underlying112, rfl⟩, fun w => Tryz.isAgg112 w, by decide⟩
theorem good120 : Vx.Good Tryz.prog 120 ⟨2, 40, .struct [(0, 9), (1, 37)], [.s [], .nilS]⟩ :=
  ⟨⟨Tryz.t120, .agg #[.string ⟨#[]⟩, .slice none 0 0], by kernel_rfl, rfl, rfl, rfl, rfl, rfl, by simp [Value.cells, Value.oneCell']⟩, ⟨_, Tryz.underlying120, rfl⟩, fun w => Tryz.isAgg120 w, by decide⟩
theorem good126 : Vx.Good Tryz.prog 126 ⟨1, 8, .other, [.u]⟩ :=
  ⟨⟨Tryz.t126, .nilFunc, by kernel_rfl, rfl, rfl, rfl, rfl, rfl, by simp [Value.cells, Value.oneCell']⟩, trivial, fun w => Tryz.isAgg126 w, by decide⟩
theorem good129 : Vx.Good Tryz.prog 129 ⟨1, 24, .slice 5, [.nilS]⟩ :=
  ⟨⟨Tryz.t129, .slice none 0 0, by kernel_rfl, rfl, rfl, rfl, rfl, rfl, by simp [Value.cells, Value.oneCell']⟩, Tryz.underlying129, fun w => Tryz.isAgg129 w, by decide⟩
theorem good136 : Vx.Good Tryz.prog 136 ⟨1, 8, .other, [.u]⟩ :=
  ⟨⟨Tryz.t136, .nilFunc, by kernel_rfl, rfl, rfl, rfl, rfl, rfl, by simp [Value.cells, Value.oneCell']⟩, trivial, fun w => Tryz.isAgg136 w, by decide⟩
theorem good138 : Vx.Good Tryz.prog 138 ⟨1, 24, .slice 58, [.nilS]⟩ :=
  ⟨⟨Tryz.t138, .slice none 0 0, by kernel_rfl, rfl, rfl, rfl, rfl, rfl, by simp [Value.cells, Value.oneCell']⟩, Tryz.underlying138, fun w => Tryz.isAgg138 w, by decide⟩
theorem good144 : Vx.Good Tryz.prog 144 ⟨1, 8, .ptr 146, [.nilP]⟩ :=
  ⟨⟨Tryz.t144, .pointer none, by kernel_rfl, rfl, rfl, rfl, rfl, rfl, by simp [Value.cells, Value.oneCell']⟩, Tryz.underlying144, fun w => Tryz.isAgg144 w, by decide⟩
theorem good146 : Vx.Good Tryz.prog 146 ⟨2, 32, .struct [(0, 144), (1, 129)], [.nilP, .nilS]⟩ :=
  ⟨⟨Tryz.t146, .agg #[.pointer none, .slice none 0 0], by kernel_rfl, rfl, rfl, rfl, rfl, rfl, by simp [Value.cells, Value.oneCell']⟩, ⟨_, Tryz.underlying146, rfl⟩, fun w => Tryz.isAgg146 w, by decide⟩
theorem good154 : Vx.Good Tryz.prog 154 ⟨0, 0, .struct [], []⟩ :=
  ⟨⟨Tryz.t154, .agg #[], by kernel_rfl, rfl, rfl, rfl, rfl, rfl, by simp [Value.cells, Value.oneCell']⟩, ⟨_, Tryz.underlying154, rfl⟩, fun w => Tryz.isAgg154 w, by decide⟩
theorem good157 : Vx.Good Tryz.prog 157 ⟨1, 8, .other, [.u]⟩ :=
  ⟨⟨Tryz.t157, .nilFunc, by kernel_rfl, rfl, rfl, rfl, rfl, rfl, by simp [Value.cells, Value.oneCell']⟩, trivial, fun w => Tryz.isAgg157 w, by decide⟩
theorem good161 : Vx.Good Tryz.prog 161 ⟨1, 8, .other, [.u]⟩ :=
  ⟨⟨Tryz.t161, .nilFunc, by kernel_rfl, rfl, rfl, rfl, rfl, rfl, by simp [Value.cells, Value.oneCell']⟩, trivial, fun w => Tryz.isAgg161 w, by decide⟩
theorem good162 : Vx.Good Tryz.prog 162 ⟨1, 24, .slice 164, [.nilS]⟩ :=
  ⟨⟨Tryz.t162, .slice none 0 0, by kernel_rfl, rfl, rfl, rfl, rfl, rfl, by simp [Value.cells, Value.oneCell']⟩, Tryz.underlying162, fun w => Tryz.isAgg162 w, by decide⟩
theorem good164 : Vx.Good Tryz.prog 164 ⟨10, 88, .struct [(0, 46), (9, 9)], [.i .i64 0, .i .u64 0, .i .u64 0, .i .u64 0, .i .u64 0, .i .u64 0, .i .u64 0, .i .u64 0, .i .u64 0, .s []]⟩ :=
  ⟨⟨Tryz.t164, .agg #[.int .i64 0, .int .u64 0, .int .u64 0, .int .u64 0, .int .u64 0, .int .u64 0, .int .u64 0, .int .u64 0, .int .u64 0, .string ⟨#[]⟩], by kernel_rfl, rfl, rfl, rfl, rfl, rfl, by simp [Value.cells, Value.oneCell']⟩, ⟨_, Tryz.underlying164, rfl⟩, fun w => Tryz.isAgg164 w, by decide⟩
theorem good167 : Vx.Good Tryz.prog 167 ⟨1, 8, .ptr 44, [.nilP]⟩ :=
  ⟨⟨Tryz.t167, .pointer none, by kernel_rfl, rfl, rfl, rfl, rfl, rfl, by simp [Value.cells, Value.oneCell']⟩, Tryz.underlying167, fun w => Tryz.isAgg167 w, by decide⟩
set_option maxRecDepth 10000 in
theorem tok : TOk Tryz.prog T := by
  intro t ti h
  unfold T at h
  split at h
  · cases h; exact good3
  · cases h; exact good4
  · cases h; exact good5
  · cases h; exact good9
  · cases h; exact good20
  · cases h; exact good22
  · cases h; exact good24
  · cases h; exact good25
  · cases h; exact good27
  · cases h; exact good30
  · cases h; exact good37
  · cases h; exact good38
  · cases h; exact good42
  · cases h; exact good44
  · cases h; exact good46
  · cases h; exact good52
  · cases h; exact good58
  · cases h; exact good82
  · cases h; exact good89
  · cases h; exact good90
  · cases h; exact good91
  · cases h; exact good92
  · cases h; exact good94
  · cases h; exact good100
  · cases h; exact good104
  · cases h; exact good112
  · cases h; exact good120
  · cases h; exact good126
  · cases h; exact good129
  · cases h; exact good136
  · cases h; exact good138
  · cases h; exact good144
  · cases h; exact good146
  · cases h; exact good154
  · cases h; exact good157
  · cases h; exact good161
  · cases h; exact good162
  · cases h; exact good164
  · cases h; exact good167
  · cases h
theorem follows : Tryz.prog.follows .mixedOrders = true := by kernel_rfl
end Go.Proofs.YtaiondckookpiaaGreatDoor
namespace Go.Proofs
open Go.Shelf
def Tryz.vxSort_ren : Go.Shelf.Ren := ⟨fun | 6 => 115 | 10 => 134 | 11 => 135 | 12 => 136 | 13 => 137 | 14 => 138 | 24 => 154 | 25 => 155 | 26 => 156 | 27 => 157 | 28 => 158 | 29 => 159 | 30 => 160 | 31 => 161 | 32 => 162 | 33 => 163 | 34 => 168 | 35 => 169 | 36 => 170 | 37 => 171 | 38 => 172 | 39 => 178 | n => n, fun | 20 => 20 | 26 => 104 | 35 => 175 | 0 => 0 | 37 => 177 | 3 => 3 | 41 => 180 | 44 => 183 | 49 => 192 | 51 => 42 | 4 => 4 | 54 => 196 | 53 => 195 | 58 => 200 | 5 => 5 | 9 => 9 | 60 => 205 | 64 => 209 | 66 => 211 | 67 => 212 | 17 => 17 | 32 => 172 | 33 => 173 | 82 => 231 | 12 => 12 | 75 => 225 | 76 => 226 | 77 => 227 | 78 => 171 | 79 => 228 | 80 => 229 | n => n, fun | n => n⟩
theorem Tryz.vxSort : Go.Proofs.LaysGg.n6 Tryz.prog Tryz.vxSort_ren := {
  mixed := by kernel_rfl
  f6 := Tryz.func115.trans (congrArg some (by kernel_rfl))
  f10 := Tryz.func134.trans (congrArg some (by kernel_rfl))
  f11 := Tryz.func135.trans (congrArg some (by kernel_rfl))
  f12 := Tryz.func136.trans (congrArg some (by kernel_rfl))
  f13 := Tryz.func137.trans (congrArg some (by kernel_rfl))
  f14 := Tryz.func138.trans (congrArg some (by kernel_rfl))
  f24 := Tryz.func154.trans (congrArg some (by kernel_rfl))
  f25 := Tryz.func155.trans (congrArg some (by kernel_rfl))
  f26 := Tryz.func156.trans (congrArg some (by kernel_rfl))
  f27 := Tryz.func157.trans (congrArg some (by kernel_rfl))
  f28 := Tryz.func158.trans (congrArg some (by kernel_rfl))
  f29 := Tryz.func159.trans (congrArg some (by kernel_rfl))
  f30 := Tryz.func160.trans (congrArg some (by kernel_rfl))
  f31 := Tryz.func161.trans (congrArg some (by kernel_rfl))
  f32 := Tryz.func162.trans (congrArg some (by kernel_rfl))
  f33 := Tryz.func163.trans (congrArg some (by kernel_rfl))
  f34 := Tryz.func168.trans (congrArg some (by kernel_rfl))
  f35 := Tryz.func169.trans (congrArg some (by kernel_rfl))
  f36 := Tryz.func170.trans (congrArg some (by kernel_rfl))
  f37 := Tryz.func171.trans (congrArg some (by kernel_rfl))
  f38 := Tryz.func172.trans (congrArg some (by kernel_rfl))
  f39 := Tryz.func178.trans (congrArg some (by kernel_rfl))
  t0 := Tryz.underlying0
  a0 := Tryz.isAgg0
  z0 := Tryz.sizeOf0
  v0 := Tryz.zeroValue0
  i0 := by kernel_rfl
  t3 := Tryz.underlying3
  a3 := Tryz.isAgg3
  z3 := Tryz.sizeOf3
  v3 := Tryz.zeroValue3
  i3 := by kernel_rfl
  t4 := Tryz.underlying4
  a4 := Tryz.isAgg4
  z4 := Tryz.sizeOf4
  v4 := Tryz.zeroValue4
  i4 := by kernel_rfl
  t5 := Tryz.underlying5
  a5 := Tryz.isAgg5
  z5 := Tryz.sizeOf5
  v5 := Tryz.zeroValue5
  i5 := by kernel_rfl
  t9 := Tryz.underlying9
  a9 := Tryz.isAgg9
  z9 := Tryz.sizeOf9
  v9 := Tryz.zeroValue9
  i9 := by kernel_rfl
  t12 := Tryz.underlying12
  a12 := Tryz.isAgg12
  z12 := Tryz.sizeOf12
  v12 := Tryz.zeroValue12
  i12 := by kernel_rfl
  t17 := Tryz.underlying17
  a17 := Tryz.isAgg17
  z17 := Tryz.sizeOf17
  v17 := Tryz.zeroValue17
  i17 := by kernel_rfl
  t20 := Tryz.underlying20
  a20 := Tryz.isAgg20
  z20 := Tryz.sizeOf20
  v20 := Tryz.zeroValue20
  i20 := by kernel_rfl
  t26 := Tryz.underlying104
  a26 := Tryz.isAgg104
  z26 := Tryz.sizeOf104
  v26 := Tryz.zeroValue104
  i26 := by kernel_rfl
  t32 := Tryz.underlying172
  a32 := Tryz.isAgg172
  z32 := Tryz.sizeOf172
  v32 := Tryz.zeroValue172
  i32 := by kernel_rfl
  t33 := Tryz.underlying173
  a33 := Tryz.isAgg173
  z33 := Tryz.sizeOf173
  v33 := Tryz.zeroValue173
  i33 := by kernel_rfl
  t35 := Tryz.underlying175
  a35 := Tryz.isAgg175
  z35 := Tryz.sizeOf175
  v35 := Tryz.zeroValue175
  i35 := by kernel_rfl
  t37 := Tryz.underlying177
  a37 := Tryz.isAgg177
  z37 := Tryz.sizeOf177
  v37 := Tryz.zeroValue177
  i37 := by kernel_rfl
  t41 := Tryz.underlying180
  a41 := Tryz.isAgg180
  z41 := Tryz.sizeOf180
  v41 := Tryz.zeroValue180
  i41 := by kernel_rfl
  t44 := Tryz.underlying183
  a44 := Tryz.isAgg183
  z44 := Tryz.sizeOf183
  v44 := Tryz.zeroValue183
  i44 := by kernel_rfl
  t49 := Tryz.underlying192
  a49 := Tryz.isAgg192
  z49 := Tryz.sizeOf192
  v49 := Tryz.zeroValue192
  i49 := by kernel_rfl
  t51 := Tryz.underlying42
  a51 := Tryz.isAgg42
  z51 := Tryz.sizeOf42
  v51 := Tryz.zeroValue42
  i51 := by kernel_rfl
  t53 := Tryz.underlying195
  a53 := Tryz.isAgg195
  z53 := Tryz.sizeOf195
  v53 := Tryz.zeroValue195
  i53 := by kernel_rfl
  t54 := Tryz.underlying196
  a54 := Tryz.isAgg196
  z54 := Tryz.sizeOf196
  v54 := Tryz.zeroValue196
  i54 := by kernel_rfl
  t58 := Tryz.underlying200
  a58 := Tryz.isAgg200
  z58 := Tryz.sizeOf200
  v58 := Tryz.zeroValue200
  i58 := by kernel_rfl
  t60 := Tryz.underlying205
  a60 := Tryz.isAgg205
  z60 := Tryz.sizeOf205
  v60 := Tryz.zeroValue205
  i60 := by kernel_rfl
  t64 := Tryz.underlying209
  a64 := Tryz.isAgg209
  z64 := Tryz.sizeOf209
  v64 := Tryz.zeroValue209
  i64 := by kernel_rfl
  t66 := Tryz.underlying211
  a66 := Tryz.isAgg211
  z66 := Tryz.sizeOf211
  v66 := Tryz.zeroValue211
  i66 := by kernel_rfl
  t67 := Tryz.underlying212
  a67 := Tryz.isAgg212
  z67 := Tryz.sizeOf212
  v67 := Tryz.zeroValue212
  i67 := by kernel_rfl
  t75 := Tryz.underlying225
  a75 := Tryz.isAgg225
  z75 := Tryz.sizeOf225
  v75 := Tryz.zeroValue225
  i75 := by kernel_rfl
  t76 := Tryz.underlying226
  a76 := Tryz.isAgg226
  z76 := Tryz.sizeOf226
  v76 := Tryz.zeroValue226
  i76 := by kernel_rfl
  t77 := Tryz.underlying227
  a77 := Tryz.isAgg227
  z77 := Tryz.sizeOf227
  v77 := Tryz.zeroValue227
  i77 := by kernel_rfl
  t78 := Tryz.underlying171
  a78 := Tryz.isAgg171
  z78 := Tryz.sizeOf171
  v78 := Tryz.zeroValue171
  i78 := by kernel_rfl
  t79 := Tryz.underlying228
  a79 := Tryz.isAgg228
  z79 := Tryz.sizeOf228
  v79 := Tryz.zeroValue228
  i79 := by kernel_rfl
  t80 := Tryz.underlying229
  a80 := Tryz.isAgg229
  z80 := Tryz.sizeOf229
  v80 := Tryz.zeroValue229
  i80 := by kernel_rfl
  t82 := Tryz.underlying231
  a82 := Tryz.isAgg231
  z82 := Tryz.sizeOf231
  v82 := Tryz.zeroValue231
  i82 := by kernel_rfl }
def Tryz.vxStr_ren : Go.Shelf.Ren := ⟨fun | 169 => 111 | n => n, fun | 70 => 144 | 9 => 9 | 0 => 0 | 72 => 146 | 37 => 129 | 127 => 171 | 3 => 3 | 5 => 5 | n => n, fun | n => n⟩
theorem Tryz.vxStr : Go.Proofs.Lays.n169 Tryz.prog Tryz.vxStr_ren := {
  mixed := by kernel_rfl
  f169 := Tryz.func111.trans (congrArg some (by kernel_rfl))
  t0 := Tryz.underlying0
  a0 := Tryz.isAgg0
  z0 := Tryz.sizeOf0
  v0 := Tryz.zeroValue0
  t3 := Tryz.underlying3
  a3 := Tryz.isAgg3
  z3 := Tryz.sizeOf3
  v3 := Tryz.zeroValue3
  t9 := Tryz.underlying9
  a9 := Tryz.isAgg9
  z9 := Tryz.sizeOf9
  v9 := Tryz.zeroValue9
  t37 := Tryz.underlying129
  a37 := Tryz.isAgg129
  z37 := Tryz.sizeOf129
  v37 := Tryz.zeroValue129
  t70 := Tryz.underlying144
  a70 := Tryz.isAgg144
  z70 := Tryz.sizeOf144
  v70 := Tryz.zeroValue144
  t72 := Tryz.underlying146
  a72 := Tryz.isAgg146
  z72 := Tryz.sizeOf146
  v72 := Tryz.zeroValue146
  t127 := Tryz.underlying171
  a127 := Tryz.isAgg171
  z127 := Tryz.sizeOf171
  v127 := Tryz.zeroValue171 }
def Tryz.vxSplit_ren : Go.Shelf.Ren := ⟨fun | 146 => 100 | 221 => 130 | 268 => 140 | 138 => 141 | 143 => 142 | 195 => 164 | 197 => 165 | 218 => 166 | 219 => 167 | 260 => 173 | 217 => 174 | 225 => 175 | 224 => 176 | 267 => 177 | 266 => 179 | 314 => 180 | n => n, fun | 9 => 9 | 31 => 37 | 3 => 3 | 4 => 4 | 0 => 0 | 105 => 202 | 21 => 21 | 5 => 5 | 46 => 180 | 119 => 214 | 139 => 217 | 138 => 216 | 146 => 218 | 51 => 192 | n => n, fun | 1 => 0 | 3 => 1 | 4 => 2 | n => n⟩
theorem Tryz.vxSplit : Go.Proofs.Lays.n146 Tryz.prog Tryz.vxSplit_ren := {
  mixed := by kernel_rfl
  f138 := Tryz.func141.trans (congrArg some (by kernel_rfl))
  f143 := Tryz.func142.trans (congrArg some (by kernel_rfl))
  f146 := Tryz.func100.trans (congrArg some (by kernel_rfl))
  f195 := Tryz.func164.trans (congrArg some (by kernel_rfl))
  f197 := Tryz.func165.trans (congrArg some (by kernel_rfl))
  f217 := Tryz.func174.trans (congrArg some (by kernel_rfl))
  f218 := Tryz.func166.trans (congrArg some (by kernel_rfl))
  f219 := Tryz.func167.trans (congrArg some (by kernel_rfl))
  f221 := Tryz.func130.trans (congrArg some (by kernel_rfl))
  f224 := Tryz.func176.trans (congrArg some (by kernel_rfl))
  f225 := Tryz.func175.trans (congrArg some (by kernel_rfl))
  f260 := Tryz.func173.trans (congrArg some (by kernel_rfl))
  f266 := Tryz.func179.trans (congrArg some (by kernel_rfl))
  f267 := Tryz.func177.trans (congrArg some (by kernel_rfl))
  f268 := Tryz.func140.trans (congrArg some (by kernel_rfl))
  f314 := Tryz.func180.trans (congrArg some (by kernel_rfl))
  t0 := Tryz.underlying0
  a0 := Tryz.isAgg0
  z0 := Tryz.sizeOf0
  v0 := Tryz.zeroValue0
  t3 := Tryz.underlying3
  a3 := Tryz.isAgg3
  z3 := Tryz.sizeOf3
  v3 := Tryz.zeroValue3
  t4 := Tryz.underlying4
  a4 := Tryz.isAgg4
  z4 := Tryz.sizeOf4
  v4 := Tryz.zeroValue4
  t5 := Tryz.underlying5
  a5 := Tryz.isAgg5
  z5 := Tryz.sizeOf5
  v5 := Tryz.zeroValue5
  t9 := Tryz.underlying9
  a9 := Tryz.isAgg9
  z9 := Tryz.sizeOf9
  v9 := Tryz.zeroValue9
  t21 := Tryz.underlying21
  a21 := Tryz.isAgg21
  z21 := Tryz.sizeOf21
  v21 := Tryz.zeroValue21
  t31 := Tryz.underlying37
  a31 := Tryz.isAgg37
  z31 := Tryz.sizeOf37
  v31 := Tryz.zeroValue37
  t46 := Tryz.underlying180
  a46 := Tryz.isAgg180
  z46 := Tryz.sizeOf180
  v46 := Tryz.zeroValue180
  t51 := Tryz.underlying192
  a51 := Tryz.isAgg192
  z51 := Tryz.sizeOf192
  v51 := Tryz.zeroValue192
  t105 := Tryz.underlying202
  a105 := Tryz.isAgg202
  z105 := Tryz.sizeOf202
  v105 := Tryz.zeroValue202
  t119 := Tryz.underlying214
  a119 := Tryz.isAgg214
  z119 := Tryz.sizeOf214
  t138 := Tryz.underlying216
  a138 := Tryz.isAgg216
  z138 := Tryz.sizeOf216
  v138 := Tryz.zeroValue216
  t139 := Tryz.underlying217
  a139 := Tryz.isAgg217
  z139 := Tryz.sizeOf217
  v139 := Tryz.zeroValue217
  t146 := Tryz.underlying218
  a146 := Tryz.isAgg218
  z146 := Tryz.sizeOf218
  v146 := Tryz.zeroValue218
  g1 := by kernel_rfl
  g3 := by kernel_rfl
  g4 := by kernel_rfl }
end Go.Proofs
namespace Go.Proofs.YtaiondckookpiaaGreatDoor
open Go
abbrev Str := List UInt8
def meet1 (a b : UInt8) : Option UInt8 := if a = 120 then some b else if b = 120 ∨ b = a then some a else none
def meetL : Str → Str → Option Str
  | [], [] => some []
  | a :: c, b :: d => match meet1 a b, meetL c d with
    | some x, some r => some (x :: r)
    | _, _ => none
  | _, _ => none
def meetT (c d : Str) : Option Str := if c = [] then none else meetL c d
def inL : Str → Str → Prop
  | [], [] => True
  | a :: c, b :: d => (b = 120 ∨ b = a) ∧ inL c d
  | _, _ => False
def inT (c d : Str) : Prop := c ≠ [] ∧ inL c d
theorem inL_refl : ∀ c : Str, inL c c
  | [] => trivial
  | _ :: c => ⟨.inr rfl, inL_refl c⟩
theorem inL_trans : ∀ {c d e : Str}, inL c d → inL d e → inL c e
  | [], [], [], _, _ => trivial
  | [], [], _ :: _, _, h => h.elim
  | [], _ :: _, _, h, _ => h.elim
  | _ :: _, [], _, h, _ => h.elim
  | _ :: _, _ :: _, [], _, h => h.elim
  | a :: c, b :: d, x :: e, h, k => ⟨by
      rcases k.1 with k1 | k1
      · exact .inl k1
      · rcases h.1 with h1 | h1
        · exact .inl (by rw [k1, h1])
        · exact .inr (by rw [k1, h1]), inL_trans h.2 k.2⟩
theorem inL_antisymm : ∀ {c d : Str}, inL c d → inL d c → c = d
  | [], [], _, _ => rfl
  | [], _ :: _, h, _ => h.elim
  | _ :: _, [], h, _ => h.elim
  | a :: c, b :: d, h, k => by
    rw [inL_antisymm h.2 k.2]
    rcases h.1 with h1 | h1
    · rcases k.1 with k1 | k1
      · rw [h1, k1]
      · rw [k1]
    · rw [h1]
theorem inL_len : ∀ {c d : Str}, inL c d → c.length = d.length
  | [], [], _ => rfl
  | [], _ :: _, h => h.elim
  | _ :: _, [], h => h.elim
  | _ :: _, _ :: _, h => by simp [inL_len h.2]
theorem meetL_len : ∀ {c d m : Str}, meetL c d = some m → c.length = m.length ∧ d.length = m.length
  | [], [], m, h => by cases h; exact ⟨rfl, rfl⟩
  | [], _ :: _, _, h => by cases h
  | _ :: _, [], _, h => by cases h
  | a :: c, b :: d, m, h => by
    unfold meetL at h
    cases h1 : meet1 a b with
    | none => rw [h1] at h; cases h
    | some x => cases h2 : meetL c d with
      | none => rw [h1, h2] at h; cases h
      | some r =>
        rw [h1, h2] at h
        cases h
        have := meetL_len h2
        simp [this.1, this.2]
theorem meetL_in : ∀ {c d m : Str}, meetL c d = some m → inL m c ∧ inL m d
  | [], [], m, h => by cases h; exact ⟨trivial, trivial⟩
  | [], _ :: _, _, h => by cases h
  | _ :: _, [], _, h => by cases h
  | a :: c, b :: d, m, h => by
    unfold meetL at h
    cases h1 : meet1 a b with
    | none => rw [h1] at h; cases h
    | some x => cases h2 : meetL c d with
      | none => rw [h1, h2] at h; cases h
      | some r =>
        rw [h1, h2] at h
        cases h
        have ih := meetL_in h2
        unfold meet1 at h1
        split at h1
        · rename_i ha; cases h1; exact ⟨⟨.inl ha, ih.1⟩, ⟨.inr rfl, ih.2⟩⟩
        · split at h1
          · rename_i hb
            cases h1
            exact ⟨⟨.inr rfl, ih.1⟩, ⟨hb, ih.2⟩⟩
          · cases h1
theorem meetL_glb : ∀ {e c d : Str}, inL e c → inL e d → ∃ m, meetL c d = some m ∧ inL e m
  | [], [], [], _, _ => ⟨[], rfl, trivial⟩
  | [], _ :: _, _, h, _ => h.elim
  | [], [], _ :: _, _, h => h.elim
  | _ :: _, [], _, h, _ => h.elim
  | _ :: _, _ :: _, [], _, h => h.elim
  | x :: e, a :: c, b :: d, h, k => by
    obtain ⟨m, hm, hi⟩ := meetL_glb h.2 k.2
    unfold meetL
    rw [hm]
    by_cases ha : a = 120
    · exact ⟨b :: m, by simp [meet1, ha], k.1, hi⟩
    · have hax : a = x := h.1.resolve_left ha
      have hb : b = 120 ∨ b = a := by rw [hax]; exact k.1
      exact ⟨a :: m, by simp [meet1, ha, hb], .inr hax, hi⟩
theorem meetL_self {c d : Str} : meetL c d = some c ↔ inL c d := by
  constructor
  · intro h; exact (meetL_in h).2
  · intro h
    obtain ⟨m, hm, hi⟩ := meetL_glb (inL_refl c) h
    rw [hm, inL_antisymm hi (meetL_in hm).1]
theorem inT_trans {c d e : Str} (h : inT c d) (k : inT d e) : inT c e := ⟨h.1, inL_trans h.2 k.2⟩
open Classical in
noncomputable def addG {α : Type} (R : α → α → Prop) (k : List α) (x : α) : List α := if ∃ y ∈ k, R x y then k else k.filter (fun y => decide (¬ R y x)) ++ [x]
noncomputable def grG {α : Type} (R : α → α → Prop) (l : List α) : List α := l.foldl (addG R) []
structure Anti {α : Type} (R : α → α → Prop) (l k : List α) : Prop where
  sub : ∀ x ∈ k, x ∈ l
  anti : k.Pairwise fun x y => ¬ R x y ∧ ¬ R y x
  cov : ∀ x ∈ l, ∃ y ∈ k, R x y
open Classical in
theorem grG_anti {α : Type} {R : α → α → Prop} (ht : ∀ x y z, R x y → R y z → R x z) (l : List α) (hr : ∀ x ∈ l, R x x) : Anti R l (grG R l) := by
  have go : ∀ (l k l0 : List α), (∀ x ∈ l, R x x) → Anti R l0 k → Anti R (l0 ++ l) (l.foldl (addG R) k) := by
    intro l
    induction l with
    | nil => intro k l0 _ h; simpa using h
    | cons x l ih =>
      intro k l0 hr h
      have hx : Anti R (l0 ++ [x]) (addG R k x) := by
        unfold addG
        split
        · rename_i hh
          exact ⟨fun y hy => by simp [h.sub y hy], h.anti, fun y hy => by
            rcases List.mem_append.1 hy with hy | hy
            · exact h.cov y hy
            · simp at hy; subst hy; exact hh⟩
        · rename_i hh
          refine ⟨fun y hy => ?_, ?_, fun y hy => ?_⟩
          · rcases List.mem_append.1 hy with hy | hy
            · simp [h.sub y (List.mem_filter.1 hy).1]
            · simp at hy; simp [hy]
          · rw [List.pairwise_append]
            refine ⟨h.anti.filter _, by simp, fun a ha b hb => ?_⟩
            simp at hb
            subst hb
            obtain ⟨h1, h2⟩ := List.mem_filter.1 ha
            exact ⟨by simpa using h2, fun h3 => hh ⟨a, h1, h3⟩⟩
          · rcases List.mem_append.1 hy with hy | hy
            · obtain ⟨z, hz, hyz⟩ := h.cov y hy
              by_cases hzx : R z x
              · exact ⟨x, by simp, ht _ _ _ hyz hzx⟩
              · exact ⟨z, by simp [hz, hzx], hyz⟩
            · simp at hy; subst hy; exact ⟨y, by simp, hr y (by simp)⟩
      have := ih (addG R k x) (l0 ++ [x]) (fun y hy => hr y (by simp [hy])) hx
      simpa [List.append_assoc] using this
  show Anti R l (l.foldl (addG R) [])
  simpa using go l [] [] hr ⟨by simp, by simp, by simp⟩
theorem Anti.mem_iff {α : Type} {R : α → α → Prop} (ht : ∀ x y z, R x y → R y z → R x z) (ha : ∀ x y, R x y → R y x → x = y) {l k k' : List α} (h : Anti R l k) (h' : Anti R l k') (x : α) : x ∈ k → x ∈ k' := by
  intro hx
  obtain ⟨y, hy, hxy⟩ := h'.cov x (h.sub x hx)
  obtain ⟨z, hz, hyz⟩ := h.cov y (h'.sub y hy)
  have hxz : x = z := by
    apply Classical.byContradiction
    intro hne
    have hR := ht _ _ _ hxy hyz
    obtain ⟨i, hi, rfl⟩ := List.getElem_of_mem hx
    obtain ⟨j, hj, rfl⟩ := List.getElem_of_mem hz
    have hij : i ≠ j := fun e => hne (by subst e; rfl)
    rcases Nat.lt_or_gt_of_ne hij with hlt | hgt
    · exact (List.pairwise_iff_getElem.1 h.anti i j hi hj hlt).1 hR
    · exact (List.pairwise_iff_getElem.1 h.anti j i hj hi hgt).2 hR
  subst hxz
  rw [ha _ _ hxy hyz]
  exact hy
theorem Anti.nodup {α : Type} {R : α → α → Prop} (hr : ∀ x, R x x) {l k : List α} (h : Anti R l k) : k.Nodup :=
  h.anti.imp fun {a b} hab e => hab.1 (by rw [e]; exact hr b)
theorem Anti.perm {α : Type} {R : α → α → Prop} (hr : ∀ x, R x x) (ht : ∀ x y z, R x y → R y z → R x z) (ha : ∀ x y, R x y → R y x → x = y) {l k k' : List α} (h : Anti R l k) (h' : Anti R l k') : k.Perm k' :=
  (List.perm_ext_iff_of_nodup (h.nodup hr) (h'.nodup hr)).2 fun x => ⟨h.mem_iff ht ha h' x, h'.mem_iff ht ha h x⟩
theorem sorted_uniq {α : Type} {L : α → α → Prop} (hirr : ∀ x, ¬ L x x) (htr : ∀ x y z, L x y → L y z → L x z) {k k' : List α} (hp : k.Perm k') (h : k.Pairwise L) (h' : k'.Pairwise L) : k = k' :=
  hp.eq_of_pairwise (le := L) (fun _ _ _ _ hab hba => absurd (htr _ _ _ hab hba) (hirr _)) h h'
open Classical in
noncomputable def insG {α : Type} (L : α → α → Prop) (c : α) : List α → List α
  | [] => [c]
  | x :: r => if L c x then c :: x :: r else x :: insG L c r
open Classical in
noncomputable def putG {α : Type} (R L : α → α → Prop) (k : List α) (c : α) : List α := if ∃ y ∈ k, R c y then k else insG L c (k.filter fun x => decide (¬ R x c))
theorem insG_perm {α : Type} (L : α → α → Prop) (c : α) : ∀ l : List α, (insG L c l).Perm (c :: l)
  | [] => .refl _
  | x :: r => by
    unfold insG
    split
    · exact .refl _
    · exact ((insG_perm L c r).cons x).trans (.swap c x r)
theorem insG_sorted {α : Type} {L : α → α → Prop} (ht : ∀ x y z, L x y → L y z → L x z) (c : α) : ∀ l : List α, (∀ x ∈ l, L c x ∨ L x c) → l.Pairwise L → (insG L c l).Pairwise L
  | [], _, _ => by simp [insG]
  | x :: r, hc, h => by
    unfold insG
    have h2 := List.pairwise_cons.1 h
    split
    · rename_i hcx
      exact List.pairwise_cons.2 ⟨fun y hy => by
        rcases List.mem_cons.1 hy with rfl | hy
        · exact hcx
        · exact ht _ _ _ hcx (h2.1 y hy), h⟩
    · rename_i hcx
      have hxc : L x c := (hc x (by simp)).resolve_left hcx
      refine List.pairwise_cons.2 ⟨fun y hy => ?_, insG_sorted ht c r (fun y hy => hc y (by simp [hy])) h2.2⟩
      rcases List.mem_cons.1 ((insG_perm L c r).mem_iff.1 hy) with rfl | hy
      · exact hxc
      · exact h2.1 y hy
open Classical in
theorem putG_fold {α : Type} {R L : α → α → Prop} (hr : ∀ x, R x x) (ht : ∀ x y z, R x y → R y z → R x z) (lt : ∀ x y z, L x y → L y z → L x z) (tot : ∀ x y, x ≠ y → L x y ∨ L y x) (l : List α) :
    Anti R l (l.foldl (putG R L) []) ∧ (l.foldl (putG R L) []).Pairwise L := by
  have go : ∀ (l k l0 : List α), Anti R l0 k → k.Pairwise L → Anti R (l0 ++ l) (l.foldl (putG R L) k) ∧ (l.foldl (putG R L) k).Pairwise L := by
    intro l
    induction l with
    | nil => intro k l0 h h2; exact ⟨by simpa using h, h2⟩
    | cons x l ih =>
      intro k l0 h h2
      have hx : Anti R (l0 ++ [x]) (putG R L k x) ∧ (putG R L k x).Pairwise L := by
        unfold putG
        split
        · rename_i hh
          exact ⟨⟨fun y hy => by simp [h.sub y hy], h.anti, fun y hy => by
            rcases List.mem_append.1 hy with hy | hy
            · exact h.cov y hy
            · simp at hy; subst hy; exact hh⟩, h2⟩
        · rename_i hh
          have hp := insG_perm L x (k.filter fun y => decide (¬ R y x))
          have hsub : ∀ y ∈ k.filter (fun y => decide (¬ R y x)), y ∈ k ∧ ¬ R y x := fun y hy => by
            obtain ⟨h1, h2⟩ := List.mem_filter.1 hy
            exact ⟨h1, by simpa using h2⟩
          refine ⟨⟨fun y hy => ?_, ?_, fun y hy => ?_⟩, ?_⟩
          · rcases List.mem_cons.1 (hp.mem_iff.1 hy) with rfl | hy
            · simp
            · simp [h.sub y (hsub y hy).1]
          · refine (hp.pairwise_iff (fun {a b} hab => ⟨hab.2, hab.1⟩)).2 (List.pairwise_cons.2 ⟨fun y hy => ⟨fun h3 => hh ⟨y, (hsub y hy).1, h3⟩, (hsub y hy).2⟩, h.anti.filter _⟩)
          · rcases List.mem_append.1 hy with hy | hy
            · obtain ⟨z, hz, hyz⟩ := h.cov y hy
              by_cases hzx : R z x
              · exact ⟨x, hp.mem_iff.2 (by simp), ht _ _ _ hyz hzx⟩
              · exact ⟨z, hp.mem_iff.2 (by simp [hz, hzx]), hyz⟩
            · simp at hy; subst hy; exact ⟨y, hp.mem_iff.2 (by simp), hr y⟩
          · refine insG_sorted lt x _ (fun y hy => tot x y fun e => ?_) (h2.filter _)
            subst e
            exact (hsub x hy).2 (hr x)
      have := ih (putG R L k x) (l0 ++ [x]) hx.1 hx.2
      simpa [List.append_assoc] using this
  simpa using go l [] [] ⟨by simp, by simp, by simp⟩ (by simp)
theorem sorted_eq_put {α : Type} {R L : α → α → Prop} (hr : ∀ x, R x x) (ht : ∀ x y z, R x y → R y z → R x z) (ha : ∀ x y, R x y → R y x → x = y) (hirr : ∀ x, ¬ L x x) (lt : ∀ x y z, L x y → L y z → L x z) (tot : ∀ x y, x ≠ y → L x y ∨ L y x)
    {l k : List α} (hp : k.Perm (grG R l)) (hs : k.Pairwise L) : k = l.foldl (putG R L) [] := by
  have h := putG_fold hr ht lt tot l
  exact sorted_uniq hirr lt (hp.trans ((grG_anti ht l fun x _ => hr x).perm hr ht ha h.1)) hs h.2
theorem bl_eq : ∀ (x y : Str), Op.bytesLess x y = true ↔ x < y
  | [], [] => by simp [Op.bytesLess]
  | _ :: _, [] => by simp [Op.bytesLess]
  | [], _ :: _ => by simp [Op.bytesLess]
  | a :: x, b :: y => by
    simp only [Op.bytesLess, Bool.or_eq_true, Bool.and_eq_true, decide_eq_true_eq, beq_iff_eq, bl_eq x y, List.cons_lt_cons_iff]
theorem bl_irrefl (x : Str) : ¬ Op.bytesLess x x = true := by
  rw [bl_eq]; exact List.lt_irrefl x
theorem bl_trans {x y z : Str} (h : Op.bytesLess x y = true) (k : Op.bytesLess y z = true) : Op.bytesLess x z = true := by
  rw [bl_eq] at *
  exact List.lt_trans h k
theorem bl_total {x y : Str} (h : x ≠ y) : Op.bytesLess x y = true ∨ Op.bytesLess y x = true := by
  rw [bl_eq, bl_eq]
  by_cases h1 : x < y
  · exact .inl h1
  · right
    rcases List.le_iff_lt_or_eq.1 (List.not_lt.1 h1) with h2 | h2
    · exact h2
    · exact absurd h2.symm h
theorem bl_append : ∀ {x y A B : Str}, x.length = y.length → (Op.bytesLess (x ++ A) (y ++ B) = true ↔ Op.bytesLess x y = true ∨ (x = y ∧ Op.bytesLess A B = true))
  | [], [], A, B, _ => by simp [Op.bytesLess]
  | [], _ :: _, _, _, h => by simp at h
  | _ :: _, [], _, _, h => by simp at h
  | a :: x, b :: y, A, B, h => by
    have ih := bl_append (x := x) (y := y) (A := A) (B := B) (by simpa using h)
    simp only [List.cons_append, Op.bytesLess, Bool.or_eq_true, Bool.and_eq_true, decide_eq_true_eq, beq_iff_eq, ih, List.cons.injEq]
    constructor
    · rintro (h1 | ⟨rfl, h1 | ⟨rfl, h1⟩⟩)
      · exact .inl (.inl h1)
      · exact .inl (.inr ⟨rfl, h1⟩)
      · exact .inr ⟨⟨rfl, rfl⟩, h1⟩
    · rintro ((h1 | ⟨rfl, h1⟩) | ⟨⟨rfl, rfl⟩, h1⟩)
      · exact .inl h1
      · exact .inr ⟨rfl, .inl h1⟩
      · exact .inr ⟨rfl, .inr ⟨rfl, h1⟩⟩
def lexL : List Str → List Str → Prop
  | _, [] => False
  | [], _ :: _ => True
  | x :: a, y :: b => Op.bytesLess x y = true ∨ (x = y ∧ lexL a b)
theorem bl_flatten {n : Nat} (hn : 0 < n) : ∀ {a b : List Str}, (∀ x ∈ a, x.length = n) → (∀ x ∈ b, x.length = n) → (Op.bytesLess a.flatten b.flatten = true ↔ lexL a b)
  | a, [], _, _ => by cases a <;> simp [lexL, Op.bytesLess]
  | [], y :: b, _, hb => by
    have hy := hb y (by simp)
    cases y with
    | nil => simp at hy; omega
    | cons c y => simp [lexL, Op.bytesLess]
  | x :: a, y :: b, ha, hb => by
    rw [List.flatten_cons, List.flatten_cons, bl_append (by rw [ha x (by simp), hb y (by simp)]), bl_flatten hn (fun z hz => ha z (by simp [hz])) (fun z hz => hb z (by simp [hz]))]
    rfl
structure Term where
  p : Str
  less : List Str
def Term.key (t : Term) : Str := t.p ++ t.less.flatten
def Term.wide (n : Nat) (t : Term) : Prop := t.p.length = n ∧ ∀ m ∈ t.less, m.length = n
def aheadT (t u : Term) : Prop := lexL (t.p :: t.less) (u.p :: u.less)
theorem key_less {n : Nat} (hn : 0 < n) {t u : Term} (ht : t.wide n) (hu : u.wide n) : Op.bytesLess t.key u.key = true ↔ aheadT t u := by
  have := bl_flatten hn (a := t.p :: t.less) (b := u.p :: u.less) (by simpa using ⟨ht.1, ht.2⟩) (by simpa using ⟨hu.1, hu.2⟩)
  simpa [Term.key, aheadT] using this
noncomputable def srt {α : Type} (L : α → α → Prop) (l : List α) : List α := l.foldl (fun acc x => insG L x acc) []
theorem srt_perm {α : Type} (L : α → α → Prop) (l : List α) : (srt L l).Perm l := by
  have go : ∀ l acc : List α, (l.foldl (fun acc x => insG L x acc) acc).Perm (acc ++ l) := by
    intro l
    induction l with
    | nil => intro acc; simp
    | cons x l ih =>
      intro acc
      refine (ih (insG L x acc)).trans ?_
      refine ((insG_perm L x acc).append_right l).trans ?_
      simpa using (List.perm_middle (a := x) (l₁ := acc) (l₂ := l)).symm
  show (l.foldl (fun acc x => insG L x acc) []).Perm l
  simpa using go l []
theorem srt_sorted {α : Type} {L : α → α → Prop} (ht : ∀ x y z, L x y → L y z → L x z) (l : List α) (tot : l.Pairwise fun x y => L x y ∨ L y x) : (srt L l).Pairwise L := by
  have go : ∀ l acc : List α, (acc ++ l).Pairwise (fun x y => L x y ∨ L y x) → acc.Pairwise L → (l.foldl (fun acc x => insG L x acc) acc).Pairwise L := by
    intro l
    induction l with
    | nil => intro acc _ h; exact h
    | cons x l ih =>
      intro acc htot h
      have hp : (insG L x acc ++ l).Perm (acc ++ x :: l) := ((insG_perm L x acc).append_right l).trans (List.perm_middle (a := x) (l₁ := acc) (l₂ := l)).symm
      refine ih (insG L x acc) ((hp.pairwise_iff fun {a b} hab => hab.symm).2 htot) (insG_sorted ht x acc (fun y hy => ?_) h)
      have := (List.pairwise_append.1 htot).2.2 y hy x (by simp)
      exact this.symm
  exact go l [] (by simpa using tot) (by simp)
theorem srt_uniq {α : Type} {L : α → α → Prop} (hirr : ∀ x, ¬ L x x) (ht : ∀ x y z, L x y → L y z → L x z) {l k : List α} (tot : l.Pairwise fun x y => L x y ∨ L y x) (hp : k.Perm l) (hs : k.Pairwise L) : k = srt L l :=
  sorted_uniq hirr ht (hp.trans (srt_perm L l).symm) hs (srt_sorted ht l tot)
theorem lexL_irrefl : ∀ a : List Str, ¬ lexL a a
  | [] => by simp [lexL]
  | x :: a => by
    have := lexL_irrefl a
    simp [lexL, bl_irrefl, this]
end Go.Proofs.YtaiondckookpiaaGreatDoor
