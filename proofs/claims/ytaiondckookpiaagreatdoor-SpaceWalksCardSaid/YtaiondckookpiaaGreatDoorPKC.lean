/- The walks and the plain laws that a law of spaces needs, part 3 of 7. -/
import Derived.Test.YtaiondckookpiaaGreatDoorPKB
import Derived.Defers
import Derived.Recover
import Derived.Shelf.SlSortFuncK.WholeK
import Derived.Shelf.GgSortFunc.Tiny
import Derived.Shelf.Strings.Builder1
import Derived.Shelf.Strings.Split
import Derived.RangeFuncIn
import Derived.RangeFuncNested
import Derived.OrdersIn
import Derived.Test.YtaiondckookpiaaGreatDoorRows
import Derived.ProofKit
import Derived.Deep.Slices
set_option linter.unusedVariables false
set_option linter.unusedSimpArgs false
namespace Go.Vx
open Go.RowKit
section
variable {P : Program} {T : Tab} {s : St} {Q : Exit → St → Prop}
theorem FSpec.of_defer (hT : TOk P T) {f : FuncId} {fn : Func} {c : Code} (hf : P.funcs[f]? = some fn) (hb : fn.body = some c) (hcall : ∀ args w, (callFunc f args).run P w = .ok (.enter f args) w) {ds : List D} {R : D → Rows → Prop} (hn : ds.length ≤ fn.ntmps)
    {pv : Value} {z1 z2 : List Value} {zd1 zd2 : List D} (hz1 : z1.map ofVal = zd1) (hz2 : z2.map ofVal = zd2) (ho1 : ∀ v ∈ z1, v.oneCell' = true) (ho2 : ∀ v ∈ z2, v.oneCell' = true) {id g t p q : Nat} {ty1 ty2 : TypeId} {p1 p2 : String} {e1 e2 : Array Edge} (hD : DefSpec P g pv z1 z2) {As Bs : List Code}
    (hflat : flatC c = As ++ (.region id #[⟨some t, .makeFunc (.func g) #[] #[.tmp p, .tmp q], ty1, p1, e1, none⟩, ⟨none, .defer ⟨.value (.tmp t), #[], #[]⟩, ty2, p2, e2, none⟩] false :: Bs))
    (h : OkL P T As (defA P T fn R pv zd1 zd2 t p q Bs) ⟨envOf 0 ds, [], [], fn.ntmps⟩) : FSpec P T f ds R := by
  refine ⟨hcall, fun V w args hV hl hR => calls_of_wp_X hf hb (wp_of_flat c ?_)⟩
  rw [hflat, wpL_append]
  have hA := h.run w ⟨V, fun _ => undef, [], []⟩ V [] [] _ w (start_sim hn hV hl hR)
  have mono : ∀ (l : List Code) {Q Q' : Exit → Act → World → Prop} (a : Act) (w : World), (∀ e a w, Q e a w → Q' e a w) → wpL P Q l a w → wpL P Q' l a w := by
    intro l
    induction l with
    | nil => intro Q Q' a w hq h; exact hq _ _ _ h
    | cons c r ih => intro Q Q' a w hq h; exact wp_mono h fun e a w h => by cases e <;> first | exact ih _ _ hq h | exact hq _ _ _ h
  refine mono As _ _ ?_ hA
  rintro e a' w' ⟨s', V', μ', ω', hq, hS'⟩
  cases e with
  | ret =>
    obtain ⟨ms, h1, h2, h3, hS'⟩ := hS'.shut
    obtain ⟨v, hv, hr⟩ := retK_leaves (P := P) hT rfl hS' hq
    show LeavesX P fn a'.tmps _ a'.defers .returning w'
    rw [h1]
    exact leavesX_marks (by simp) ms w' h2 h3 ⟨v, hv, hr⟩
  | normal =>
    obtain ⟨env, box, row, n⟩ := s'
    obtain ⟨i, j, hp, hqq, hpn, hqn, htn, hnn, hB⟩ := hq
    obtain ⟨msA, hmA1, hmA2, hmA3⟩ := hS'.defers.marks
    have rp := hS'.slot hpn
    have rq := hS'.slot hqn
    rw [hp] at rp
    rw [hqq] at rq
    obtain ⟨g1, hg1, hv1⟩ := rp.bp_
    obtain ⟨g2, hg2, hv2⟩ := rq.bp_
    show Code.wp P (.region id _ false) _ a' w'
    refine wp_region_lit ?_
    unfold wpList
    rw [if_pos (by simp [Region.wanted])]
    left
    unfold Oper.wp
    have r1 : (execOp a'.eval ⟨some t, .makeFunc (.func g) #[] #[.tmp p, .tmp q], ty1, p1, e1, none⟩).run P w' = .ok (.value (.func (.func g) #[] #[.pointer (some ⟨g1, 0, none⟩), .pointer (some ⟨g2, 0, none⟩)])) w' := by
      simp only [execOp, Instr.makeFunc, Sem.run_bind, Sem.run_pure, Result.andThen_ok, List.map_toArray, List.map_cons, List.map_nil, Act.eval, hv1, hv2]
    rw [r1]
    show wpList P _ _ [_] (a'.put (some t) _) w'
    unfold wpList
    rw [if_pos (by simp [Region.wanted])]
    left
    unfold Oper.wp
    have r2 : (execOp (a'.put (some t) (.func (.func g) #[] #[.pointer (some ⟨g1, 0, none⟩), .pointer (some ⟨g2, 0, none⟩)])).eval ⟨none, .defer ⟨.value (.tmp t), #[], #[]⟩, ty2, p2, e2, none⟩).run P w' =
        .ok (.defer { target := .fn (.func g) #[.pointer (some ⟨g1, 0, none⟩), .pointer (some ⟨g2, 0, none⟩)], args := #[] }) w' := by
      have hsz : t < a'.tmps.size := by have := hS'.tmps; dsimp only at this; omega
      have hev : (a'.put (some t) (.func (.func g) #[] #[.pointer (some ⟨g1, 0, none⟩), .pointer (some ⟨g2, 0, none⟩)])).eval (.tmp t) = .func (.func g) #[] #[.pointer (some ⟨g1, 0, none⟩), .pointer (some ⟨g2, 0, none⟩)] := by
        simp [Act.put, Act.eval, Array.getD, hsz]
      simp only [execOp, resolve, hev, Deferred.ofValue, Sem.run_bind, Sem.run_pure, Result.andThen_ok, List.map_toArray, List.map_nil]
      rfl
    rw [r2]
    show wpL P _ Bs _ w'
    refine mono Bs _ _ ?_ (hB.run w ⟨V, fun x => if x = n then .pointer (some ⟨g1, 0, none⟩) else if x = n + 1 then .pointer (some ⟨g2, 0, none⟩) else undef,
      { target := .fn (.func g) #[.pointer (some ⟨g1, 0, none⟩), .pointer (some ⟨g2, 0, none⟩)], args := #[] } :: a'.defers, keptOf msA⟩ V' μ' ω' _ w' (hS'.frame rfl ?_ ?_ ?_))
    · rintro e a2 w2 ⟨s2, V2, μ2, ω2, hq2, hS2⟩
      have tail : ∀ {s3 : St} {w3 : World}, retK T fn R s3 → Sim (szOf T) w ⟨V, fun x => if x = n then .pointer (some ⟨g1, 0, none⟩) else if x = n + 1 then .pointer (some ⟨g2, 0, none⟩) else undef, { target := .fn (.func g) #[.pointer (some ⟨g1, 0, none⟩), .pointer (some ⟨g2, 0, none⟩)], args := #[] } :: a'.defers, keptOf msA⟩ V2 μ2 ω2 s3 { a2 with defers := { target := .fn (.func g) #[.pointer (some ⟨g1, 0, none⟩), .pointer (some ⟨g2, 0, none⟩)], args := #[] } :: a'.defers } w3 →
          LeavesX P fn a2.tmps (fun e w' => ∃ V' ω row v d, e = .returned v ∧ R d row ∧ RS (szOf T) V' [] ω v d ∧ Res (szOf T) V V' ω row w w') a'.defers .returning w3 := by
        intro s3 w3 hr hS3
        have hk := fun D (hD : D ∈ msA) => hS3.defers.kept (D, .deferred (some [])) (List.mem_map.2 ⟨D, hD, rfl⟩)
        obtain ⟨v, hv, hr⟩ := retK_leaves (P := P) hT rfl (hS3.shutM msA hmA2 fun D hD => ⟨(hk D hD).1, (hk D hD).2.2⟩) hr
        rw [hmA1]
        exact leavesX_marks (by simp) msA w3 hmA2 (fun D hD => (hk D hD).1) ⟨v, hv, hr⟩
      obtain ⟨msB, hmB1, hmB2, hmB3, hS2⟩ := hS2.shut
      have idle : retK T fn R s2 → LeavesX P fn a2.tmps (fun e w' => ∃ V' ω row v d, e = .returned v ∧ R d row ∧ RS (szOf T) V' [] ω v d ∧ Res (szOf T) V V' ω row w w') a2.defers .returning w2 := by
        intro hr
        rw [hmB1]
        refine leavesX_marks (by simp) msB w2 hmB2 hmB3 (leavesX_fn (f := g) (args := #[.pointer (some ⟨g1, 0, none⟩), .pointer (some ⟨g2, 0, none⟩)]) (by simp) ?_ ((hD.idle _ _ _).mono ?_))
        · simp only [invoke]
          rw [hD.call]
          rfl
        · rintro e u' w3 ⟨rfl, rfl, hx⟩
          exact tail hr (hS2.ext hx)
      cases e with
      | normal => exact idle hq2
      | ret => exact idle hq2
      | panic ch =>
        obtain ⟨rfl, hq2⟩ := hq2
        obtain ⟨env2, box2, row2, n2⟩ := s2
        obtain ⟨i2, j2, cs1, cs2, hi2, hj2, hb1, hb2, hl1, hl2, hij, hn2, hr⟩ := hq2
        have hnn2 : n2 = n := by rw [hn2, hnn]
        subst hnn2
        have re1 := hS2.env n2
        have re2 := hS2.env (n2 + 1)
        dsimp only at re1 re2
        rw [hi2] at re1
        rw [hj2] at re2
        unfold slotV at re1 re2
        rw [if_neg (by omega)] at re1 re2
        simp only [if_true, show n2 + 1 ≠ n2 by omega, if_false] at re1 re2
        obtain ⟨h1, hm1, hh1⟩ := re1.bp_
        cases hh1
        obtain ⟨h2, hm2, hh2⟩ := re2.bp_
        cases hh2
        show LeavesX P fn a2.tmps _ a2.defers _ w2
        rw [hmB1]
        refine leavesX_marks (by simp) msB w2 hmB2 hmB3 ?_
        have stores : ∀ w1, Ext (shut msB w2) w1 → ∃ w3, (storeCells ⟨g1, 0, none⟩ z1).run P w1 = .ok () w3 ∧ ∃ w4, (storeCells ⟨g2, 0, none⟩ z2).run P w3 = .ok () w4 ∧
            Sim (szOf T) w ⟨V, fun x => if x = n2 then .pointer (some ⟨g1, 0, none⟩) else if x = n2 + 1 then .pointer (some ⟨g2, 0, none⟩) else undef,
      { target := .fn (.func g) #[.pointer (some ⟨g1, 0, none⟩), .pointer (some ⟨g2, 0, none⟩)], args := #[] } :: a'.defers, keptOf msA⟩ V2 μ2 ω2 ⟨env2, (box2.set i2 zd1).set j2 zd2, row2, n2⟩ { a2 with defers := { target := .fn (.func g) #[.pointer (some ⟨g1, 0, none⟩), .pointer (some ⟨g2, 0, none⟩)], args := #[] } :: a'.defers } w4 := by
          intro w1 hx
          obtain ⟨p1', w3, hp1, hst1, hS3, _⟩ := store_bp_sound (P := P) (hS2.ext hx) (i := i2) (off := 0) (RS.bp i2 0 g1 hm1) (z_agg hz1 ho1) hb1 (by omega) (by rw [setCells_all hl1, ← hz1]; exact noB_ofVal z1)
          cases hp1
          have hb2' : (box2.set i2 (setCells cs1 0 zd1))[j2]? = some cs2 := by rw [List.getElem?_set_ne hij]; exact hb2
          obtain ⟨p2', w4, hp2, hst2, hS4, _⟩ := store_bp_sound (P := P) hS3 (i := j2) (off := 0) (RS.bp j2 0 g2 hm2) (z_agg hz2 ho2) hb2' (by omega) (by rw [setCells_all hl2, ← hz2]; exact noB_ofVal z2)
          cases hp2
          rw [setCells_all hl1, setCells_all hl2] at hS4
          exact ⟨w3, by simpa using hst1, w4, by simpa using hst2, hS4⟩
        refine leavesX_fn (f := g) (args := #[.pointer (some ⟨g1, 0, none⟩), .pointer (some ⟨g2, 0, none⟩)]) (by simp) ?_ ((hD.caught _ _ _ fun w1 hx => let ⟨w3, k1, w4, k2, _⟩ := stores w1 hx; ⟨w3, k1, w4, k2⟩).mono ?_)
        · simp only [invoke]
          rw [hD.call]
          rfl
        · rintro e u' w5 ⟨rfl, rfl, w1, w3, hx, k1, k2⟩
          obtain ⟨w3', k1', w4', k2', hS5⟩ := stores w1 hx
          rw [k1] at k1'
          cases k1'
          rw [k2] at k2'
          cases k2'
          exact tail hr hS5
      | _ => exact hq2.elim
    · simp only [Act.put]
      have := hS'.tmps
      dsimp only at this
      simpa using this
    · refine ⟨⟨[], by simp [Act.put], List.nodup_nil, by simp⟩, fun x hx => ?_⟩
      obtain ⟨D, hD, rfl⟩ := List.mem_map.1 hx
      exact ⟨(hmA3 D hD).1, (fun _ _ _ e => by cases e), (hmA3 D hD).2.1⟩
    · intro x
      unfold look
      cases h1 : Nat.beq n x with
      | true =>
        have := beq_nat_true h1
        subst this
        unfold slotV
        rw [if_neg (by omega)]
        simp only [if_true]
        exact .bp i 0 g1 hg1
      | false =>
        have hxn : x ≠ n := fun e => by rw [e, Nat.beq_refl] at h1; cases h1
        show RS _ _ _ _ _ (look _ _)
        unfold look
        cases h2 : Nat.beq (n + 1) x with
        | true =>
          have := beq_nat_true h2
          subst this
          unfold slotV
          rw [if_neg (by omega)]
          simp only [show n + 1 ≠ n by omega, if_false, if_true]
          exact .bp j 0 g2 hg2
        | false =>
          have hxn2 : x ≠ n + 1 := fun e => by rw [e, Nat.beq_refl] at h2; cases h2
          show RS _ _ _ _ _ (look _ _)
          unfold look
          cases h3 : Nat.beq t x with
          | true => exact .imm _ _ (.u _)
          | false =>
            have hxt : x ≠ t := fun e => by rw [e, Nat.beq_refl] at h3; cases h3
            have he := hS'.env x
            dsimp only at he
            show RS _ _ _ _ _ (look env x)
            unfold slotV at he ⊢
            by_cases hx : x < n
            · rw [if_pos hx] at he ⊢
              have hsz : a'.tmps.size = n := hS'.tmps
              have key : ∀ (A : Array Value) (v : Value), (A.setIfInBounds t v).getD x undef = A.getD x undef := fun A v => by
                rw [Array.getD_eq_getD_getElem?, Array.getD_eq_getD_getElem?, Array.getElem?_setIfInBounds_ne (Ne.symm hxt)]
              have := key a'.tmps (.func (.func g) #[] #[.pointer (some ⟨g1, 0, none⟩), .pointer (some ⟨g2, 0, none⟩)])
              show RS _ _ _ _ ((a'.tmps.setIfInBounds t (.func (.func g) #[] #[.pointer (some ⟨g1, 0, none⟩), .pointer (some ⟨g2, 0, none⟩)])).getD x undef) _
              rw [this]
              exact he
            · rw [if_neg hx] at he ⊢
              simp only [hxn, hxn2, if_false]
              exact he
  | _ => exact hq.elim
end
end Go.Vx
namespace Go.Vx
open Go.RowKit Go.Proofs Go.Sort
theorem sorted_row {w : World} {base g m N cap k q : Nat} {e : TypeId} {vals : List Value} {α : Type} [Inhabited α] {enc : α → List Value} {d : Array α} {os : Array Obj} (hown : w.ownsRow base e k (.slice (some ⟨g, 0, none⟩) N cap) N vals) (hm : m ≤ N) (hd : d.size = m) :
    w.grownBy (grow (putRowK enc k (Sort.ahead w q) g 0 d) os) (some g) ∧ (grow (putRowK enc k (Sort.ahead w q) g 0 d) os).ownsRow base e k (.slice (some ⟨g, 0, none⟩) N cap) N ((flatK enc k d).toList ++ vals.drop (m * k)) := by
  obtain ⟨hl, hown⟩ := hown
  rcases hown with ⟨h, _⟩ | ⟨g', cap', cur, h, hb, hg, hn, hc, hs, ht⟩
  · cases h
  cases h
  have hgl : g < w.heap.size := (Array.getElem?_eq_some_iff.1 hg).1
  have hfl : (flatK enc k d).size = m * k := by rw [size_flatK, hd]
  have hmk : m * k ≤ N * k := Nat.mul_le_mul_right _ hm
  have hNk : N * k ≤ cap * k := Nat.mul_le_mul_right _ hn
  have hheap : (grow (putRowK enc k (Sort.ahead w q) g 0 d) os).heap[g]? = some (.cells (putCells id 0 (flatK enc k d) cur) e (0, 0)) := by
    show ((w.heap.modify g (onCells _)) ++ os)[g]? = _
    rw [Array.getElem?_append_left (by simpa using hgl), Array.getElem?_modify, if_pos rfl, hg]
    rfl
  refine ⟨⟨rfl, rfl, rfl, ?_, fun j hj hne => ?_⟩, ?_, .inr ⟨g, cap, _, rfl, hb, hheap, hn, hc, ?_, ?_⟩⟩
  · show w.heap.size ≤ ((w.heap.modify g (onCells _)) ++ os).size
    simp
  · show ((w.heap.modify g (onCells _)) ++ os)[j]? = _
    rw [Array.getElem?_append_left (by simpa using hj), Array.getElem?_modify, if_neg (fun e => hne (by rw [e]))]
  · rw [List.length_append, Array.length_toList, hfl, List.length_drop, hl]; omega
  · simp [putCells, hs]
  · apply List.ext_getElem?
    intro j
    rw [List.getElem?_take]
    by_cases hj : j < N * k
    · rw [if_pos hj]
      have hjc : j < cur.size := by rw [hs]; omega
      simp only [putCells, Array.getElem?_toList, Array.getElem?_mapIdx, Array.getElem?_eq_getElem hjc, Option.map_some, Nat.zero_le, true_and, Nat.zero_add, Nat.sub_zero, hfl]
      by_cases hjm : j < m * k
      · rw [if_pos hjm, List.getElem?_append_left (by rw [Array.length_toList, hfl]; exact hjm), Array.getElem?_toList]
        have hjf : j < (flatK enc k d).size := by rw [hfl]; exact hjm
        rw [Array.getElem?_eq_getElem hjf]
        exact congrArg some (getElem!_pos (flatK enc k d) j hjf)
      · rw [if_neg hjm, List.getElem?_append_right (by rw [Array.length_toList, hfl]; omega), Array.length_toList, hfl, List.getElem?_drop, show m * k + (j - m * k) = j by omega, ← ht, List.getElem?_take_of_lt hj, Array.getElem?_toList, Array.getElem?_eq_getElem hjc]
    · rw [if_neg hj, List.getElem?_eq_none]
      rw [List.length_append, Array.length_toList, hfl, List.length_drop, hl]; omega
structure SortC (P : Program) (f ty : Nat) (k fo g : Nat) : Prop where
  call : ∀ args w, (callFunc f args).run P w = .ok (.enter f args) w
  conc : P.concrete ty = true
  big : ∀ (α : Type) [Inhabited α] (enc : α → List Value) (key : α → List UInt8), (∀ x, (enc x).length = k) → (∀ x, ∀ v ∈ enc x, v.oneCell' = true) → (∀ x, (enc x)[fo]? = some (.string (bstr (key x)))) →
    ∀ (blk c Bs : Nat) (d : Array α), 2 ≤ d.size → d.size < 4611686018427387904 → ∀ w, HoldsK enc k w blk 0 d → blk < w.heap.size → w.cell? ⟨Bs, 0, none⟩ = some (.slice (some ⟨blk, 0, none⟩) d.size c) → Bs < w.heap.size → Bs ≠ blk →
    Calls P f #[.iface ty (.slice (some ⟨blk, 0, none⟩) d.size c), .func (.func g) #[] #[.pointer (some ⟨Bs, 0, none⟩)]] w fun e w' =>
      e = .returned (.tuple #[]) ∧ ∃ d' n os, PermIn 0 d.size d d' ∧ SortedIn (fun x y => Op.bytesLess (key x) (key y)) 0 d.size d' ∧ w' = grow (putRowK enc k (Sort.ahead w n) blk 0 d') os
  tiny : ∀ p n c lb w, n ≤ 1 → Calls P f #[.iface ty (.slice p n c), .func (.func g) #[] lb] w fun e w' => e = .returned (.tuple #[]) ∧ ∃ os, w' = grow w os
def RowsUp (fo : Nat) (ys : List (List D)) : Prop := ys.Pairwise fun x y => ∀ a b, x[fo]? = some (.s a) → y[fo]? = some (.s b) → Op.bytesLess b a = false
def SRow (sz : TypeId → Nat) (V : Vw) (k fo : Nat) : Type :=
  { p : List Value × List D // p.1.length = k ∧ p.2.length = k ∧ (∀ v ∈ p.1, v.oneCell' = true) ∧ (∀ (j : Nat) v d, p.1[j]? = some v → p.2[j]? = some d → RI sz V v d) ∧ ∃ l, p.2[fo]? = some (.s l) }
def SRow.key {sz : TypeId → Nat} {V : Vw} {k fo : Nat} (x : SRow sz V k fo) : List UInt8 := match x.1.2[fo]? with | some (.s l) => l | _ => []
theorem put_same {a : Act} {t : Nat} {v : Value} (h : t < a.tmps.size) : (a.put (some t) v).eval (.tmp t) = v := by
  simp [Act.put, Act.eval, Array.getD, h]
theorem put_other {a : Act} {t t' : Nat} {v : Value} (h : t ≠ t') : (a.put (some t) v).eval (.tmp t') = a.eval (.tmp t') := by
  show (a.tmps.setIfInBounds t v).getD t' undef = a.tmps.getD t' undef
  rw [Array.getD_eq_getD_getElem?, Array.getD_eq_getD_getElem?, Array.getElem?_setIfInBounds_ne h]
theorem put_size {a : Act} {t : Nat} {v : Value} : (a.put (some t) v).tmps.size = a.tmps.size := by simp [Act.put]
section
variable {P : Program} {T : Tab} {Q : Exit → St → Prop}
theorem Ok.sortSlice (hT : TOk P T) {id : Nat} {t1 t2 t3 t4 p : Nat} {f ty g k fo i r m : Nat} {e : TypeId} {xs : List (List D)} {env : List (Nat × D)} {box : List (List D)} {row : Rows} {n : Nat}
    {y1 y2 y3 y4 : TypeId} {p1 p2 p3 p4 : String} {a1 a2 a3 a4 : Array Edge} {tys : Array TypeId} (hC : SortC P f ty k fo g)
    (hload : qop P T ⟨env, box, row, n⟩ ⟨some t1, .load ty (.tmp p), y1, p1, a1, none⟩ (fun d s' => d = .own r m ∧ s' = ⟨env, box, row, n⟩))
    (hp : look env p = .bp i 0) (hb : box[i]? = some [.own r m]) (hr : row[r]? = some (some (e, xs))) (hm : m ≤ xs.length) (hk : szOf T e = k)
    (hn : p < n ∧ t1 < n ∧ t2 < n ∧ t3 < n ∧ t4 < n) (hd : t1 ≠ p ∧ t2 ≠ p ∧ t2 ≠ t3 ∧ t3 ≠ t2)
    (hkeys : ∀ x ∈ xs.take m, ∃ l, x[fo]? = some (.s l)) (hm2 : m < 4611686018427387904)
    (h : ∀ ys, ys.Perm (xs.take m) → RowsUp fo ys → Q .normal ⟨(t4, .u) :: (t3, .u) :: (t2, .u) :: (t1, .u) :: env, box, row.set r (some (e, ys ++ xs.drop m)), n⟩) (he : e < BIG := by decide) :
    Ok P T (.region id #[⟨some t1, .load ty (.tmp p), y1, p1, a1, none⟩, ⟨some t2, .makeInterface ty (.tmp t1), y2, p2, a2, none⟩, ⟨some t3, .makeFunc (.func g) #[] #[.tmp p], y3, p3, a3, none⟩,
      ⟨some t4, .call ⟨.value (.func f), #[.tmp t2, .tmp t3], tys⟩, y4, p4, a4, none⟩] false) Q ⟨env, box, row, n⟩ := by
  refine ⟨fun w0 V0 V μ ω a w hS => wp_region_lit ?_⟩
  obtain ⟨hpn, hn1, hn2, hn3, hn4⟩ := hn
  obtain ⟨hd1, hd2, hd3, hd4⟩ := hd
  unfold wpList
  rw [if_pos (by simp [Region.wanted])]
  left
  refine (Vok.of_qop (E := .none) hT hS hload) _ _ ?_
  clear hS
  rintro _ v1 _ V μ ω w ⟨rfl, rfl⟩ hv1 hS _
  have rp := hS.slot hpn
  rw [hp] at rp
  obtain ⟨g1, hg1, hpv⟩ := rp.bp_
  have hsz : a.tmps.size = n := hS.tmps
  obtain ⟨A, N, c, hω, hnN, rfl⟩ := hv1.own_
  show wpList P _ _ [_, _, _] (a.put (some t1) _) w
  unfold wpList
  rw [if_pos (by simp [Region.wanted])]
  left
  unfold Oper.wp
  have r2 : (execOp (a.put (some t1) (.slice A m c)).eval ⟨some t2, .makeInterface ty (.tmp t1), y2, p2, a2, none⟩).run P w = .ok (.value (.iface ty (.slice A m c))) w := by
    simp only [execOp, put_same (a := a) (t := t1) (v := .slice A m c) (by omega), Sem.run_bind, run_makeInterface w ty _ hC.conc, Result.andThen_ok, Sem.run_pure]
  rw [r2]
  show wpList P _ _ [_, _] ((a.put (some t1) _).put (some t2) _) w
  unfold wpList
  rw [if_pos (by simp [Region.wanted])]
  left
  unfold Oper.wp
  have hpe : ((a.put (some t1) (.slice A m c)).put (some t2) (.iface ty (.slice A m c))).eval (.tmp p) = .pointer (some ⟨g1, 0, none⟩) := by
    rw [put_other hd2, put_other hd1]; exact hpv
  have r3 : (execOp ((a.put (some t1) (.slice A m c)).put (some t2) (.iface ty (.slice A m c))).eval ⟨some t3, .makeFunc (.func g) #[] #[.tmp p], y3, p3, a3, none⟩).run P w = .ok (.value (.func (.func g) #[] #[.pointer (some ⟨g1, 0, none⟩)])) w := by
    simp only [execOp, Instr.makeFunc, Sem.run_bind, Sem.run_pure, Result.andThen_ok, List.map_toArray, List.map_cons, List.map_nil, hpe]
  rw [r3]
  show wpList P _ _ [_] (((a.put (some t1) _).put (some t2) _).put (some t3) _) w
  generalize hA3 : ((a.put (some t1) (.slice A m c)).put (some t2) (.iface ty (.slice A m c))).put (some t3) (.func (.func g) #[] #[.pointer (some ⟨g1, 0, none⟩)]) = a3'
  have hs3 : a3'.tmps.size = n := by rw [← hA3, put_size, put_size, put_size, hsz]
  have e2 : a3'.eval (.tmp t2) = .iface ty (.slice A m c) := by rw [← hA3, put_other hd4, put_same (by rw [put_size]; omega)]
  have e3 : a3'.eval (.tmp t3) = .func (.func g) #[] #[.pointer (some ⟨g1, 0, none⟩)] := by rw [← hA3, put_same (by rw [put_size, put_size]; omega)]
  have hS3 : Sim (szOf T) w0 V0 V μ ω ⟨(t3, .u) :: (t2, .u) :: (t1, .u) :: env, box, row, n⟩ a3' w := by
    rw [← hA3]
    exact ((hS.put hn1 (.imm _ _ (.u _))).put hn2 (.imm _ _ (.u _))).put hn3 (.imm _ _ (.u _))
  unfold wpList
  rw [if_pos (by simp [Region.wanted])]
  left
  unfold Oper.wp
  have r4 : (execOp a3'.eval ⟨some t4, .call ⟨.value (.func f), #[.tmp t2, .tmp t3], tys⟩, y4, p4, a4, none⟩).run P w = .ok (.enter f #[.iface ty (.slice A m c), .func (.func g) #[] #[.pointer (some ⟨g1, 0, none⟩)]]) w := by
    simp only [execOp, resolve, Act.eval, Deferred.ofValue, invoke, Sem.run_bind, Sem.run_pure, Result.andThen_ok, List.map_toArray, List.map_cons, List.map_nil] at e2 e3 ⊢
    rw [e2, e3, hC.call]
    rfl
  rw [r4]
  show Calls P f _ w _
  have fin : ∀ (w' : World) (ys : List (List D)), (∀ ds, DefOk w0 V0 ds w → DefOk w0 V0 ds w') → ys.Perm (xs.take m) → RowsUp fo ys → Mem (szOf T) w0 V0 V μ ω box (row.set r (some (e, ys ++ xs.drop m))) w' →
      ∃ s' V' μ' ω', Q .normal s' ∧ Sim (szOf T) w0 V0 V' μ' ω' s' (a3'.put (some t4) (.tuple #[])) w' := fun w' ys hx h1 h2 hM =>
    let hP := hS3.put (v := .tuple #[]) hn4 (.imm _ _ (.u _))
    ⟨_, V, μ, ω, h ys h1 h2, Sim.mk hP.tmps (hx _ hP.defers) hP.env hM⟩
  by_cases hm1 : m ≤ 1
  · refine (hC.tiny A m c _ w hm1).mono ?_
    rintro e' w' ⟨rfl, os, rfl⟩
    have hrl : r < row.length := (List.getElem?_eq_some_iff.1 hr).1
    have hEx : Ext w (grow w os) := ⟨rfl, rfl, rfl, by show w.heap.size ≤ (w.heap ++ os).size; simp, fun j hj => by show (w.heap ++ os)[j]? = _; rw [Array.getElem?_append_left hj]⟩
    refine fin _ (xs.take m) (fun ds h => h.ext hEx) (.refl _) ?_ ?_
    · have hl : (xs.take m).length ≤ 1 := by rw [List.length_take]; omega
      unfold RowsUp
      match xs.take m, hl with
      | [], _ => simp
      | [_], _ => simp
    · rw [List.take_append_drop]
      have hrow : row.set r (some (e, xs)) = row := by
        apply List.ext_getElem?
        intro q
        by_cases hq : q = r
        · subst hq; rw [List.getElem?_set_self hrl, hr]
        · rw [List.getElem?_set_ne (Ne.symm hq)]
      rw [hrow]
      exact hS.mem.ext hEx
  · have hm2' : 2 ≤ m := by omega
    obtain ⟨A2, c2, vals, e1, hc, hmx, hA, hA2, hown, hR⟩ := hS.mem.rowShape he hω hr
    cases e1
    subst hk
    obtain ⟨blk, hblk⟩ : ∃ blk, A = some ⟨blk, 0, none⟩ := by
      rcases hown.2 with ⟨q, q2⟩ | ⟨g', cap, cur, q, _⟩
      · omega
      · cases q; exact ⟨g', rfl⟩
    subst hblk
    have hvl : vals.length = xs.length * szOf T e := hown.1
    have hF : ∀ i : Fin m, ∃ x : SRow (szOf T) V (szOf T e) fo, xs[i.1]? = some x.1.2 ∧ ∀ j, j < szOf T e → x.1.1[j]? = vals[i.1 * szOf T e + j]? := by
      intro i
      have hi : i.1 < xs.length := by omega
      have hx := List.getElem?_eq_getElem hi
      have hle : (i.1 + 1) * szOf T e ≤ xs.length * szOf T e := Nat.mul_le_mul_right _ hi
      rw [Nat.add_mul, Nat.one_mul] at hle
      have hget : ∀ j, j < szOf T e → ((vals.drop (i.1 * szOf T e)).take (szOf T e))[j]? = vals[i.1 * szOf T e + j]? := fun j hj => by
        rw [List.getElem?_take_of_lt hj, List.getElem?_drop]
      have hlen := hR.len i.1 _ hx
      refine ⟨⟨((vals.drop (i.1 * szOf T e)).take (szOf T e), xs[i.1]), ?_, hlen, ?_, ?_, ?_⟩, hx, hget⟩
      · rw [List.length_take, List.length_drop]; omega
      · intro v hv
        exact hR.one v (List.mem_of_mem_drop (List.mem_of_mem_take hv))
      · intro j v d h1 h2
        have hj : j < szOf T e := by rw [← hlen]; exact (List.getElem?_eq_some_iff.1 h2).1
        dsimp only at h1
        rw [hget j hj] at h1
        obtain ⟨u, hu1, hu2⟩ := hR.rel i.1 _ j d hx h2
        rw [h1] at hu1
        cases hu1
        exact hu2
      · exact hkeys _ (by
          have : (xs.take m)[i.1]? = some xs[i.1] := by rw [List.getElem?_take_of_lt i.2]; exact hx
          exact List.mem_of_getElem? this)
    let F : Fin m → SRow (szOf T) V (szOf T e) fo := fun i => Classical.choose (hF i)
    have hF1 : ∀ i, xs[i.1]? = some (F i).1.2 := fun i => (Classical.choose_spec (hF i)).1
    have hF2 : ∀ i j, j < szOf T e → (F i).1.1[j]? = vals[i.1 * szOf T e + j]? := fun i => (Classical.choose_spec (hF i)).2
    letI : Inhabited (SRow (szOf T) V (szOf T e) fo) := ⟨F ⟨0, by omega⟩⟩
    let d := Array.ofFn F
    have hds : d.size = m := Array.size_ofFn
    have hdg : ∀ i (hi : i < m), d[i]! = F ⟨i, hi⟩ := fun i hi => by
      rw [getElem!_pos d i (by rw [hds]; exact hi)]
      simp [d]
    have hkey : ∀ x : SRow (szOf T) V (szOf T e) fo, x.1.1[fo]? = some (.string (bstr x.key)) := by
      intro x
      obtain ⟨l, hl⟩ := x.2.2.2.2.2
      have hfo : fo < szOf T e := by rw [← x.2.2.1]; exact (List.getElem?_eq_some_iff.1 hl).1
      have hfo1 : fo < x.1.1.length := by rw [x.2.1]; exact hfo
      have hv : x.1.1[fo]? = some x.1.1[fo] := List.getElem?_eq_getElem hfo1
      have hri := x.2.2.2.2.1 fo _ _ hv hl
      have hke : x.key = l := by unfold SRow.key; rw [hl]
      have hs := (RS.imm (μ := []) (ω := []) _ _ hri).str_
      rw [hke, hv, hs]
    have hpos : 0 < szOf T e := by
      obtain ⟨l, hl⟩ := (F ⟨0, by omega⟩).2.2.2.2.2
      have := (List.getElem?_eq_some_iff.1 hl).1
      rw [(F ⟨0, by omega⟩).2.2.1] at this
      omega
    have hheap : ∃ cur, w.heap[blk]? = some (.cells cur e (0, 0)) := by
      rcases hown.2 with ⟨q, _⟩ | ⟨g', cap, cur, q, _, hh, _⟩
      · cases q
      · cases q; exact ⟨cur, hh⟩
    obtain ⟨cur, hheap⟩ := hheap
    have hHold : HoldsK (fun x : SRow (szOf T) V (szOf T e) fo => x.1.1) (szOf T e) w blk 0 d := by
      intro j hj
      rw [size_flatK, hds] at hj
      have hjk : j / szOf T e < m := Nat.div_lt_of_lt_mul (by rw [Nat.mul_comm]; exact hj)
      have hjm := Nat.mod_lt j hpos
      refine ⟨?_, by simp [World.frozen?, hheap]⟩
      rw [get_flatK _ _ _ _ (by rw [hds]; exact hj), hdg _ hjk]
      have h3 := hF2 ⟨j / szOf T e, hjk⟩ (j % szOf T e) hjm
      have h4 : (F ⟨j / szOf T e, hjk⟩).1.1[j % szOf T e]? = some (F ⟨j / szOf T e, hjk⟩).1.1[j % szOf T e]! := by
        rw [getElem!_pos _ _ (by rw [(F ⟨j / szOf T e, hjk⟩).2.1]; exact hjm)]
        exact List.getElem?_eq_getElem _
      rw [h4, Nat.mul_comm, Nat.div_add_mod] at h3
      have := hown.cells (g := blk) rfl j _ h3.symm
      rw [add_lit] at this
      exact this
    obtain ⟨vs, tb, hh, hs, ho, hRb, _⟩ := hS.mem.hbox i g1 _ hg1 hb
    have hvs0 : 0 < vs.size := by rw [hs]; simp
    have hvs : ∃ v, vs[0]? = some v := ⟨vs[0], Array.getElem?_eq_getElem hvs0⟩
    obtain ⟨v0, hv0⟩ := hvs
    obtain ⟨Ab, Nb, cb, hωb, _, hvb⟩ := (hRb 0 v0 _ hv0 rfl).own_
    rw [hω] at hωb
    cases hωb
    have hBs : w.cell? ⟨g1, 0, none⟩ = some (.slice (some ⟨blk, 0, none⟩) m c) := by
      rw [cell_of_row w g1 0 vs tb (0, 0) hh, hv0, hvb]
    have hgl : g1 < w.heap.size := (Array.getElem?_eq_some_iff.1 hh).1
    have hne : g1 ≠ blk := fun e' => by
      have := hS.mem.uniq (.inl i) (.inr r) g1 hg1 ⟨_, _, hω, hr, by rw [e']; rfl⟩
      cases this
    have hcall := hC.big (SRow (szOf T) V (szOf T e) fo) (fun x => x.1.1) SRow.key (fun x => x.2.1) (fun x => x.2.2.2.1) hkey blk c g1 d (by rw [hds]; exact hm2') (by rw [hds]; exact hm2) w hHold (Array.getElem?_eq_some_iff.1 hheap).1 (by rw [hds]; exact hBs) hgl hne
    rw [hds] at hcall
    refine hcall.mono ?_
    rintro e' w' ⟨rfl, d', q, os, hperm, hsort, rfl⟩
    have hds' : d'.size = m := by rw [hperm.1, hds]
    obtain ⟨hgrow, hown'⟩ := sorted_row (q := q) (enc := fun x : SRow (szOf T) V (szOf T e) fo => x.1.1) (d := d') (os := os) hown hm hds'
    have hdmap : d.toList.map (fun x => x.1.2) = xs.take m := by
      apply List.ext_getElem?
      intro j
      rw [List.getElem?_map, Array.getElem?_toList]
      by_cases hj : j < m
      · rw [Array.getElem?_eq_getElem (by rw [hds]; exact hj), List.getElem?_take_of_lt hj, hF1 ⟨j, hj⟩]
        simp [d]
      · rw [Array.getElem?_eq_none (by rw [hds]; omega), List.getElem?_take, if_neg hj]
        rfl
    have hpl : d'.toList.Perm d.toList := by
      have := hperm.2.2
      rwa [show d'.extract 0 m = d' from by rw [← hds']; simp, show d.extract 0 m = d from by rw [← hds]; simp] at this
    have hdg' : ∀ (j : Nat) (x : SRow (szOf T) V (szOf T e) fo), d'.toList[j]? = some x → d'[j]! = x := fun j x hx => by
      rw [Array.getElem?_toList] at hx
      obtain ⟨hj, rfl⟩ := Array.getElem?_eq_some_iff.1 hx
      exact getElem!_pos d' j hj
    refine fin _ (d'.toList.map fun x => x.1.2) (fun ds h => h.ownGrown hS.mem hω hr hgrow) (by rw [← hdmap]; exact hpl.map _) ?_ ?_
    · unfold RowsUp
      rw [List.pairwise_map, List.pairwise_iff_getElem]
      intro i1 j1 hi1 hj1 hij a b ha hb'
      have s1 := hsort i1 j1 (Nat.zero_le _) hij (by simpa [hds'] using hj1)
      rw [hdg' i1 _ (List.getElem?_eq_getElem hi1), hdg' j1 _ (List.getElem?_eq_getElem hj1)] at s1
      have k1 : SRow.key d'.toList[i1] = a := by unfold SRow.key; rw [ha]
      have k2 : SRow.key d'.toList[j1] = b := by unfold SRow.key; rw [hb']
      dsimp only at s1
      rw [k1, k2] at s1
      exact s1
    · have hlen' : ((d'.toList.map fun x => x.1.2) ++ xs.drop m).length = xs.length := by
        rw [List.length_append, List.length_map, Array.length_toList, hds', List.length_drop]; omega
      have hωs : ω.set r (.slice (some ⟨blk, 0, none⟩) xs.length c) = ω := by
        apply List.ext_getElem?
        intro q
        by_cases hq : q = r
        · subst hq; rw [List.getElem?_set_self (List.getElem?_eq_some_iff.1 hω).1, hω]
        · rw [List.getElem?_set_ne (Ne.symm hq)]
      have hfl : (flatK (fun x : SRow (szOf T) V (szOf T e) fo => x.1.1) (szOf T e) d').toList.length = m * szOf T e := by rw [Array.length_toList, size_flatK, hds']
      have hflg : ∀ j, j < m * szOf T e → (flatK (fun x : SRow (szOf T) V (szOf T e) fo => x.1.1) (szOf T e) d').toList[j]? = some (d'[j / szOf T e]!.1.1[j % szOf T e]!) := fun j hj => by
        rw [Array.getElem?_toList, Array.getElem?_eq_getElem (by rw [size_flatK, hds']; exact hj)]
        have := get_flatK (fun x : SRow (szOf T) V (szOf T e) fo => x.1.1) (szOf T e) d' j (by rw [hds']; exact hj)
        rw [getElem!_pos _ _ (by rw [size_flatK, hds']; exact hj)] at this
        rw [this]
      have hM := hS.mem.setRow_ (w' := grow (putRowK (fun x : SRow (szOf T) V (szOf T e) fo => x.1.1) (szOf T e) (Sort.ahead w q) blk 0 d') os) (v' := .slice (some ⟨blk, 0, none⟩) xs.length c) (e := e) (ys := (d'.toList.map fun x => x.1.2) ++ xs.drop m)
        (vals := (flatK (fun x : SRow (szOf T) V (szOf T e) fo => x.1.1) (szOf T e) d').toList ++ vals.drop (m * szOf T e)) hω hr hgrow (by rw [hlen']; exact hown') ?_ (.inl rfl) (box' := box) rfl ?_ (fun i cs cs' h1 h2 t h => by rw [h1] at h2; cases h2; exact h)
      · rw [hωs] at hM
        exact hM
      · refine ⟨fun u hu => ?_, fun i1 rw1 h1 => ?_, fun i1 rw1 j1 d1 h1 h2 => ?_⟩
        · rcases List.mem_append.1 hu with hu | hu
          · obtain ⟨j, hj⟩ := List.mem_iff_getElem?.1 hu
            have hjl : j < m * szOf T e := by rw [← hfl]; exact (List.getElem?_eq_some_iff.1 hj).1
            rw [hflg j hjl] at hj
            cases hj
            generalize d'[j / szOf T e]! = x
            refine x.2.2.2.1 _ ?_
            have hx : j % szOf T e < x.1.1.length := by rw [x.2.1]; exact Nat.mod_lt j hpos
            rw [getElem!_pos x.1.1 _ hx]
            exact List.getElem_mem hx
          · exact hR.one u (List.mem_of_mem_drop hu)
        · by_cases hi1 : i1 < m
          · rw [List.getElem?_append_left (by rw [List.length_map, Array.length_toList, hds']; exact hi1), List.getElem?_map] at h1
            obtain ⟨x, _, rfl⟩ := Option.map_eq_some_iff.1 h1
            exact x.2.2.1
          · rw [List.getElem?_append_right (by rw [List.length_map, Array.length_toList, hds']; omega), List.getElem?_drop] at h1
            exact hR.len _ rw1 h1
        · by_cases hi1 : i1 < m
          · rw [List.getElem?_append_left (by rw [List.length_map, Array.length_toList, hds']; exact hi1), List.getElem?_map] at h1
            obtain ⟨x, hx, rfl⟩ := Option.map_eq_some_iff.1 h1
            have hj1 : j1 < szOf T e := by rw [← x.2.2.1]; exact (List.getElem?_eq_some_iff.1 h2).1
            have hlt : i1 * szOf T e + j1 < m * szOf T e := by
              have : (i1 + 1) * szOf T e ≤ m * szOf T e := Nat.mul_le_mul_right _ hi1
              rw [Nat.add_mul] at this; omega
            have hdv : (i1 * szOf T e + j1) / szOf T e = i1 := by rw [Nat.mul_comm, Nat.mul_add_div hpos, Nat.div_eq_of_lt hj1, Nat.add_zero]
            have hmd : (i1 * szOf T e + j1) % szOf T e = j1 := by rw [Nat.mul_comm, Nat.mul_add_mod, Nat.mod_eq_of_lt hj1]
            have hdx := hdg' i1 x hx
            have hx1 : x.1.1[j1]? = some x.1.1[j1]! := by
              rw [getElem!_pos _ _ (by rw [x.2.1]; exact hj1)]
              exact List.getElem?_eq_getElem _
            refine ⟨x.1.1[j1]!, ?_, x.2.2.2.2.1 j1 _ d1 hx1 h2⟩
            rw [List.getElem?_append_left (by rw [hfl]; exact hlt), hflg _ hlt, hdv, hmd, hdx]
          · rw [List.getElem?_append_right (by rw [List.length_map, Array.length_toList, hds']; omega), List.getElem?_drop, List.length_map, Array.length_toList, hds', show m + (i1 - m) = i1 by omega] at h1
            obtain ⟨u, hu1, hu2⟩ := hR.rel i1 rw1 j1 d1 h1 h2
            have hge : m * szOf T e ≤ i1 * szOf T e := Nat.mul_le_mul_right _ (by omega)
            exact ⟨u, by rw [List.getElem?_append_right (by rw [hfl]; omega), hfl, List.getElem?_drop, show m * szOf T e + (i1 * szOf T e + j1 - m * szOf T e) = i1 * szOf T e + j1 by omega]; exact hu1, hu2⟩
      · intro i1 cs cs' h1 h2
        rw [h1] at h2
        cases h2
        refine ⟨rfl, fun j u dd dd' h3 h4 hrs => ?_⟩
        rw [h3] at h4
        cases h4
        rw [hωs]
        exact hrs
end
end Go.Vx
namespace Go.Vx
open Go.RowKit Go.Shelf Go.Proofs
structure CopyC (P : Program) (f t : Nat) : Prop where
  call : ∀ args w, (callFunc f args).run P w = .ok (.enter f args) w
  fresh : ∀ (b : Nat) (w : World), w.cell? ⟨b, 0, none⟩ = some (.pointer none) → w.shape? b = some (t, 2) → w.frozen? ⟨b, 0, none⟩ = false →
    Calls P f #[.pointer (some ⟨b, 0, none⟩)] w fun e w' => e = .returned (.tuple #[]) ∧ w' = w.setCell ⟨b, 0, none⟩ (.pointer (some ⟨b, 0, none⟩))
  used : ∀ (b : Nat) (w : World), w.cell? ⟨b, 0, none⟩ = some (.pointer (some ⟨b, 0, none⟩)) → Calls P f #[.pointer (some ⟨b, 0, none⟩)] w fun e w' => e = .returned (.tuple #[]) ∧ w' = w
structure StrC (P : Program) (f e : Nat) : Prop where
  call : ∀ args w, (callFunc f args).run P w = .ok (.enter f args) w
  run : ∀ (b g : Nat) (w : World) (l : List UInt8) (cap : Nat) (cur : Array Value), w.cell? ⟨b, 1, none⟩ = some (.slice (some ⟨g, 0, none⟩) l.length cap) → w.heap[g]? = some (.cells cur e (0, 0)) → l.length ≤ cap → cap ≤ maxLen →
    cur.size = cap → cur.toList.take l.length = Lib.byteCells l → l ≠ [] → Calls P f #[.pointer (some ⟨b, 0, none⟩)] w fun e w' => e = .returned (.string (bstr l)) ∧ w' = w.drew.freeze ⟨g, 0, none⟩ l.length
set_option maxHeartbeats 4000000 in
set_option maxRecDepth 100000 in
theorem strC {P : Program} {ρ : Ren} (L : Lays.n169 P ρ) (X : Builder.Extra P ρ) (hc : ∀ args w, (callFunc (ρ.f 169) args).run P w = .ok (.enter (ρ.f 169) args) w) : StrC P (ρ.f 169) (ρ.t 5) := by
  refine ⟨hc, fun b g w l cap cur hb hg hlc hcm hcs htk h0 => ?_⟩
  have hl0 : l.length ≠ 0 := by simpa using h0
  have c1 : w.drew.cell? ⟨b, 1, none⟩ = some (.slice (some ⟨g, 0, none⟩) l.length cap) := hb
  have hSD : (Builtin.unsafeSliceData_ #[(ρ.t 37)] (ρ.t 127) #[.slice (some ⟨g, 0, none⟩) l.length cap]).run P w.drew = .ok (.pointer (some ⟨g, 0, none⟩)) w.drew := Lib.run_unsafeSliceData_row _ _ _ _ _ _ (by omega)
  have hg' : w.drew.heap[g]? = some (.cells cur (ρ.t 5) (0, 0)) := hg
  have hUS : (Builtin.unsafeString_ #[(ρ.t 127), (ρ.t 3)] (ρ.t 9) #[.pointer (some ⟨g, 0, none⟩), .int .i64 l.length]).run P w.drew = .ok (.string ⟨l.toArray⟩) (w.drew.freeze ⟨g, 0, none⟩ l.length) := by
    refine Lib.run_unsafeString_row w.drew (ρ.t 127) (ρ.t 3) (ρ.t 9) (ρ.t 5) L.t127 X.cellsByte g cur.size (by simp [World.shape?, hg']) l h0 (by omega) (by unfold maxLen at hcm; omega) ?_
    intro j x hx
    have h1 : (cur.toList.take l.length)[j]? = some (.int .u8 x.toNat) := by
      rw [htk]
      simp [Lib.byteCells, hx]
    rw [List.getElem?_take] at h1
    split at h1
    · rw [add_lit, Nat.zero_add, cell_of_row w.drew g j cur (ρ.t 5) (0, 0) hg']
      simpa using h1
    · cases h1
  have mixed := L.mixed
  have t72 := L.t72; have a72 := L.a72; have z72 := L.z72; have v72 := L.v72; have u72 := run_underlying L.t72
  have t70 := L.t70; have a70 := L.a70; have z70 := L.z70; have v70 := L.v70; have u70 := run_underlying L.t70
  have t37 := L.t37; have a37 := L.a37; have z37 := L.z37; have v37 := L.v37; have u37 := run_underlying L.t37
  have t127 := L.t127; have a127 := L.a127; have z127 := L.z127; have v127 := L.v127; have u127 := run_underlying L.t127
  have t3 := L.t3; have a3 := L.a3; have z3 := L.z3; have v3 := L.v3; have u3 := run_underlying L.t3
  have t9 := L.t9; have a9 := L.a9; have z9 := L.z9; have v9 := L.v9; have u9 := run_underlying L.t9
  have t5 := X.t5; have a5 := X.a5; have z5 := X.z5; have v5 := X.v5; have u5 := run_underlying X.t5
  go_enter L.f169, Body.n169_ntmps ρ
  go_wp2
  go_region_o
  all_goals
    go_wp2
    go_ret
    exact ⟨rfl, rfl⟩
section
variable {w0 w w' : World} {V0 : Fr} {V : Vw} {μ : List Nat} {ω : List Value} {box : List (List D)} {row : Rows} {s : St} {a : Act} {P : Program} {T : Tab} {sz : TypeId → Nat}
theorem fz_heap (w : World) (g n : Nat) (hn : n ≠ 0) : (w.freeze ⟨g, 0, none⟩ n).heap = w.heap.modify g fun o => match o with
    | .cells c elem (lo, hi) => .cells c elem (if lo == hi then (0, 0 + n) else (min lo 0, max hi (0 + n)))
    | o => o := by
  unfold World.freeze
  rw [if_neg hn]
  congr 1
theorem freeze_other (w : World) (g k n : Nat) (h : k ≠ g) : (w.drew.freeze ⟨g, 0, none⟩ n).heap[k]? = w.heap[k]? := by
  by_cases hn : n = 0
  · subst hn; rfl
  · rw [fz_heap _ _ _ hn, Array.getElem?_modify, if_neg (Ne.symm h)]
    rfl
theorem freeze_size (w : World) (g n : Nat) : (w.drew.freeze ⟨g, 0, none⟩ n).heap.size = w.heap.size := by
  by_cases hn : n = 0
  · subst hn; rfl
  · rw [fz_heap _ _ _ hn, Array.size_modify]
    rfl
theorem freeze_cell (w : World) (g n : Nat) (p : Addr) : (w.drew.freeze ⟨g, 0, none⟩ n).cell? p = w.cell? p := by
  unfold World.cell?
  by_cases hp : p.block = g
  · by_cases hn : n = 0
    · subst hn; rfl
    · rw [fz_heap _ _ _ hn, Array.getElem?_modify, if_pos hp.symm]
      have hd : w.drew.heap[p.block]? = w.heap[p.block]? := rfl
      rw [hd]
      cases h : w.heap[p.block]? with
      | none => rfl
      | some o => cases o <;> rfl
  · rw [freeze_other _ _ _ _ hp]
theorem Mem.freeze (h : Mem sz w0 V0 V μ ω box row w) {g n : Nat} (hg0 : w0.heap.size ≤ g) (hno : ∀ l, ¬ Own μ ω row l g) : Mem sz w0 V0 V μ ω box row (w.drew.freeze ⟨g, 0, none⟩ n) := by
  refine ⟨Lib.below_freeze (h.below.trans (Below.drew (Below.refl _ w))) (p := ⟨g, 0, none⟩) hg0 n, ⟨h.vok.1, fun p v hp => by rw [freeze_cell]; exact h.vok.2 p v hp⟩, h.vle, h.vold, h.bl, fun i g' cs h1 h2 => ?_, h.rl, fun r v e xs h1 h2 => ?_, h.uniq, fun l g' hl => by rw [freeze_size]; exact h.new l g' hl, h.vmut⟩
  · obtain ⟨vs, t, a, b⟩ := h.hbox i g' cs h1 h2
    have hne : g' ≠ g := fun e => hno (.inl i) (by rw [← e]; exact h1)
    exact ⟨vs, t, by rw [freeze_other _ _ _ _ hne]; exact a, b⟩
  · obtain ⟨vals, hown, b⟩ := h.hrow r v e xs h1 h2
    refine ⟨vals, ⟨hown.1, ?_⟩, b⟩
    rcases hown.2 with hn | ⟨g', cap, cur, e', fz, hv, hb, hg, rest⟩
    · exact .inl hn
    · have hne : g' ≠ g := fun e => hno (.inr r) ⟨v, _, h1, h2, by rw [hv, ← e]; rfl⟩
      exact .inr ⟨g', cap, cur, e', fz, hv, hb, by rw [freeze_other _ _ _ _ hne]; exact hg, rest⟩
theorem setCell_row {w : World} {g : Nat} {vs : Array Value} {t : TypeId} {fr : Nat × Nat} (hg : w.heap[g]? = some (.cells vs t fr)) (v : Value) : w.setCell ⟨g, 0, none⟩ v = w.setRow g (vs.setIfInBounds 0 v) := by
  unfold World.setCell World.setRow
  congr 1
  apply Array.ext_getElem?
  intro k
  simp only [Array.getElem?_modify]
  by_cases hk : g = k
  · subst hk
    simp [hg]
  · simp [hk]
theorem setK_mk {α : Type} {x : α} : ∀ {l : List α} {i : Nat} {K : List α → Prop}, i < l.length → K (l.set i x) → setK l i x K
  | [], _, _, h, _ => absurd h (by simp)
  | _ :: _, 0, _, _, h => h
  | _ :: l, i + 1, K, hi, h => setK_mk (l := l) (K := fun r => K (_ :: r)) (by simpa using hi) h
theorem effW_fresh {f t i n : Nat} (C : CopyC P f t) {env : List (Nat × D)} {x : D} {K : D → St → Prop} (hb : box[i]? = some [.nilB t, x])
    (h : setK box i [.bp i 0, x] fun box => K (.tup []) ⟨env, box, row, n⟩) : effW P T ⟨env, box, row, n⟩ f [.bp i 0] K := by
  refine ⟨C.call, fun w0 V0 V μ ω a w vs hS hl hR => ?_⟩
  obtain ⟨v, rfl⟩ : ∃ v, vs = [v] := by
    match vs, hl with
    | [v], _ => exact ⟨v, rfl⟩
  obtain ⟨g, hg, rfl⟩ := (hR 0 v _ rfl rfl).bp_
  obtain ⟨us, t', hh, hs, ho, hrel, hty⟩ := hS.mem.hbox i g _ hg hb
  have ht : t = t' := hty
  subst ht
  have hs2 : us.size = 2 := hs
  have hu0 : us[0]? = some us[0] := Array.getElem?_eq_getElem (by omega)
  have hv0 : us[0] = .pointer none := by
    have key : ∀ u, RS (szOf T) V μ ω u (.nilB t) → u = .pointer none := fun u hu => by cases hu with | imm _ _ hr => cases hr; rfl
    exact key _ (hrel 0 _ (.nilB t) hu0 rfl)
  obtain ⟨hil, h⟩ := setK_iff _ _ _ _ h
  have hcall := C.fresh g w (by rw [cell_of_row w g 0 us t (0, 0) hh, hu0, hv0]) (by simp [World.shape?, hh, hs2]) (by simp [World.frozen?, hh])
  refine hcall.mono ?_
  rintro e w' ⟨rfl, rfl⟩
  have hM := hS.mem.setBox (cs := [.bp i 0, x]) (vs := us.setIfInBounds 0 (.pointer (some ⟨g, 0, none⟩))) hg hil ⟨by simp [hs2], fun u hu => ?_, fun j u d h1 h2 => ?_⟩ fun t => trivial
  · rw [setCell_row hh]
    exact ⟨_, _, _, V, μ, ω, rfl, h, .tup [] #[] rfl (by simp), ⟨hS.tmps, hS.defers.setRow hh _, hS.env, hM⟩⟩
  · rw [Array.toList_setIfInBounds] at hu
    rcases List.mem_or_eq_of_mem_set hu with hu | rfl
    · exact ho u hu
    · rfl
  · cases j with
    | zero =>
      rw [Array.getElem?_setIfInBounds_self_of_lt (by omega)] at h1
      cases h1
      cases h2
      exact .bp i 0 g hg
    | succ j =>
      rw [Array.getElem?_setIfInBounds_ne (by omega)] at h1
      exact hrel (j + 1) u d h1 h2
theorem effW_used {f t i n : Nat} (C : CopyC P f t) {env : List (Nat × D)} {x : D} {K : D → St → Prop} (hb : box[i]? = some [.bp i 0, x])
    (h : K (.tup []) ⟨env, box, row, n⟩) : effW P T ⟨env, box, row, n⟩ f [.bp i 0] K := by
  refine ⟨C.call, fun w0 V0 V μ ω a w vs hS hl hR => ?_⟩
  obtain ⟨v, rfl⟩ : ∃ v, vs = [v] := by
    match vs, hl with
    | [v], _ => exact ⟨v, rfl⟩
  obtain ⟨g, hg, rfl⟩ := (hR 0 v _ rfl rfl).bp_
  obtain ⟨us, t', hh, hs, ho, hrel, hty⟩ := hS.mem.hbox i g _ hg hb
  have hs2 : us.size = 2 := hs
  have hu0 : us[0]? = some us[0] := Array.getElem?_eq_getElem (by omega)
  have hv0 : us[0] = .pointer (some ⟨g, 0, none⟩) := by
    obtain ⟨g2, hg2, e⟩ := (hrel 0 _ (.bp i 0) hu0 rfl).bp_
    rw [e]
    have hg3 := hS.mem
    rw [hg] at hg2
    cases hg2
    rfl
  refine (C.used g w (by rw [cell_of_row w g 0 us t' (0, 0) hh, hu0, hv0])).mono ?_
  rintro e w' ⟨rfl, rfl⟩
  exact ⟨_, _, _, V, μ, ω, rfl, h, .tup [] #[] rfl (by simp), hS⟩
theorem effK_string {f e i r m n : Nat} (C : StrC P f e) (h1 : szOf T e = 1) {env : List (Nat × D)} {x : D} {xs : List (List D)} {l : List UInt8} {K : D → St → Prop} (hb : box[i]? = some [x, .own r m]) (hr : row[r]? = some (some (e, xs)))
    (hm : m ≤ xs.length) (hl : xs.take m = l.map bcell) (h0 : l ≠ []) (h : pubK r ⟨env, box, row, n⟩ [] fun _ s' => K (.s l) s') (he : e < BIG := by decide) : effK P T ⟨env, box, row, n⟩ f [.bp i 0] K := by
  refine ⟨C.call, fun w0 V0 V μ ω a w vs hS hvl hR => ?_⟩
  obtain ⟨v, rfl⟩ : ∃ v, vs = [v] := by
    match vs, hvl with
    | [v], _ => exact ⟨v, rfl⟩
  obtain ⟨gb, hgb, rfl⟩ := (hR 0 v _ rfl rfl).bp_
  obtain ⟨us, t', hh, hs, ho, hrel, hty⟩ := hS.mem.hbox i gb _ hgb hb
  have hs2 : us.size = 2 := hs
  have hu1 : us[1]? = some us[1] := Array.getElem?_eq_getElem (by omega)
  have hown1 := hrel 1 _ (.own r m) hu1 rfl
  obtain ⟨A, N, c, hω, hn, hv1⟩ := hown1.own_
  obtain ⟨A2, c2, vals, e1, hc, hmx, hA, hA2, hown, hRR⟩ := hS.mem.rowShape he hω hr
  cases e1
  have hml : m = l.length := by have := congrArg List.length hl; rw [List.length_take, List.length_map] at this; omega
  have hlp : l.length ≠ 0 := by simpa using h0
  rcases hown.2 with ⟨hv, hz⟩ | ⟨g, cap, cur, hv, hbase, hg, h5, h6, h7, h8⟩
  · omega
  injection hv with hv2 hv3 hv4
  subst hv2 hv4
  rw [h1, Nat.mul_one] at h7 h8
  have hval : cur.toList.take l.length = Lib.byteCells l := by
    apply List.ext_getElem?
    intro j
    rw [List.getElem?_take]
    split
    · rename_i hj
      have hlj : l[j]? = some l[j] := List.getElem?_eq_getElem hj
      have hx : xs[j]? = some (bcell l[j]) := by
        have := congrArg (fun q => q[j]?) hl
        simp only [List.getElem?_map, hlj, Option.map_some] at this
        rw [List.getElem?_take] at this
        split at this
        · exact this
        · cases this
      obtain ⟨u, hu, hu2⟩ := hRR.rel j (bcell l[j]) 0 _ hx rfl
      rw [h1, Nat.mul_one, Nat.add_zero, ← h8, List.getElem?_take] at hu
      split at hu
      · rw [hu]
        cases hu2
        simp [Lib.byteCells, hlj]
      · cases hu
    · rw [List.getElem?_eq_none]
      simp [Lib.byteCells]
      omega
  obtain ⟨V', _, s', hk, _, hS', hle⟩ := pubK_sound (vs := []) (ds := []) (K := fun _ s' => K (.s l) s' ∧ s'.row = row.set r none) hS ⟨rfl, fun j v d h => by simp at h⟩ (by
    simp only [pubK] at h ⊢
    rw [hr] at h ⊢
    simp only [subE_eq, subB_eq] at h ⊢
    obtain ⟨hrl, h⟩ := setK_iff _ _ _ _ h
    exact setK_mk hrl ⟨h, rfl⟩)
  refine (C.run gb g w l c cur (by rw [cell_of_row w gb 1 us t' (0, 0) hh, hu1, hv1, hml]) hg (by omega) h6 h7 hval h0).mono ?_
  rintro e' w' ⟨rfl, rfl⟩
  have hno : ∀ q, ¬ Own μ ω s'.row q g := by
    intro q hq
    rw [hk.2] at hq
    cases q with
    | inl j =>
      have := hS.mem.uniq (.inl j) (.inr r) g hq ⟨_, _, hω, hr, rfl⟩
      cases this
    | inr q =>
      obtain ⟨v, y, k1, k2, k3⟩ := hq
      by_cases hqr : q = r
      · subst hqr
        rw [List.getElem?_set_self (List.getElem?_eq_some_iff.1 hr).1] at k2
        cases k2
      · rw [List.getElem?_set_ne (Ne.symm hqr)] at k2
        have := hS.mem.uniq (.inr q) (.inr r) g ⟨v, y, k1, k2, k3⟩ ⟨_, _, hω, hr, rfl⟩
        cases this
        exact hqr rfl
  exact ⟨_, _, s', V', μ, ω, rfl, hk.1, .imm _ _ (.s l), ⟨hS'.tmps, hS'.defers.to (fun k o ho hn => by rw [freeze_other _ _ _ _ (fun e => by rw [e, hg] at ho; exact hn _ _ _ (Option.some.inj ho).symm)]; exact ho), hS'.env, hS'.mem.freeze hbase hno⟩, hle, .refl μ, .refl ω, fun p v hp => by rw [freeze_cell]; exact hp⟩
theorem effW_of_effK {f : Nat} {ds : List D} {K : D → St → Prop} (h : effK P T s f ds K) : effW P T s f ds K :=
  ⟨h.call, fun w0 V0 V μ ω a w vs hS hl hR => (h.run w0 V0 V μ ω a w vs hS hl hR).mono fun e w' ⟨v, d, s', V', μ', ω', h1, h2, h3, h4, _⟩ => ⟨v, d, s', V', μ', ω', h1, h2, h3, h4⟩⟩
end
end Go.Vx
namespace Go.Vx
open Go.RowKit
section
variable {P : Program} {T : Tab} {Q : Exit → St → Prop}
theorem ri_nil {sz : TypeId → Nat} {V : Vw} (e : TypeId) : RI sz V (.slice none 0 0) (.lst e [] []) :=
  RI.lst e [] [] none ⟨0, 0, none⟩ 0 (fun _ _ => undef) (by simp) (by unfold maxLen; omega) (by simp) (by simp) (by simp) (by simp) (by simp)
theorem Ok.nilC {c : Code} (i j : Nat) (e : TypeId) {env : List (Nat × D)} {box : List (List D)} {cs : List D} {row : Rows} {n : Nat} (hi : box[i]? = some cs) (hj : cs[j]? = some .nilS)
    (h : setK cs j (.lst e [] []) fun cs' => setK box i cs' fun box' => Ok P T c Q ⟨env, box', row, n⟩) : Ok P T c Q ⟨env, box, row, n⟩ := by
  refine ⟨fun w0 V0 V μ ω a w hS => ?_⟩
  obtain ⟨hjl, h⟩ := setK_iff _ _ _ _ h
  obtain ⟨hil, h⟩ := setK_iff _ _ _ _ h
  have hM := hS.mem
  refine h.run w0 V0 V μ ω a w ⟨hS.tmps, hS.defers, hS.env, ?_⟩
  refine ⟨hM.below, hM.vok, hM.vle, hM.vold, by simpa using hM.bl, ?_, hM.rl, hM.hrow, hM.uniq, hM.new, hM.vmut⟩
  intro q g cs2 h1 h2
  by_cases hq : q = i
  · subst hq
    dsimp only at h2
    rw [List.getElem?_set_self hil] at h2
    cases h2
    obtain ⟨us, t', a1, b, c', d, ty⟩ := hM.hbox q g cs h1 hi
    refine ⟨us, t', a1, by simpa using b, c', fun k v d' e1 e2 => ?_, bTy_set ty j rfl⟩
    by_cases hk : k = j
    · subst hk
      rw [List.getElem?_set_self hjl] at e2
      cases e2
      rw [(d k v _ e1 hj).nilS_]
      exact .imm _ _ (ri_nil e)
    · rw [List.getElem?_set_ne (Ne.symm hk)] at e2
      exact d k v d' e1 e2
  · dsimp only at h2
    rw [List.getElem?_set_ne (Ne.symm hq)] at h2
    exact hM.hbox q g cs2 h1 h2
end
end Go.Vx
namespace Go.Vx
open Go.RowKit
section
variable {P : Program} {T : Tab} {Q : Exit → St → Prop}
theorem Ok.into {c : Code} (q r : Nat) {x : TypeId × List (List D)} {env : List (Nat × D)} {box : List (List D)} {row : Rows} {n : Nat} (hr : row[r]? = some (some x)) (hqr : q ≠ r) (hq : q < row.length)
    (h : subE q (fun _ => .u) env fun env => subB q (fun _ => .u) box fun box => subE r (fun m => .own q m) env fun env => subB r (fun m => .own q m) box fun box => setK row q (some x) fun row => setK row r none fun row => Ok P T c Q ⟨env, box, row, n⟩) :
    Ok P T c Q ⟨env, box, row, n⟩ := by
  refine ⟨fun w0 V0 V μ ω a w hS => ?_⟩
  simp only [subE_eq, subB_eq] at h
  obtain ⟨hq1, h⟩ := setK_iff _ _ _ _ h
  obtain ⟨hr1, h⟩ := setK_iff _ _ _ _ h
  have hM := hS.mem
  have hl : ω.length = row.length := hM.rl
  have hrr : r < row.length := (List.getElem?_eq_some_iff.1 hr).1
  obtain ⟨v, hv⟩ : ∃ v, ω[r]? = some v := ⟨_, List.getElem?_eq_getElem (by omega)⟩
  have hω : ∀ p u, p ≠ q → ω[p]? = some u → (ω.set q v)[p]? = some u := fun p u hp hu => by rw [List.getElem?_set_ne (Ne.symm hp)]; exact hu
  have hvq : (ω.set q v)[q]? = some v := List.getElem?_set_self (by omega)
  have hvr : (ω.set q v)[r]? = some v := by rw [List.getElem?_set_ne hqr]; exact hv
  have hdead : ∀ m u, RS (szOf T) V μ ω u (.own q m) → RS (szOf T) V μ (ω.set q v) u .u := fun _ u _ => .imm _ _ (.u u)
  have hconv : ∀ m u, RS (szOf T) V μ (ω.set q v) u (.own r m) → RS (szOf T) V μ (ω.set q v) u (.own q m) := by
    intro m u hu
    obtain ⟨A, N, c, h1, h2, rfl⟩ := hu.own_
    rw [hvr] at h1
    cases h1
    exact .own _ m A N c hvq h2
  have own : ∀ l g, Own μ (ω.set q v) ((row.set q (some x)).set r none) l g → ∃ l', Own μ ω row l' g ∧ ((l = .inr q ∧ l' = .inr r) ∨ (l = l' ∧ l ≠ .inr r ∧ l ≠ .inr q)) := by
    intro l g hl2
    cases l with
    | inl i => exact ⟨.inl i, hl2, .inr ⟨rfl, by simp, by simp⟩⟩
    | inr p =>
      obtain ⟨u, y, h1, h2, h3⟩ := hl2
      by_cases hpr : p = r
      · subst hpr
        rw [List.getElem?_set_self hr1] at h2
        cases h2
      · rw [List.getElem?_set_ne (Ne.symm hpr)] at h2
        by_cases hpq : p = q
        · subst hpq
          rw [hvq] at h1
          cases h1
          exact ⟨.inr r, ⟨v, x, hv, hr, h3⟩, .inl ⟨rfl, rfl⟩⟩
        · rw [List.getElem?_set_ne (Ne.symm hpq)] at h1 h2
          exact ⟨.inr p, ⟨u, y, h1, h2, h3⟩, .inr ⟨rfl, by simpa using hpr, by simpa using hpq⟩⟩
  refine h.run w0 V0 V μ (ω.set q v) a w ⟨hS.tmps, hS.defers, fun t => ?_, ?_⟩
  · show RS _ _ _ _ _ (look ((env.map fun x => (x.1, subDF q (fun _ => .u) x.2)).map fun x => (x.1, subDF r (fun m => .own q m) x.2)) t)
    rw [look_sub, look_sub]
    exact ((hS.env t).sub (fun _ _ h => h) hω hdead).sub (fun _ _ h => h) (fun _ _ _ h => h) hconv
  · refine ⟨hM.below, hM.vok, hM.vle, hM.vold, by simp [hM.bl], ?_, by simp [hl], ?_, ?_, ?_, ?_⟩
    · intro i g c' h1 h2
      simp only [List.getElem?_map, Option.map_eq_some_iff] at h2
      obtain ⟨_, ⟨cs, hcs, rfl⟩, rfl⟩ := h2
      obtain ⟨us, t', a1, b, c'', d, ty⟩ := hM.hbox i g cs h1 hcs
      refine ⟨us, t', a1, by simpa using b, c'', fun j u d' e1 e2 => ?_, bTy_sub (fun _ => rfl) (bTy_sub (fun _ => rfl) ty)⟩
      simp only [List.getElem?_map, Option.map_eq_some_iff] at e2
      obtain ⟨_, ⟨d0, hd0, rfl⟩, rfl⟩ := e2
      exact ((d j u d0 e1 hd0).sub1 (fun _ _ h => h) hω hdead).sub1 (fun _ _ h => h) (fun _ _ _ h => h) hconv
    · intro p u e' ys h1 h2
      by_cases hpr : p = r
      · subst hpr
        rw [List.getElem?_set_self hr1] at h2
        cases h2
      · rw [List.getElem?_set_ne (Ne.symm hpr)] at h2
        by_cases hpq : p = q
        · subst hpq
          rw [hvq] at h1
          cases h1
          rw [List.getElem?_set_self hq1] at h2
          cases h2
          exact hM.hrow r v e' ys hv hr
        · rw [List.getElem?_set_ne (Ne.symm hpq)] at h1 h2
          exact hM.hrow p u e' ys h1 h2
    · intro l l' g h1 h2
      obtain ⟨m, o1, c1⟩ := own l g h1
      obtain ⟨m', o2, c2⟩ := own l' g h2
      have := hM.uniq m m' g o1 o2
      rcases c1 with ⟨e1, e2⟩ | ⟨e1, e2, e3⟩ <;> rcases c2 with ⟨f1, f2⟩ | ⟨f1, f2, f3⟩
      · rw [e1, f1]
      · exact absurd (by rw [f1, ← this, e2]) f2
      · exact absurd (by rw [e1, this, f2]) e2
      · rw [e1, f1, this]
    · intro l g h1
      obtain ⟨m, o1, _⟩ := own l g h1
      exact hM.new m g o1
    · intro p u l hp h1
      obtain ⟨m, o1, _⟩ := own l _ h1
      exact hM.vmut p u m hp o1
end
end Go.Vx
namespace Go.Vx
open Go.RowKit Go.Shelf Go.Proofs
theorem split_one {P : Program} {ρ : Ren} (L : Lays.n146 P ρ) (hi9 : (P.info? (ρ.t 9)).map (fun i => (i.zero, i.size, i.bytes)) = some (some (.string ByteArray.empty), 1, 16)) (s : ByteArray) (c : UInt8) (w : World) (hs : s.size < 4294967281) :
    Calls P (ρ.f 146) #[.string s, .string ⟨#[c]⟩] w fun e w' =>
      e = .returned (.slice (some ⟨w.heap.size, 0, none⟩) (Lib.splitB ⟨#[c]⟩ 0 (Lib.countB s ⟨#[c]⟩) s).length (Lib.splitB ⟨#[c]⟩ 0 (Lib.countB s ⟨#[c]⟩) s).length) ∧ w' = w.alloc (.cells ((Lib.splitB ⟨#[c]⟩ 0 (Lib.countB s ⟨#[c]⟩) s).map Value.string).toArray (ρ.t 9)) := by
  have h1 : 1 ≤ (ByteArray.mk #[c]).size := Nat.le_refl 1
  have hle := Lib.countB_le ⟨#[c]⟩ h1 s.size s (Nat.le_refl _)
  have hlen := Lib.splitB_all ⟨#[c]⟩ h1 0 _ s rfl
  have q : Calls P (ρ.f 221) #[.string s, .string ⟨#[c]⟩, .int .i64 (0 : Nat), .int .i64 (-1)] w _ := Any.strings_genSplit_core { L with } hi9 s ⟨#[c]⟩ 0 (-1) (Lib.countB s ⟨#[c]⟩ + 1) w hs h1 (Nat.zero_le _)
    (fun x cs hx => (Any.strings_Index_one { L with } x c _).mono fun e w' ⟨he, hw⟩ => ⟨he.trans (congrArg (fun i => Ending.returned (Value.int .i64 i)) (Lib.index_one _ _).symm), hw⟩)
    ((Any.strings_Count_one { L with } s c w).mono fun e w' ⟨he, hw⟩ => ⟨by rw [he]; show _ = Ending.returned (Value.int .i64 ((Lib.count s.data.toList [c] : Nat) : Int)); rw [Lib.count_one]; rfl, hw⟩)
    (by decide) (by decide) (by rw [if_pos (by decide)]; omega)
  rw [Nat.add_sub_cancel] at q
  have e2 : Lib.cellsOf (Lib.splitB ⟨#[c]⟩ 0 (Lib.countB s ⟨#[c]⟩) s) (Lib.countB s ⟨#[c]⟩ + 1) = ((Lib.splitB ⟨#[c]⟩ 0 (Lib.countB s ⟨#[c]⟩) s).map Value.string).toArray := by rw [← hlen]; exact Lib.cellsOf_full _
  rw [e2] at q
  have t3 := L.t3; have t9 := L.t9; have t31 := L.t31
  have a3 := L.a3; have a9 := L.a9; have a31 := L.a31
  have z3 := L.z3; have v3 := L.v3; have z9 := L.z9; have v9 := L.v9; have z31 := L.z31; have v31 := L.v31
  have e221 : ∀ args w, (callFunc (ρ.f 221) args).run P w = .ok (.enter (ρ.f 221) args) w := enters_of L.f221 (by kernel_rfl) rfl
  go_enter L.f146, Body.n146_ntmps ρ
  go_wp2_with (go_at_fn (ρ.f 221); refine q.mono ?_; rintro e w' ⟨rfl, hw⟩; rw [hw])
  go_ret
  rw [hlen]
  exact ⟨rfl, rfl⟩
def cutL (c : UInt8) : List UInt8 → List (List UInt8)
  | [] => [[]]
  | b :: r => if b = c then [] :: cutL c r else match cutL c r with
    | h :: t => (b :: h) :: t
    | [] => [[b]]
theorem cutL_ne (c : UInt8) : ∀ l, cutL c l ≠ []
  | [] => by simp [cutL]
  | b :: r => by
    unfold cutL
    split
    · simp
    · split <;> simp
theorem cutL_none {c : UInt8} : ∀ {l : List UInt8}, c ∉ l → cutL c l = [l]
  | [], _ => rfl
  | b :: r, h => by
    rw [List.mem_cons, not_or] at h
    rw [cutL, if_neg (Ne.symm h.1), cutL_none h.2]
theorem cutL_at {c : UInt8} : ∀ {a : List UInt8} {b : List UInt8}, c ∉ a → cutL c (a ++ c :: b) = a :: cutL c b
  | [], b, _ => by rw [List.nil_append, cutL, if_pos rfl]
  | x :: a, b, h => by
    rw [List.mem_cons, not_or] at h
    rw [List.cons_append, cutL, if_neg (Ne.symm h.1), cutL_at h.2]
theorem indexByte_cases (c : UInt8) : ∀ l : List UInt8, (c ∉ l ∧ Lib.indexByte l c = -1) ∨ ∃ a b, l = a ++ c :: b ∧ c ∉ a ∧ Lib.indexByte l c = a.length
  | [] => .inl ⟨by simp, rfl⟩
  | x :: l => by
    by_cases h : x = c
    · subst h
      exact .inr ⟨[], l, rfl, by simp, by simp [Lib.indexByte]⟩
    · have e : (x == c) = false := beq_eq_false_iff_ne.2 h
      rcases indexByte_cases c l with ⟨h1, h2⟩ | ⟨a, b, h0, h1, h2⟩
      · refine .inl ⟨fun hm => ?_, by simp [Lib.indexByte, e, h2]⟩
        rcases List.mem_cons.1 hm with q | q
        · exact h q.symm
        · exact h1 q
      · refine .inr ⟨x :: a, b, by rw [h0, List.cons_append], fun hm => ?_, ?_⟩
        · rcases List.mem_cons.1 hm with q | q
          · exact h q.symm
          · exact h1 q
        · have h3 : ((a.length : Int) == -1) = false := beq_eq_false_iff_ne.2 (by omega)
          simp [Lib.indexByte, e, h2, h3]
theorem splitK_cut (c : UInt8) : ∀ (k : Nat) (l : List UInt8), l.count c = k → Lib.splitK [c] 0 k l = cutL c l
  | 0, l, h => by
    rw [cutL_none (List.count_eq_zero.1 h)]
    rfl
  | k + 1, l, h => by
    rcases indexByte_cases c l with ⟨h1, h2⟩ | ⟨a, b, rfl, h1, h2⟩
    · rw [List.count_eq_zero.2 h1] at h; cases h
    · rw [Lib.splitK, Lib.index_one, h2]
      have e1 : ((a.length : Int) == -1) = false := beq_eq_false_iff_ne.2 (by omega)
      rw [if_neg (by rw [e1]; decide)]
      rw [List.count_append, List.count_eq_zero.2 h1, List.count_cons_self] at h
      rw [cutL_at h1, Int.toNat_natCast, Nat.add_zero, List.take_left' rfl, List.length_singleton, splitK_cut c k _ (by
        rw [← List.drop_drop, List.drop_left' rfl]
        simp
        omega), ← List.drop_drop, List.drop_left' rfl]
      rfl
theorem splitB_cut (s : ByteArray) (c : UInt8) : (Lib.splitB ⟨#[c]⟩ 0 (Lib.countB s ⟨#[c]⟩) s).map (·.data.toList) = cutL c s.data.toList := by
  rw [Lib.splitB_data]
  exact splitK_cut c _ _ (Lib.count_one c _).symm
theorem RI.s_ {sz : TypeId → Nat} {V : Vw} {v : Value} {l : List UInt8} (h : RI sz V v (.s l)) : v = .string (bstr l) := by cases h; rfl
theorem FSpec.of_texts {P : Program} {T : Tab} {f : FuncId} {ds : List D} {e : TypeId} {pieces : List ByteArray} (hcall : ∀ args w, (callFunc f args).run P w = .ok (.enter f args) w) (hsz : szOf T e = 1) (hm : pieces.length ≤ maxLen)
    (h : ∀ (V : Vw) (w : World) (args : Array Value), args.size = ds.length → (∀ (j : Nat) v d, args[j]? = some v → ds[j]? = some d → RI (szOf T) V v d) → Calls P f args w fun q w' =>
      q = .returned (.slice (some ⟨w.heap.size, 0, none⟩) pieces.length pieces.length) ∧ w' = w.alloc (.cells (pieces.map Value.string).toArray e)) :
    FSpec P T f ds fun d rows => d = .own 0 pieces.length ∧ rows = [some (e, pieces.map fun b => [.s b.data.toList])] := by
  refine ⟨hcall, fun V w args hV hl hR => (h V w args hl hR).mono ?_⟩
  rintro q w' ⟨rfl, rfl⟩
  refine ⟨V, [.slice (some ⟨w.heap.size, 0, none⟩) pieces.length pieces.length], _, _, _, rfl, ⟨rfl, rfl⟩, .own 0 _ _ _ _ rfl (Nat.le_refl _), (Below.refl _ _).alloc (Nat.le_refl _) _, fun _ _ h => h, hV.ext (Ext.alloc _ _), fun _ _ => rfl, rfl, ?_, ?_, ?_⟩
  · intro r v e' xs h1 h2
    cases r with
    | succ r => simp at h1
    | zero =>
      cases h1
      cases h2
      refine ⟨pieces.map Value.string, .of ⟨by rw [hsz, List.length_map, List.length_map, Nat.mul_one], .inr ⟨w.heap.size, pieces.length, _, ?_, Nat.le_refl _, heap_alloc_new w _, by rw [List.length_map]; exact Nat.le_refl _, hm, by rw [hsz]; simp, ?_⟩⟩, ?_, ?_, ?_⟩
      · rw [List.length_map]
      · rw [hsz, List.length_map, Nat.mul_one]
        show List.take _ (pieces.map Value.string) = _
        rw [List.take_of_length_le (by rw [List.length_map]; exact Nat.le_refl _)]
      · intro u hu
        obtain ⟨b, _, rfl⟩ := List.mem_map.1 hu
        rfl
      · intro i rw_ hi
        rw [List.getElem?_map] at hi
        obtain ⟨b, _, rfl⟩ := Option.map_eq_some_iff.1 hi
        rw [hsz]; rfl
      · intro i rw_ j d hi hj
        rw [List.getElem?_map] at hi
        obtain ⟨b, hb, rfl⟩ := Option.map_eq_some_iff.1 hi
        cases j with
        | succ j => simp at hj
        | zero =>
          cases hj
          refine ⟨.string b, by rw [hsz, Nat.mul_one, Nat.add_zero, List.getElem?_map, hb]; rfl, ?_⟩
          have : b = bstr b.data.toList := by simp [bstr]
          conv => lhs; rw [this]
          exact .s _
  · intro r r' v v' x x' g h1 _ h2 _ _ _
    cases r with
    | succ r => simp at h1
    | zero => cases r' with
      | succ r => simp at h2
      | zero => rfl
  · intro p u r v x hp h1 _ hb
    cases r with
    | succ r => simp at h1
    | zero =>
      cases h1
      have h3 := World.block_lt_of_cell? _ _ (hV.2 p u hp)
      simp only [Value.ownBlock, Option.some.injEq] at hb
      omega
theorem split_at {P : Program} {T : Tab} {ρ : Ren} (L : Lays.n146 P ρ) (hi9 : (P.info? (ρ.t 9)).map (fun i => (i.zero, i.size, i.bytes)) = some (some (.string ByteArray.empty), 1, 16))
    (hc : ∀ args w, (callFunc (ρ.f 146) args).run P w = .ok (.enter (ρ.f 146) args) w) (hsz : szOf T (ρ.t 9) = 1) (s : List UInt8) (c : UInt8) (hs : s.length < 4294967281) :
    FSpec P T (ρ.f 146) [.s s, .s [c]] fun d rows => d = .own 0 (cutL c s).length ∧ rows = [some ((ρ.t 9), (cutL c s).map fun b => [.s b])] := by
  have e1 : (bstr s).data.toList = s := by simp [bstr]
  have hz : (bstr s).size = s.length := by rw [Lib.size_eq, e1]
  have e0 := splitB_cut (bstr s) c
  rw [e1] at e0
  have hlen : (Lib.splitB ⟨#[c]⟩ 0 (Lib.countB (bstr s) ⟨#[c]⟩) (bstr s)).length = (cutL c s).length := by rw [← e0, List.length_map]
  have h := FSpec.of_texts (P := P) (T := T) (ds := [.s s, .s [c]]) (e := (ρ.t 9)) (pieces := Lib.splitB ⟨#[c]⟩ 0 (Lib.countB (bstr s) ⟨#[c]⟩) (bstr s)) hc hsz (by
      have := Lib.splitB_length_le ⟨#[c]⟩ 0 (Lib.countB (bstr s) ⟨#[c]⟩) (bstr s)
      have := Lib.countB_le ⟨#[c]⟩ (Nat.le_refl 1) (bstr s).size (bstr s) (Nat.le_refl _)
      unfold maxLen; omega) fun V w args hl hR => by
    match args, hl with
    | ⟨[a, b]⟩, _ =>
      have ha := (hR 0 a _ rfl rfl).s_
      have hb := (hR 1 b _ rfl rfl).s_
      subst ha hb
      exact split_one L hi9 (bstr s) c w (by rw [hz]; exact hs)
  have e3 : ((Lib.splitB ⟨#[c]⟩ 0 (Lib.countB (bstr s) ⟨#[c]⟩) (bstr s)).map fun b => [D.s b.data.toList]) = (cutL c s).map fun b => [.s b] := by rw [← e0, List.map_map]; rfl
  rw [hlen, e3] at h
  exact h
end Go.Vx
namespace Go.Vx
open Go.RowKit
section
variable {P : Program} {T : Tab}
theorem FSpec.of_deferK (k : Nat) (hT : TOk P T) {f : FuncId} {fn : Func} {c : Code} (hf : P.funcs[f]? = some fn) (hb : fn.body = some c) (hcall : ∀ args w, (callFunc f args).run P w = .ok (.enter f args) w) {ds : List D} {R : D → Rows → Prop} (hn : ds.length ≤ fn.ntmps)
    {g : FuncId} {pv : Value} {z1 z2 : List Value} (hD : DefSpec P g pv z1 z2) {zd1 zd2 : List D} (hz1 : z1.map ofVal = zd1) (hz2 : z2.map ofVal = zd2) (ho1 : ∀ v ∈ z1, v.oneCell' = true) (ho2 : ∀ v ∈ z2, v.oneCell' = true) {id t p q : Nat} {ty1 ty2 : TypeId} {p1 p2 : String} {e1 e2 : Array Edge} {Bs : List Code}
    (hflat : (flatC c).drop k = .region id #[⟨some t, .makeFunc (.func g) #[] #[.tmp p, .tmp q], ty1, p1, e1, none⟩, ⟨none, .defer ⟨.value (.tmp t), #[], #[]⟩, ty2, p2, e2, none⟩] false :: Bs)
    (h : OkL P T ((flatC c).take k) (defA P T fn R pv zd1 zd2 t p q Bs) ⟨envOf 0 ds, [], [], fn.ntmps⟩) : FSpec P T f ds R :=
  FSpec.of_defer hT hf hb hcall hn hz1 hz2 ho1 ho2 hD (by rw [← hflat, List.take_append_drop]) h
end
end Go.Vx
namespace Go.Vx
open Go.RowKit
variable {P : Program} {T : Tab} {s : St}
theorem FSpec.mono {f : FuncId} {ds : List D} {R R' : D → Rows → Prop} (h : FSpec P T f ds R) (hR : ∀ d rows, R d rows → R' d rows) : FSpec P T f ds R' :=
  ⟨h.1, fun V w args a b c => (h.2 V w args a b c).mono fun e w' ⟨V', ω, row, v, d, h1, h2, h3⟩ => ⟨V', ω, row, v, d, h1, hR _ _ h2, h3⟩⟩
end Go.Vx
namespace Go.Vx
open Go.RowKit
variable {P : Program} {T : Tab}
inductive Pk (box : List (List D)) : D → D → Prop
  | i (k n) : Pk box (.i k n) (.i k n)
  | s (l) : Pk box (.s l) (.s l)
  | bp (i off cs) (h : box[i]? = some cs) (hg : ∀ d ∈ cs.drop off, ∃ k n, d = .i k n) : Pk box (.bp i off) (.ep (cs.drop off))
theorem RS.i_ri {sz : TypeId → Nat} {V V' : Vw} {μ : List Nat} {ω : List Value} {v : Value} {k : IntKind} {n : Int} (h : RS sz V μ ω v (.i k n)) : RI sz V' v (.i k n) ∧ v.oneCell' = true := by
  cases h with
  | imm _ _ h => cases h; exact ⟨.i _ _, rfl⟩
theorem effK.peek {s : St} {f : FuncId} {ds es : List D} {K : D → St → Prop} {R : D → Rows → Prop} (hl : es.length = ds.length) (hp : ∀ (j : Nat) d e, ds[j]? = some d → es[j]? = some e → Pk s.box d e) (hf : FSpec P T f es R)
    (h : ∀ d rows, R d rows → gRowsP rows ∧ boolP d.ownOrG2 (match s with
      | ⟨env, box, row, n⟩ => shiftD row.length d fun d => catK row rows fun row => K d ⟨env, box, row, n⟩)) : effK P T s f ds K := by
  refine ⟨hf.call, fun w0 V0 V μ ω a w vs hS hvl hvR => ?_⟩
  have hri : ∀ (j : Nat) v e, vs[j]? = some v → es[j]? = some e → RI (szOf T) (heapV w) v e := by
    intro j v e h1 h2
    have hj : j < ds.length := by rw [← hl]; exact (List.getElem?_eq_some_iff.1 h2).1
    have h3 := List.getElem?_eq_getElem hj
    have hr := hvR j v _ h1 h3
    generalize ds[j] = d0 at h3 hr
    cases hp j _ e h3 h2 with
    | i k n => exact hr.i_ri.1
    | s l => cases hr with
      | imm _ _ hr => cases hr; exact .s _
    | bp i off cs hb hg =>
      obtain ⟨g, rfl, hμ⟩ : ∃ g, v = .pointer (some ⟨g, off, none⟩) ∧ μ[i]? = some g := by
        cases hr with
        | imm _ _ hr => cases hr
        | bp _ _ g h => exact ⟨g, rfl, h⟩
      obtain ⟨us, t, hu, hs, ho, hR', _⟩ := hS.mem.hbox i g cs hμ hb
      have key : ∀ (j : Nat) d, (cs.drop off)[j]? = some d → ∃ hj : off + j < us.size, RI (szOf T) (heapV w) us[off + j] d ∧ us[off + j].oneCell' = true := by
        intro j d hj
        have hj2 : cs[off + j]? = some d := by rw [List.getElem?_drop] at hj; exact hj
        have hlt : off + j < us.size := by rw [hs]; exact (List.getElem?_eq_some_iff.1 hj2).1
        obtain ⟨k, n, rfl⟩ := hg d (List.mem_of_getElem? hj)
        exact ⟨hlt, (hR' (off + j) us[off + j] _ (by simp [hlt]) hj2).i_ri⟩
      refine .ep _ ⟨g, off, none⟩ (fun j => us.getD (off + j) undef) (fun j d hj => ?_) (fun j d hj => ?_)
      · obtain ⟨hlt, h1, h2⟩ := key j d hj
        have hgd : us.getD (off + j) undef = us[off + j] := by simp [Array.getD, hlt]
        rw [hgd]
        refine ⟨?_, h2⟩
        have ha : (⟨g, off, none⟩ : Addr).add j = ⟨g, off + j, none⟩ := by cases j <;> simp [Addr.add]
        show w.cell? _ = _
        rw [ha]
        simp [World.cell?, hu, hlt]
      · obtain ⟨hlt, h1, h2⟩ := key j d hj
        have hgd : us.getD (off + j) undef = us[off + j] := by simp [Array.getD, hlt]
        rw [hgd]
        exact h1
  have hcalls := hf.run (heapV w) w vs.toArray (.heap hS.mem.vok.gl (Ext.refl w)) (by simp [hl, hvl]) (fun j v d h1 h2 => hri j v d (by simpa using h1) h2)
  refine hcalls.mono ?_
  rintro e w'' ⟨V', ω0, row0, v, d, rfl, hR, hrs, hres⟩
  obtain ⟨hg, hk⟩ := h d row0 hR
  obtain ⟨hd, hk⟩ := boolP_iff.1 hk
  have hres2 := hres.less hS.mem.vok hg
  have hrs2 := hrs.ownOrG2 (V' := fun p => if p.block < w.heap.size then V p else V' p) hd
  obtain ⟨env, box, row, n⟩ := s
  have hM := hS.mem.call hres2
  have hl : row.length = ω.length := hS.mem.rl.symm
  dsimp only at hk
  rw [hl] at hk
  obtain ⟨d', hk, hr⟩ := shiftD_sound (μ := μ) (ω' := ω ++ ω0) (VLe.refl _) (fun r u hu => by rw [List.getElem?_append_right (by omega), Nat.add_sub_cancel]; exact hu) hrs2 hk
  rw [catK_eq] at hk
  exact ⟨v, d', _, _, μ, ω ++ ω0, rfl, hk, hr, ⟨hS.tmps, hS.defers.ext hres2.below, fun t => (hS.env t).mono hres2.le (.refl μ) (.append _ _), hM⟩, hres2.le, .refl _, .append _ _, fun q v hq => by rw [hres2.below.cell (World.block_lt_of_cell? _ _ hq)]; exact hq⟩
end Go.Vx
namespace Go.Vx
open Go.RowKit
def fen (ρ : Option Nat) : Fence := { Fence.wide with round := ρ }
section
variable {P : Program} {T : Tab} {s : St} {Q : Exit → St → Prop} {w0 : World} {V0 : Fr}
theorem fen_room (ρ : Option Nat) (k : Nat) : (fen ρ).room k := fun _ h => by cases h
theorem opIn_of {ρ : Option Nat} {o : Oper} {a : Act} {w : World} {next : Act → World → Prop} {R : Exit → Act → World → Prop} (h : o.wp P a w next R) (hd : ∀ c, o.op ≠ .defer c) : o.wpIn (fen ρ) 0 P a w next R := by
  refine ⟨fun _ _ => trivial, ?_⟩
  show o.uponIn (fen ρ) 0 P a next R ((o.semAt ρ a.eval).run P w)
  rw [Oper.semAt_eq ρ _ _ hd]
  unfold Oper.wp at h
  generalize (execOp a.eval o).run P w = r at h
  unfold Oper.upon at h
  unfold Oper.uponIn
  split at h
  · exact h
  · exact h
  · exact h
  · refine ⟨(fun hh => by cases hh), ?_⟩
    exact (callsIn_wide (n := 0)).2 h
  · refine ⟨(fun hh => by cases hh), ?_⟩
    intro c cs _
    obtain ⟨v, w', hr, hs⟩ := h c cs
    exact ⟨v, w', hr, stepsIn_wide.2 hs⟩
  · exact h
  · exact h.elim
theorem vop_nodefer {o : Oper} {K : D → St → Prop} (h : vop P T s o K) : ∀ c, o.op ≠ .defer c := by
  intro c hc
  unfold vop at h
  rw [hc] at h
  dsimp only at h
  unfold qop at h
  rw [hc] at h
  exact h
theorem vopsIn_sound (hT : TOk P T) {ρ : Option Nat} {ops : List Oper} {R : Exit → Act → World → Prop} : ∀ (rest : List Oper) (s : St) (V : Vw) (μ : List Nat) (ω : List Value) (a : Act) (w : World) (K : St → Prop), Sim (szOf T) w0 V0 V μ ω s a w →
    vops P T ops rest s K → (∀ s V μ ω a w, K s → Sim (szOf T) w0 V0 V μ ω s a w → R .normal a w) → wpListIn (fen ρ) 0 P ops.toArray R rest a w
  | [], s, V, μ, ω, a, w, K, hS, h, hq => hq s V μ ω a w h hS
  | o :: rest, s, V, μ, ω, a, w, K, hS, h, hq => by
    simp only [vops] at h
    unfold wpListIn
    rcases wantK_sound hS h with ⟨hw, s1, h, hS⟩ | ⟨hw, s1, h, hS⟩
    · rw [if_pos hw]
      refine opIn_of (vop_sound hT hS h _ _ fun d v s2 V2 μ2 ω2 w2 hk hr hS2 _ => ?_) (vop_nodefer h)
      obtain ⟨s3, h, hS3⟩ := putK_sound hS2 hr hk
      exact vopsIn_sound hT rest s3 _ _ _ _ _ K hS3 h hq
    · rw [if_neg (by rw [hw]; simp)]
      obtain ⟨s3, h, hS3⟩ := putK_sound hS (v := undef) (d := .tup []) (RS.tup [] #[] rfl (fun j v d h => by simp at h)) h
      exact ⟨fun _ _ => trivial, vopsIn_sound hT rest s3 _ _ _ _ _ K hS3 h hq⟩
theorem vopsCutIn_sound (hT : TOk P T) {ρ : Option Nat} {ops : List Oper} {R : Exit → Act → World → Prop} : ∀ (n : Nat) (rest : List Oper) (s : St) (V : Vw) (μ : List Nat) (ω : List Value) (a : Act) (w : World) (K : Oper → St → Prop), Sim (szOf T) w0 V0 V μ ω s a w →
    vopsCut P T ops n rest s K → (∀ o r s V μ ω a w, rest.drop n = o :: r → K o s → Sim (szOf T) w0 V0 V μ ω s a w → wpListIn (fen ρ) 0 P ops.toArray R (o :: r) a w) → wpListIn (fen ρ) 0 P ops.toArray R rest a w
  | 0, [], _, _, _, _, _, _, _, _, h, _ => by simp [vopsCut] at h
  | _ + 1, [], _, _, _, _, _, _, _, _, h, _ => by simp [vopsCut] at h
  | 0, o :: rest, s, V, μ, ω, a, w, K, hS, h, hq => hq o rest s V μ ω a w rfl h hS
  | n + 1, o :: rest, s, V, μ, ω, a, w, K, hS, h, hq => by
    simp only [vopsCut] at h
    unfold wpListIn
    rcases wantK_sound hS h with ⟨hw, s1, h, hS⟩ | ⟨hw, s1, h, hS⟩
    · rw [if_pos hw]
      refine opIn_of (vop_sound hT hS h _ _ fun d v s2 V2 μ2 ω2 w2 hk hr hS2 _ => ?_) (vop_nodefer h)
      obtain ⟨s3, h, hS3⟩ := putK_sound hS2 hr hk
      exact vopsCutIn_sound hT n rest s3 _ _ _ _ _ K hS3 h hq
    · rw [if_neg (by rw [hw]; simp)]
      obtain ⟨s3, h, hS3⟩ := putK_sound hS (v := undef) (d := .tup []) (RS.tup [] #[] rfl (fun j v d h => by simp at h)) h
      exact ⟨fun _ _ => trivial, vopsCutIn_sound hT n rest s3 _ _ _ _ _ K hS3 h hq⟩
structure OkR (P : Program) (T : Tab) (c : Code) (Q : Exit → St → Prop) (s : St) : Prop where
  run : ∀ (l : Nat) (w0 : World) (V0 : Fr) (V : Vw) (μ : List Nat) (ω : List Value) (a : Act) (w : World), (∃ r0, (l, Obj.loop r0) ∈ V0.kp) → Sim (szOf T) w0 V0 V μ ω s a w →
    c.wpIn (fen (some l)) 0 P (fun e a' w' => ∃ s' V' μ' ω', Q e s' ∧ Sim (szOf T) w0 V0 V' μ' ω' s' a' w') a w
theorem OkR.mono {c : Code} {Q' : Exit → St → Prop} (h : OkR P T c Q s) (hq : ∀ e s, Q e s → Q' e s) : OkR P T c Q' s := by
  refine ⟨fun l w0 V0 V μ ω a w hl hS => wpIn_mono (h.run l w0 V0 V μ ω a w hl hS) ?_⟩
  rintro e a' w' ⟨s', V', μ', ω', hk, hS'⟩
  exact ⟨s', V', μ', ω', hq _ _ hk, hS'⟩
theorem OkR.region (hT : TOk P T) {id : Nat} {l : List Oper} (h : vops P T l l s (Q .normal)) : OkR P T (.region id l.toArray false) Q s :=
  ⟨fun _ w0 V0 V μ ω a w _ hS => wpIn_region_lit (vopsIn_sound hT l s V μ ω a w _ hS h fun s' V' μ' ω' a' w' hk hS' => ⟨s', V', μ', ω', hk, hS'⟩)⟩
theorem OkR.seq {x y : Code} (h : OkR P T x (thenQ (OkR P T y Q) Q) s) : OkR P T (.seq x y) Q s := by
  refine ⟨fun l w0 V0 V μ ω a w hl hS => wpIn_seq (wpIn_mono (h.run l w0 V0 V μ ω a w hl hS) ?_)⟩
  rintro e a' w' ⟨s', V', μ', ω', hk, hS'⟩
  cases e with
  | normal => exact OkR.run hk l w0 V0 V' μ' ω' a' w' hl hS'
  | _ => exact ⟨s', V', μ', ω', hk, hS'⟩
theorem OkR.skip (h : Q .normal s) : OkR P T .skip Q s := ⟨fun _ _ _ V μ ω _ _ _ hS => wpIn_skip ⟨s, V, μ, ω, h, hS⟩⟩
theorem OkR.ret (h : Q .ret s) : OkR P T .ret Q s := ⟨fun _ _ _ V μ ω _ _ _ hS => wpIn_ret ⟨s, V, μ, ω, h, hS⟩⟩
theorem OkR.exit {id : Nat} (h : Q (.exit id) s) : OkR P T (.exit id) Q s := ⟨fun _ _ _ V μ ω _ _ _ hS => wpIn_exit ⟨s, V, μ, ω, h, hS⟩⟩
theorem OkR.block {id : Nat} {c : Code} (h : OkR P T c (blockQ id Q) s) : OkR P T (.block id c) Q s := by
  refine ⟨fun l w0 V0 V μ ω a w hl hS => wpIn_block (wpIn_mono (h.run l w0 V0 V μ ω a w hl hS) ?_)⟩
  rintro e a' w' ⟨s', V', μ', ω', hk, hS'⟩
  cases e with
  | exit id' =>
    simp only [blockQ] at hk
    simp only [Exit.inBlock]
    split at hk
    · rename_i hb
      rw [if_pos (beq_nat_true hb)]
      exact ⟨s', V', μ', ω', hk, hS'⟩
    · rename_i hb
      rw [if_neg (by rintro rfl; rw [Nat.beq_refl] at hb; cases hb)]
      exact ⟨s', V', μ', ω', hk, hS'⟩
  | _ => exact ⟨s', V', μ', ω', hk, hS'⟩
theorem OkR.cond {c : Operand} {x y : Code} (h : condK s c (OkR P T x Q) (OkR P T y Q)) : OkR P T (.cond c x y) Q s := by
  refine ⟨fun l w0 V0 V μ ω a w hl hS => ?_⟩
  have hc := hS.get c
  unfold condK at h
  split at h
  · rename_i hd; rw [hd] at hc; exact wpIn_cond_true hc.tt_ (h.run l w0 V0 V μ ω a w hl hS)
  · rename_i hd; rw [hd] at hc; exact wpIn_cond_false hc.ff_ (h.run l w0 V0 V μ ω a w hl hS)
  · rename_i p hd
    rw [hd] at hc
    obtain ⟨b, hb, hbp⟩ := hc.bool
    cases b with
    | true => exact wpIn_cond_true hb ((h.1 (hbp.1 rfl)).run l w0 V0 V μ ω a w hl (hS.know c (by rw [hb]; exact .imm _ _ .tt)))
    | false => exact wpIn_cond_false hb ((h.2 (fun hp => by simpa using hbp.2 hp)).run l w0 V0 V μ ω a w hl (hS.know c (by rw [hb]; exact .imm _ _ .ff)))
  · exact h.elim
end
end Go.Vx
namespace Go.Vx
open Go.RowKit
section
variable {P : Program} {T : Tab}
def wpG (P : Program) (G : FuncId → Prop) (c : Code) (Q : Exit → Act → World → Prop) (a : Act) (w : World) : Prop :=
  ∀ (b : Frame) (k : List Item) (cs : List Frame), G b.fn → ∃ e a' w', Q e a' w' ∧ Arrives P (lone (b.at a (.code c :: k)) cs w) b k cs e a' w'
variable {G : FuncId → Prop} {Q : Exit → Act → World → Prop} {a : Act} {w : World}
theorem wpG_of {c : Code} (h : c.wp P Q a w) : wpG P G c Q a w := fun b k cs _ => h b k cs
theorem wp_of_G {c : Code} (h : wpG P (fun _ => True) c Q a w) : c.wp P Q a w := fun b k cs => h b k cs trivial
theorem wpG_mono {c : Code} {Q' : Exit → Act → World → Prop} (h : wpG P G c Q a w) (hq : ∀ e a w, Q e a w → Q' e a w) : wpG P G c Q' a w :=
  fun b k cs hG => let ⟨e, a', w', q, r⟩ := h b k cs hG; ⟨e, a', w', hq _ _ _ q, r⟩
theorem wpG_seq {x y : Code} (h : wpG P G x (Exit.then (wpG P G y Q) Q) a w) : wpG P G (Code.seq x y) Q a w := by
  intro b k cs hG
  obtain ⟨e, a₁, w₁, hq, harr⟩ := h b (.code y :: k) cs hG
  cases e with
  | normal =>
    obtain ⟨e₂, a₂, w₂, hq₂, harr₂⟩ := hq b k cs hG
    exact ⟨e₂, a₂, w₂, hq₂, .of_steps (.head step_seq harr) harr₂⟩
  | exit id => exact ⟨_, a₁, w₁, hq, .of_steps (.one step_seq) (.pass (x := .code y) rfl (fun _ _ => .inl (by simp)) harr)⟩
  | goto l => exact ⟨_, a₁, w₁, hq, .of_steps (.one step_seq) (.pass (x := .code y) rfl (fun _ _ => .inl (by simp)) harr)⟩
  | ret => exact ⟨_, a₁, w₁, hq, .of_steps (.one step_seq) (.pass (x := .code y) rfl (fun _ _ => .inl (by simp)) harr)⟩
  | panic ch => exact ⟨_, a₁, w₁, hq, .of_steps (.one step_seq) (.pass (x := .code y) rfl (fun _ _ => .inl (by simp)) harr)⟩
  | outgrown => exact ⟨_, a₁, w₁, hq, .of_steps (.one step_seq) (.pass (x := .code y) rfl (fun _ _ => .inl (by simp)) harr)⟩
theorem wpG_block {id : Nat} {c : Code} (h : wpG P G c (Exit.inBlock id Q) a w) : wpG P G (Code.block id c) Q a w := by
  intro b k cs hG
  obtain ⟨e, a₁, w₁, hq, harr⟩ := h b (.inBlock id :: k) cs hG
  cases e with
  | normal => exact ⟨.normal, a₁, w₁, hq, .head step_block (Steps.trans harr (.one step_inBlock))⟩
  | exit id' =>
    by_cases hid : id' = id
    · simp only [Exit.inBlock, hid, if_true] at hq
      exact ⟨.normal, a₁, w₁, hq, .head step_block (harr k (by simp [exitTo, hid]))⟩
    · simp only [Exit.inBlock, hid, if_false] at hq
      refine ⟨.exit id', a₁, w₁, hq, fun k' hk => .head step_block (harr k' ?_)⟩
      have : (id == id') = false := by simp; exact fun h => hid h.symm
      simp [exitTo, this, hk]
  | goto l => exact ⟨_, a₁, w₁, hq, fun k' hk => .head step_block (harr k' (by simp [gotoIn, hk]))⟩
  | ret => exact ⟨_, a₁, w₁, hq, .of_steps (.one step_block) harr⟩
  | panic ch => exact ⟨_, a₁, w₁, hq, .of_steps (.one step_block) harr⟩
  | outgrown => exact ⟨_, a₁, w₁, hq, .of_steps (b := b) (k := k) (cs := cs) (e := .outgrown) (.one step_block) harr⟩
def rangePostG (P : Program) (G : FuncId → Prop) (l : Nat) (Q : Exit → Act → World → Prop) (a' : Act) : Ending → World → Prop
  | .returned _, w₃ => ∃ jump w₄, (Instr.endLoop l).run P w₃ = .ok jump w₄ ∧
      (match jump with
       | none => Q .normal a' w₄
       | some c => wpG P G c Q a' w₄)
  | .panicked chain, w₃ => Q (.panic chain) a' w₃
  | .outgrown, _ => False
theorem wpG_rangeFunc {g : Operand} {ps : Array Tmp} {assign body : Code}
    (h : ∀ fn, G fn → ∃ (l : Nat) (mark : List Deferred) (w₁ : World) (d : Deferred) (w₁' : World) (f : FuncId) (args : Array Value) (w₂ : World),
      (Instr.enterLoop fn a.tmps ps assign body none).run P w = .ok (l, mark) w₁ ∧
      (resolve a.eval (rangeCall g l) 0).run P w₁ = .ok d w₁' ∧
      (invoke d.target d.args).run P w₁' = .ok (.enter f args) w₂ ∧
      Calls P f args w₂ (rangePostG P G l Q { a with defers := mark ++ a.defers })) :
    wpG P G (Code.rangeFunc g ps assign body) Q a w := by
  intro b k cs hG
  obtain ⟨l, mark, w₁, d, w₁', f, args, w₂, he, hres, hinv, hcall⟩ := h b.fn hG
  obtain ⟨b0, hb0⟩ : ∃ b0 : Frame, b0 = { b with roundOf := none } := ⟨_, rfl⟩
  have hr0 : b0.roundOf = none := by rw [hb0]
  have hat : ∀ a k, b0.atR a k = b.at a k := fun a k => by rw [Frame.atR_of_none hr0, hb0]; rfl
  have henter := stepR_rangeFunc (P := P) (b := b0) (a := a) (k := k) (cs := cs) (w := w) (by rw [hr0, hb0]; exact he) hres hinv
  obtain ⟨e, w₃, fr, hR, hsteps, hfn, hleave⟩ := hcall (b0.atR { a with defers := mark ++ a.defers } (.inRangeFunc l :: k) :: cs)
  rw [hat] at henter
  cases e with
  | outgrown => exact hR.elim
  | returned v =>
    obtain ⟨jump, w₄, hend, hj⟩ := hR
    have sback : Steps P (lone (b.at a (.code (.rangeFunc g ps assign body) :: k)) cs w) (lone (b.at { a with defers := mark ++ a.defers } ((jump.map Item.code).toList ++ k)) cs w₄) := by
      have s2 : step P (lone fr (b0.atR { a with defers := mark ++ a.defers } (.inRangeFunc l :: k) :: cs) w₃) = .next (lone (b0.atR { a with defers := mark ++ a.defers } (.endRangeFunc l :: k)) cs w₃) := by
        rw [← finish_atR_inRangeFunc l v]; exact step_leave_returned hleave
      have s3 := stepR_endRangeFunc (P := P) (b := b0) (a := { a with defers := mark ++ a.defers }) (k := k) (cs := cs) hend
      rw [hat _ ((jump.map Item.code).toList ++ k)] at s3
      exact .head henter (Steps.trans hsteps (.head s2 (.one s3)))
    cases jump with
    | none => exact ⟨.normal, _, w₄, hj, sback⟩
    | some c =>
      obtain ⟨e', a'', w₅, hq, harr⟩ := hj b k cs hG
      exact ⟨e', a'', w₅, hq, .of_steps sback harr⟩
  | panicked chain =>
    refine ⟨.panic chain, _, w₃, hR, .inRangeFunc l :: k, .head henter (Steps.trans hsteps (.one ?_))⟩
    have := step_leave_panicked (P := P) (c := b0.atR { a with defers := mark ++ a.defers } (.inRangeFunc l :: k)) (cs := cs) hleave
    rw [Frame.raise_atR, hat] at this
    rw [hat]
    exact this
def roundPostV (P : Program) (l : Nat) (f : FuncId) (R : Ending → World → Prop) : Exit → Act → World → Prop
  | .panic ch, a, w => ∃ fn, P.funcs[f]? = some fn ∧ LeavesX P fn a.tmps (fun e w' => e = .panicked ch ∧ R e w') a.defers (.panicking ch) w
  | .normal, _, w => ∃ v w', (Instr.endRound l none).run P w = .ok v w' ∧ R (.returned v) w'
  | .ret, _, w => ∃ v w', (Instr.endRound l (some .ret)).run P w = .ok v w' ∧ R (.returned v) w'
  | .exit id, _, w => ∃ v w', (Instr.endRound l (some (.exit id))).run P w = .ok v w' ∧ R (.returned v) w'
  | .goto _, _, _ => False
  | .outgrown, _, _ => False
theorem roundIn_of {l : Nat} {f : FuncId} {tmps : Array Value} {assign body : Code} {w : World} {R : Ending → World → Prop}
    (h : assign.wpIn (fen (some l)) 0 P (Exit.then (fun a₁ w₁ => ∃ w₂, (Instr.beginRound l).run P w₁ = .ok () w₂ ∧ body.wpIn (fen (some l)) 0 P (roundPostV P l f R) a₁ w₂) (fun _ _ _ => False))
      { tmps := tmps, defers := [] } w) :
    RoundIn Fence.wide 0 P l f tmps assign body w R := by
  refine ⟨trivial, fun c cs hr => ?_⟩
  let b : Frame := { (default : Frame) with fn := f, kind := .normal, roundOf := some l }
  have hb0 : Frame.round l f tmps assign body .normal = b.atR { tmps := tmps, defers := [] } [.code assign, .beginRound, .code body] := by
    simp [Frame.round, Frame.atR, b]
  obtain ⟨e, a₁, w₁, hq, harr⟩ := h b [.beginRound, .code body] (c :: cs) rfl trivial (fen_room _ _)
  rw [← hb0] at harr
  have w_ : ∀ {m m'}, StepsIn (Machine.fenced P (fen (some l))) P m m' → Steps P m m' := fun h => h.steps
  cases e with
  | normal =>
    obtain ⟨w₂, hbr, hbody⟩ := hq
    have s1 : Steps P (lone (b.atR a₁ [.beginRound, .code body]) (c :: cs) w₁) (lone (b.atR a₁ [.code body]) (c :: cs) w₂) := .one (stepR_beginRound rfl hbr)
    obtain ⟨e₂, a₂, w₃, hq₂, harr₂⟩ := hbody b [] (c :: cs) rfl trivial (fen_room _ _)
    cases e₂ with
    | normal =>
      obtain ⟨v, w₄, hend, hR⟩ := hq₂
      exact ⟨.returned v, w₄, hR, comesIn_wide.2 (((w_ harr).trans s1).trans ((w_ harr₂).trans (.one (stepR_round_end rfl rfl hend))))⟩
    | ret =>
      obtain ⟨v, w₄, hend, hR⟩ := hq₂
      obtain ⟨k₁, hs⟩ := harr₂.2 rfl
      exact ⟨.returned v, w₄, hR, comesIn_wide.2 (((w_ harr).trans s1).trans ((w_ hs).trans (.one (stepR_round_ret rfl rfl hend))))⟩
    | exit id =>
      obtain ⟨v, w₄, hend, hR⟩ := hq₂
      obtain ⟨k₁, hk, hs⟩ := harr₂.2 rfl rfl
      exact ⟨.returned v, w₄, hR, comesIn_wide.2 (((w_ harr).trans s1).trans ((w_ hs).trans (.one (stepR_round_exit rfl rfl hk hend))))⟩
    | goto t => exact hq₂.elim
    | panic chain =>
      obtain ⟨fn, hfn, hl⟩ := hq₂
      obtain ⟨todo, hs⟩ := harr₂
      obtain ⟨e', w'', fr', ⟨he', hR'⟩, hs', hfn', hl'⟩ := leaves_stepsX a₂.defers (.panicking chain) w₃ { b.atR a₂ todo with mode := .panicking chain } (c :: cs) rfl rfl rfl hfn rfl hl
      subst he'
      exact ⟨.panicked chain, w'', hR', comesIn_wide.2 (((w_ harr).trans s1).trans ((w_ hs).trans (Steps.trans hs' (.one (step_leave_panicked hl')))))⟩
    | outgrown => exact hq₂.elim
  | exit id => exact hq.elim
  | goto l => exact hq.elim
  | ret => exact hq.elim
  | panic chain => exact hq.elim
  | outgrown => exact hq.elim
end
end Go.Vx
namespace Go.Vx
open Go.RowKit
section
variable {P : Program} {T : Tab}
structure Yields (P : Program) (T : Tab) (l B : Nat) (xs : List (List D)) (J : Option Nat → Vw → World → Prop) (Jp : List PanicEntry → World → Prop) : Prop where
  vok : ∀ k V W, J k V W → VOk V W
  size : ∀ k V W, J k V W → B ≤ W.heap.size
  grow : ∀ k V V' W W', J k V W → Ext W W' → VLe V V' → VOk V' W' → (∀ p v, V' p = some v → V p = some v ∨ W.heap.size ≤ p.block) → J k V' W'
  shut : ∀ k V W D, J k V W → B ≤ D → W.heap[D]? = some (.deferred (some [])) → J k V (W.putObj D (.deferred none))
  shutp : ∀ c W D, Jp c W → B ≤ D → W.heap[D]? = some (.deferred (some [])) → Jp c (W.putObj D (.deferred none))
  round : ∀ (k : Nat) x V W (vs : List Value), xs[k]? = some x → J (some k) V W → vs.length = x.length → (∀ (j : Nat) v d, vs[j]? = some v → x[j]? = some d → RI (szOf T) V v d) →
    ∀ E : List (Nat × Obj), (∀ x ∈ E, B ≤ x.1 ∧ W.heap[x.1]? = some x.2 ∧ noC x.2) →
    ∃ fn tmps assign body, (Instr.yield l vs.toArray).run P W = .ok (.round l fn tmps assign body) W ∧
      RoundIn Fence.wide 0 P l fn tmps assign body W fun e W' => (∀ x ∈ E, W'.heap[x.1]? = some x.2) ∧
        ((∃ V', VLe V V' ∧ ((e = .returned (.bool true) ∧ J (some (k + 1)) V' W') ∨ (e = .returned (.bool false) ∧ J none V' W'))) ∨ ∃ c, e = .panicked c ∧ Jp c W')
structure YSpec (P : Program) (T : Tab) (f : FuncId) (cap : List D) (xs : List (List D)) : Prop where
  call : ∀ args w, (callFunc f args).run P w = .ok (.enter f args) w
  run : ∀ (V : Vw) (w : World) (args : Array Value), args.size = cap.length → (∀ (j : Nat) v d, args[j]? = some v → cap[j]? = some d → RI (szOf T) V v d) →
    ∀ l J Jp, Yields P T l w.heap.size xs J Jp → J (some 0) V w →
    Calls P f (#[.func (.yield l) #[] #[]] ++ args) w fun e w' => ((∃ v, e = .returned v) ∧ ∃ V', J (some xs.length) V' w' ∨ J none V' w') ∨ ∃ c, e = .panicked c ∧ Jp c w'
structure YSpecI (P : Program) (T : Tab) (f : FuncId) (cap : List D) (xs : List (List D)) (I : Nat → Prop) : Prop where
  call : ∀ args w, (callFunc f args).run P w = .ok (.enter f args) w
  run : ∀ (V : Vw) (w : World) (args : Array Value), args.size = cap.length → (∀ (j : Nat) v d, args[j]? = some v → cap[j]? = some d → RI (szOf T) V v d) →
    ∀ l J Jp, Yields P T l w.heap.size xs J Jp → (∀ k V W, J (some k) V W → I k) → J (some 0) V w →
    Calls P f (#[.func (.yield l) #[] #[]] ++ args) w fun e w' => ((∃ v, e = .returned v) ∧ ∃ V', J (some xs.length) V' w' ∨ J none V' w') ∨ ∃ c, e = .panicked c ∧ Jp c w'
theorem YSpec.toI {f : FuncId} {cap : List D} {xs : List (List D)} (h : YSpec P T f cap xs) (I : Nat → Prop) : YSpecI P T f cap xs I := ⟨h.call, fun V w args a b l J Jp hY _ hJ => h.run V w args a b l J Jp hY hJ⟩
variable {w0 w w' : World} {V V' : Vw} {μ : List Nat} {ω : List Value} {box : List (List D)} {row : Rows} {s : St} {a : Act} {sz : TypeId → Nat}
theorem Mem.grow {F : Fr} (h : Mem sz w0 F V μ ω box row w) (he : Ext w w') (hV : VLe V V') (hok : VOk V' w') (hn : ∀ p v, V' p = some v → V p = some v ∨ w.heap.size ≤ p.block) : Mem sz w0 F V' μ ω box row w' := by
  have h1 := h.ext he
  refine ⟨h1.below, hok, fun p v hp => hV p v (h.vle p v hp), fun p hp => ?_, h1.bl, fun i g cs a b => ?_, h1.rl, fun r v e xs a b => ?_, h1.uniq, h1.new, fun p u l hp ho => ?_⟩
  · rw [← h.vold p hp]
    cases hv : V' p with
    | none =>
      cases hv2 : V p with
      | none => rfl
      | some u => rw [hV p u hv2] at hv; cases hv
    | some u =>
      rcases hn p u hv with hq | hq
      · exact hq.symm
      · have := h.below.size; omega
  · obtain ⟨vs, t, c1, c2, c3, c4, c5⟩ := h1.hbox i g cs a b
    exact ⟨vs, t, c1, c2, c3, fun j v d e1 e2 => (c4 j v d e1 e2).mono hV (.refl _) (.refl _), c5⟩
  · obtain ⟨vals, c1, c2, c3, c4⟩ := h1.hrow r v e xs a b
    exact ⟨vals, c1, c2, c3, fun i rw j d e1 e2 => let ⟨u, x1, x2⟩ := c4 i rw j d e1 e2; ⟨u, x1, x2.mono hV⟩⟩
  · have hg := (h.new l p.block ho).2
    rcases hn p u hp with hq | hq
    · exact h.vmut p u l hq ho
    · omega
theorem Sim.grow {F : Fr} (h : Sim sz w0 F V μ ω s a w) (he : Ext w w') (hV : VLe V V') (hok : VOk V' w') (hn : ∀ p v, V' p = some v → V p = some v ∨ w.heap.size ≤ p.block) : Sim sz w0 F V' μ ω s a w' :=
  ⟨h.tmps, h.defers.ext he, fun t => (h.env t).mono hV (.refl _) (.refl _), h.mem.grow he hV hok hn⟩
theorem Sim.turn {V0 : Vw} {gv : Nat → Value} {df : List Deferred} {l : Nat} {o : Obj} {R : List (Nat × Obj)} (h : Sim sz w0 ⟨V0, gv, df, (l, o) :: R⟩ V μ ω s a w) (o' : Obj) (hR : ∀ x ∈ R, x.1 ≠ l) (ho' : noC o') :
    Sim sz w0 ⟨V0, gv, df, (l, o') :: R⟩ V μ ω s a (w.putObj l o') := by
  obtain ⟨h1, h2, h3⟩ := h.defers.kept (l, o) (by simp)
  have hlt : l < w.heap.size := (Array.getElem?_eq_some_iff.1 h1).1
  refine ⟨h.tmps, ⟨?_, fun x hx => ?_⟩, h.env, (h.mem.putOther o' h1 h2 h3).fr rfl⟩
  · obtain ⟨ms, e1, e2, e3⟩ := h.defers.marks
    refine ⟨ms, e1, e2, fun D hD => ?_⟩
    obtain ⟨k1, k2, k3⟩ := e3 D hD
    have hne : l ≠ D := k3 (l, o) (by simp)
    refine ⟨(World.putObj_heap_other (Ne.symm hne)).trans k1, k2, fun x hx => ?_⟩
    rcases List.mem_cons.1 hx with rfl | hx
    · exact hne
    · exact k3 x (List.mem_cons_of_mem _ hx)
  · rcases List.mem_cons.1 hx with rfl | hx
    · exact ⟨World.putObj_heap_same hlt, ho', h3⟩
    · obtain ⟨k1, k2⟩ := h.defers.kept x (List.mem_cons_of_mem _ hx)
      exact ⟨(World.putObj_heap_other (hR x hx)).trans k1, k2⟩
theorem Sim.unkeep {V0 : Vw} {gv : Nat → Value} {df : List Deferred} {x : Nat × Obj} {R : List (Nat × Obj)} (h : Sim sz w0 ⟨V0, gv, df, x :: R⟩ V μ ω s a w) : Sim sz w0 ⟨V0, gv, df, R⟩ V μ ω s a w := by
  refine ⟨h.tmps, ⟨?_, fun y hy => h.defers.kept y (List.mem_cons_of_mem _ hy)⟩, h.env, h.mem.fr rfl⟩
  obtain ⟨ms, e1, e2, e3⟩ := h.defers.marks
  exact ⟨ms, e1, e2, fun D hD => ⟨(e3 D hD).1, (e3 D hD).2.1, fun y hy => (e3 D hD).2.2 y (List.mem_cons_of_mem _ hy)⟩⟩
theorem Sim.putOld {F : Fr} (h : Sim sz w0 F V μ ω s a w) {D : Nat} {o : Obj} (o' : Obj) (hD : w.heap[D]? = some o) (hn : noC o) (hb : w0.heap.size ≤ D) (hk : ∀ x ∈ F.kp, x.1 ≠ D) (hm : ∀ ms : List Nat, a.defers = ms.map mkD ++ F.df → D ∉ ms) :
    Sim sz w0 F V μ ω s a (w.putObj D o') := by
  refine ⟨h.tmps, ⟨?_, fun x hx => ⟨(World.putObj_heap_other (hk x hx)).trans (h.defers.kept x hx).1, (h.defers.kept x hx).2⟩⟩, h.env, h.mem.putOther o' hD hn hb⟩
  obtain ⟨ms, e1, e2, e3⟩ := h.defers.marks
  refine ⟨ms, e1, e2, fun E hE => ⟨(World.putObj_heap_other (k := E) (r := D) fun e => hm ms e1 (e ▸ hE)).trans (e3 E hE).1, (e3 E hE).2⟩⟩
theorem Mem.base {F F' : Fr} (h : Mem sz w0 F V μ ω box row w) (h1 : VLe F'.V F.V) (h2 : ∀ p, p.block < w0.heap.size → F.V p = F'.V p) : Mem sz w0 F' V μ ω box row w :=
  ⟨h.below, h.vok, fun p v hp => h.vle p v (h1 p v hp), fun p hp => (h.vold p hp).trans (h2 p hp), h.bl, h.hbox, h.rl, h.hrow, h.uniq, h.new, h.vmut⟩
theorem Mem.rebase {F F' : Fr} (h : Mem sz w0 F V μ ω box row w) (h1 : F'.V = V) : Mem sz w0 F' V μ ω box row w :=
  ⟨h.below, h.vok, by rw [h1]; exact fun _ _ h => h, fun p _ => by rw [h1], h.bl, h.hbox, h.rl, h.hrow, h.uniq, h.new, h.vmut⟩
def putPs : List Nat → List D → List (Nat × D) → (List (Nat × D) → Prop) → Prop
  | p :: ps, x :: xs, env, K => x.force fun x => putPs ps xs ((p, x) :: env) K
  | [], [], env, K => K env
  | _, _, _, _ => False
def cutE (n : Nat) : List (Nat × D) → (List (Nat × D) → Prop) → Prop
  | [], K => K []
  | (t, d) :: r, K => match Nat.blt t n with | true => cutE n r fun r => K ((t, d) :: r) | false => cutE n r K
def inRoundK (ps : List Nat) (x : List D) (s : St) (K : St → Prop) : Prop :=
  match s with
  | ⟨env, box, row, n⟩ => shE n env fun env2 => cutE n env fun env1 => catK env1 env2 fun env2 => putPs ps x env2 fun env2 => K ⟨env2, box, row, n⟩
def offRoundK (s : St) (K : St → Prop) : Prop := match s with | ⟨env, box, row, n⟩ => unE n env fun env => K ⟨env, box, row, n⟩
theorem cutE_eq (n : Nat) : ∀ (env : List (Nat × D)) (K : List (Nat × D) → Prop), cutE n env K → K (env.filter fun x => x.1 < n)
  | [], K, h => h
  | (t, d) :: r, K, h => by
    unfold cutE at h
    split at h
    · rename_i hb
      have := cutE_eq n r _ h
      rw [List.filter_cons_of_pos (by simpa using blt_true hb)]
      exact this
    · rename_i hb
      have := cutE_eq n r _ h
      rw [List.filter_cons_of_neg (by
        simp only [decide_eq_true_eq]
        intro hlt
        have : Nat.blt t n = true := by unfold Nat.blt; rw [Nat.ble_eq]; exact hlt
        rw [hb] at this
        cases this)]
      exact this
theorem look_filter (env : List (Nat × D)) (n t : Nat) : look (env.filter fun x => x.1 < n) t = if t < n then look env t else .u := by
  induction env with
  | nil => simp [look]
  | cons x r ih =>
    obtain ⟨k, d⟩ := x
    by_cases hk : k < n
    · rw [List.filter_cons_of_pos (by simpa using hk)]
      unfold look
      cases hb : Nat.beq k t with
      | true =>
        have := beq_nat_true hb
        subst this
        rw [if_pos hk]
      | false => exact ih
    · rw [List.filter_cons_of_neg (by simpa using hk), ih]
      split
      · rename_i ht
        show look r t = (match Nat.beq k t with | true => d | false => look r t)
        cases hb : Nat.beq k t with
        | true => have := beq_nat_true hb; omega
        | false => rfl
      · rfl
theorem putPs_sound {F : Fr} {n : Nat} : ∀ (ps : List Nat) (x : List D) (env : List (Nat × D)) (a : Act) (vs : List Value) (K : List (Nat × D) → Prop), (∀ p ∈ ps, p < n) → a.tmps.size = n → vs.length = x.length → (∀ (j : Nat) v d, vs[j]? = some v → x[j]? = some d → RS sz V μ ω v d) →
    (∀ t, RS sz V μ ω (slotV F n a t) (look env t)) → putPs ps x env K →
    ∃ env', K env' ∧ (List.foldl (fun tmps (x : Nat × Value) => tmps.setIfInBounds x.1 x.2) a.tmps (ps.zip vs)).size = n ∧ ∀ t, RS sz V μ ω (slotV F n { a with tmps := List.foldl (fun tmps (x : Nat × Value) => tmps.setIfInBounds x.1 x.2) a.tmps (ps.zip vs) } t) (look env' t)
  | [], [], env, a, vs, K, _, hn, hl, _, he, h => by
    obtain rfl : vs = [] := List.eq_nil_of_length_eq_zero hl
    exact ⟨env, h, by simpa using hn, by simpa using he⟩
  | [], _ :: _, _, _, _, _, _, _, _, _, _, h => h.elim
  | _ :: _, [], _, _, _, _, _, _, _, _, _, h => h.elim
  | p :: ps, d :: x, env, a, v :: vs, K, hp, hn, hl, hR, he, h => by
    simp only [putPs, D.force_eq] at h
    exact putPs_sound ps x ((p, d) :: env) (a.put (some p) v) vs K (fun q hq => hp q (by simp [hq])) (by simpa [Act.put] using hn) (by simpa using hl) (fun j u e h1 h2 => hR (j + 1) u e (by simpa using h1) (by simpa using h2))
      (fun t => look_put hn (hp p (by simp)) (hR 0 v d rfl rfl) he) h
  | _ :: _, _ :: _, _, _, [], _, _, _, hl, _, _, _ => by simp at hl
theorem zip_fold (ps : Array Tmp) (vs : List Value) (A : Array Value) : (ps.zip vs.toArray).foldl (fun tmps (t, a) => tmps.setIfInBounds t a) A = List.foldl (fun tmps (x : Nat × Value) => tmps.setIfInBounds x.1 x.2) A (ps.toList.zip vs) := by
  obtain ⟨ps⟩ := ps
  simp [List.zip_toArray]
theorem look_round {env : List (Nat × D)} {n : Nat} {F F' : Fr} {a : Act} (he : ∀ t, RS sz V μ ω (slotV F n a t) (look env t)) (hF : ∀ t, F'.gv t = slotV F n a (t - n)) (ds : List Deferred) :
    ∀ t, RS sz V μ ω (slotV F' n { tmps := a.tmps, defers := ds } t) (look (env.filter (fun x => x.1 < n) ++ env.map fun x => (x.1 + n, x.2)) t) := by
  intro t
  by_cases ht : t < n
  · have h1 := he t
    unfold slotV at h1 ⊢
    rw [if_pos ht] at h1 ⊢
    have h2 : look (env.filter (fun x => x.1 < n) ++ env.map fun x => (x.1 + n, x.2)) t = look env t := by
      by_cases hx : ∃ x ∈ env.filter (fun x => x.1 < n), x.1 = t
      · rw [look_append_in _ _ _ hx, look_filter, if_pos ht]
      · rw [look_append _ _ _ (fun x hm e => hx ⟨x, hm, e⟩), look_shift_lt _ _ _ ht]
        have h3 := look_filter env n t
        rw [if_pos ht] at h3
        rw [← h3]
        have : ∀ l : List (Nat × D), (¬ ∃ x ∈ l, x.1 = t) → look l t = .u := by
          intro l
          induction l with
          | nil => intro _; rfl
          | cons y r ih =>
            intro hno
            unfold look
            cases hb : Nat.beq y.1 t with
            | true => exact absurd ⟨y, by simp, beq_nat_true hb⟩ hno
            | false => exact ih fun ⟨x, hm, e⟩ => hno ⟨x, by simp [hm], e⟩
        rw [this _ hx]
    rw [h2]
    exact h1
  · unfold slotV
    rw [if_neg ht, hF]
    rw [look_append _ _ _ (fun x hm => by
      have := (List.mem_filter.1 hm).2
      simp only [decide_eq_true_eq] at this
      omega)]
    have e2 : t = (t - n) + n := by omega
    rw [e2, look_shift, ← e2]
    exact he (t - n)
end
end Go.Vx
namespace Go.Vx
open Go.RowKit
theorem mkD_inj {l m : List Nat} (h : l.map mkD = m.map mkD) : l = m := by
  induction l generalizing m with
  | nil => cases m with
    | nil => rfl
    | cons _ _ => simp at h
  | cons x l ih => cases m with
    | nil => simp at h
    | cons y m =>
      simp only [List.map_cons, List.cons.injEq] at h
      obtain ⟨h1, h2⟩ := h
      simp only [mkD, Deferred.mk.injEq, Target.collected.injEq, and_true] at h1
      rw [h1, ih h2]
section
variable {P : Program} {T : Tab} {G : FuncId → Prop} {Q : Exit → St → Prop}
def rndQ (P : Program) (G : FuncId → Prop) (Q : Exit → St → Prop) (L : List Nat) (nr nb : Nat) (s1 : St) (p : Prop) : Exit → St → Prop
  | .normal, s' => p ∧ offRoundK s' fun s' => keepK L nr nb s' (· = s1)
  | .ret, s' => offRoundK s' (Q .ret)
  | .exit id, s' => offRoundK s' (Q (.exit id))
  | .panic c, s' => (∀ fn, G fn → (P.funcs[fn]?).isSome = true) ∧ offRoundK s' (Q (.panic c))
  | _, _ => False
theorem RS.fn_ {sz : TypeId → Nat} {V : Vw} {μ : List Nat} {ω : List Value} {v : Value} {f : FuncId} {cap : List D} (h : RS sz V μ ω v (.fn f [] cap)) : ∃ us : Array Value, v = .func (.func f) #[] us ∧ us.size = cap.length ∧ ∀ (j : Nat) v d, us[j]? = some v → cap[j]? = some d → RI sz V v d := by
  cases h with
  | imm _ _ h =>
    cases h with
    | fn f first cap vs us h1 h2 hR1 hR2 =>
      obtain rfl : vs = #[] := Array.eq_empty_of_size_eq_zero h1
      exact ⟨us, rfl, h2, hR2⟩
theorem Sim.offRound {sz : TypeId → Nat} {w0 w : World} {V0 V V' : Vw} {gv : Nat → Value} {df : List Deferred} {kp : List (Nat × Obj)} {F : Fr} {μ : List Nat} {ω : List Value} {a a' : Act} {n : Nat} {x : Nat × Obj} {msA : List Nat} {s' : St} {K : St → Prop}
    (h : Sim sz w0 F V' μ ω s' a w) (hF : F.V = V) (hg : ∀ t, F.gv t = slotV ⟨V0, gv, df, kp⟩ n a' (t - n)) {E : List (Nat × Obj)} (hk : F.kp = x :: (kp ++ keptOf msA ++ E)) (hV : VLe V0 V) (hVo : ∀ p, p.block < w0.heap.size → V p = V0 p) (hn : a'.tmps.size = n)
    (hd : a'.defers = msA.map mkD ++ df) (hm1 : msA.Nodup) (hm2 : ∀ D ∈ msA, w0.heap.size ≤ D ∧ (∀ y ∈ kp, y.1 ≠ D) ∧ x.1 ≠ D) (hn2 : s'.n = n) (hK : offRoundK s' K) :
    ∃ s2, K s2 ∧ s2.n = n ∧ Sim sz w0 ⟨V0, gv, df, x :: kp⟩ V' μ ω s2 a' w := by
  obtain ⟨env, box, row, m⟩ := s'
  dsimp only at hn2
  subst hn2
  simp only [offRoundK, unE_eq] at hK
  refine ⟨_, hK, rfl, hn, ⟨⟨msA, hd, hm1, fun D hD => ⟨?_, (hm2 D hD).1, fun y hy => ?_⟩⟩, fun y hy => h.defers.kept y ?_⟩, fun t => ?_, h.mem.base (by rw [hF]; exact hV) (by rw [hF]; exact hVo)⟩
  · exact (h.defers.kept (D, .deferred (some [])) (by rw [hk]; exact List.mem_cons_of_mem _ (List.mem_append_left _ (List.mem_append_right _ (List.mem_map.2 ⟨D, hD, rfl⟩))))).1
  · rcases List.mem_cons.1 hy with rfl | hy
    · exact (hm2 D hD).2.2
    · exact (hm2 D hD).2.1 y hy
  · rw [hk]
    rcases List.mem_cons.1 hy with rfl | hy
    · simp
    · exact List.mem_cons_of_mem _ (List.mem_append_left _ (List.mem_append_left _ hy))
  · have := h.env (t + m)
    unfold slotV at this
    dsimp only at this
    rw [if_neg (by omega), hg] at this
    dsimp only
    rw [look_unEF]
    have e3 : t + m - m = t := by omega
    rw [e3] at this
    exact this
theorem range_sound {s : St} {g : Operand} {ps : Array Tmp} {assign body : Code} {f : FuncId} {cap : List D} {xs : List (List D)} {n : Nat} (L : List Nat) (nr nb : Nat) (mk : Nat → St) (I : Nat → Prop) (hI : I 0) (hs : keepK L nr nb s (· = mk 0)) (hg : (mk 0).get g = .fn f [] cap)
    (hY : YSpecI P T f cap xs I) (hmk : ∀ k, (mk k).n = n) (hps : ∀ p ∈ ps.toList, p < n)
    (round : ∀ (k : Nat) x, xs[k]? = some x → I k → x.length = ps.size ∧ inRoundK ps.toList x (mk k) fun s1 => OkR P T assign (thenQ (fun s2 => OkR P T body (fun e s3 => s3.n = n ∧ rndQ P G Q L nr nb (mk (k + 1)) (I (k + 1)) e s3) s2) (fun _ _ => False)) s1)
    (done : I xs.length → Q .normal (mk xs.length)) {w0 : World} {V0 : Fr} {V : Vw} {μ : List Nat} {ω : List Value} {a : Act} {w : World} (hS : Sim (szOf T) w0 V0 V μ ω s a w) :
    wpG P G (.rangeFunc g ps assign body) (fun e a' w' => ∃ s' V' μ' ω', Q e s' ∧ Sim (szOf T) w0 V0 V' μ' ω' s' a' w') a w := by
  obtain ⟨_, μ, ω, rfl, hS⟩ := keepK_sound hS hs
  clear hs
  obtain ⟨V00, gv, df, kp⟩ := V0
  refine wpG_rangeFunc ?_
  intro fn hfn
  obtain ⟨rec, hrec⟩ : ∃ rec : LoopState → Option Code → Loop, rec = fun st pe => { state := st, pending := pe, fn, tmps := a.tmps, params := ps, assign, body, defers := w.heap.size } := ⟨_, rfl⟩
  obtain ⟨W1, hW1⟩ : ∃ W1, (w.alloc (.deferred (some []))).alloc (.loop (rec .ready none)) = W1 := ⟨_, rfl⟩
  obtain ⟨a', ha'⟩ : ∃ a' : Act, a' = { a with defers := mkD w.heap.size :: a.defers } := ⟨_, rfl⟩
  obtain ⟨l, hl⟩ : ∃ l, l = w.heap.size + 1 := ⟨_, rfl⟩
  have hL1 : W1.heap[l]? = some (.loop (rec .ready none)) := by
    rw [← hW1, hl]; have := World.alloc_heap_new (w.alloc (.deferred (some []))) (.loop (rec .ready none)); rwa [World.size_alloc] at this
  have hK1 : W1.heap[w.heap.size]? = some (.deferred (some [])) := by
    rw [← hW1]; exact (Below.heap_alloc _ _ _ (by simp)).trans (World.alloc_heap_new w _)
  have hx1 : Ext w W1 := by
    rw [← hW1]; exact (Ext.alloc w _).trans (Ext.alloc _ _)
  obtain ⟨ms0, e1, e2, e3⟩ := hS.defers.marks
  have hsz0 := hS.mem.below.size
  have hkl : ∀ x ∈ kp, x.1 < w.heap.size := fun x hx => (Array.getElem?_eq_some_iff.1 (hS.defers.kept x hx).1).1
  have hml : ∀ D ∈ ms0, D < w.heap.size := fun D hD => (Array.getElem?_eq_some_iff.1 (e3 D hD).1).1
  obtain ⟨msA, hmsA⟩ : ∃ msA, msA = w.heap.size :: ms0 := ⟨_, rfl⟩
  have hda : a'.defers = msA.map mkD ++ df := by rw [ha', hmsA]; simp [e1]
  have hmn : msA.Nodup := by rw [hmsA]; exact List.nodup_cons.2 ⟨fun h => by have := hml _ h; omega, e2⟩
  have hm2 : ∀ D ∈ msA, w0.heap.size ≤ D ∧ (∀ y ∈ kp, y.1 ≠ D) ∧ l ≠ D := by
    intro D hD
    rw [hmsA] at hD
    rcases List.mem_cons.1 hD with rfl | hD
    · exact ⟨hsz0, fun y hy e => by have := hkl y hy; omega, by omega⟩
    · exact ⟨(e3 D hD).2.1, (e3 D hD).2.2, by have := hml D hD; omega⟩
  have hlk : ∀ x ∈ kp, x.1 ≠ l := fun x hx => by have := hkl x hx; omega
  have htm : a'.tmps = a.tmps := by rw [ha']
  have hns : a'.tmps.size = n := by rw [htm, hS.tmps, hmk]
  have noL : ∀ r, noC (.loop r) := fun r _ _ _ e => by cases e
  have hS1 : Sim (szOf T) w0 ⟨V00, gv, df, (l, .loop (rec .ready none)) :: kp⟩ V μ ω (mk 0) a' W1 := by
    have h := hS.ext hx1
    refine ⟨by rw [htm]; exact h.tmps, ⟨⟨msA, hda, hmn, fun D hD => ⟨?_, (hm2 D hD).1, fun x hx => ?_⟩⟩, fun x hx => ?_⟩, fun t => ?_, h.mem.fr rfl⟩
    · rw [hmsA] at hD
      rcases List.mem_cons.1 hD with rfl | hD
      · exact hK1
      · exact hx1.heap (e3 D hD).1
    · rcases List.mem_cons.1 hx with rfl | hx
      · exact (hm2 D hD).2.2
      · exact (hm2 D hD).2.1 x hx
    · rcases List.mem_cons.1 hx with rfl | hx
      · exact ⟨hL1, noL _, by show w0.heap.size ≤ l; omega⟩
      · exact h.defers.kept x hx
    · have := h.env t
      unfold slotV at this ⊢
      rw [htm]
      exact this
  obtain ⟨us, hev, hus, hri⟩ := (by have := hS1.get g; rw [hg] at this; exact this.fn_ : ∃ us : Array Value, a'.eval g = .func (.func f) #[] us ∧ us.size = cap.length ∧ ∀ (j : Nat) v d, us[j]? = some v → cap[j]? = some d → RI (szOf T) V v d)
  have hev : a.eval g = .func (.func f) #[] us := by rw [← hev]; cases g <;> simp [Act.eval, htm]
  obtain ⟨J, hJ⟩ : ∃ J : Option Nat → Vw → World → Prop, J = fun k V W => match k with
    | some k => I k ∧ ∃ μ ω, Sim (szOf T) w0 ⟨V00, gv, df, (l, .loop (rec .ready none)) :: kp⟩ V μ ω (mk k) a' W
    | none => ∃ c s' μ ω, ((c = Code.ret ∧ Q .ret s') ∨ ∃ id, c = Code.exit id ∧ Q (.exit id) s') ∧ Sim (szOf T) w0 ⟨V00, gv, df, (l, .loop (rec .done (some c))) :: kp⟩ V μ ω s' a' W := ⟨_, rfl⟩
  obtain ⟨Jp, hJp⟩ : ∃ Jp : List PanicEntry → World → Prop, Jp = fun c W => ∃ s' V' μ' ω', Q (.panic c) s' ∧ Sim (szOf T) w0 ⟨V00, gv, df, kp⟩ V' μ' ω' s' a' W := ⟨_, rfl⟩
  have hYl : Yields P T l W1.heap.size xs J Jp := by
    have hBl : l < W1.heap.size := (Array.getElem?_eq_some_iff.1 hL1).1
    have hBm : ∀ (D : Nat), W1.heap.size ≤ D → ∀ ms : List Nat, a'.defers = ms.map mkD ++ df → D ∉ ms := fun D hD ms hm hin => by
      rw [hda] at hm
      rw [← mkD_inj (List.append_cancel_right hm), hmsA] at hin
      have hws := hx1.size
      rcases List.mem_cons.1 hin with rfl | hin
      · omega
      · have := hml D hin; omega
    have hBk : ∀ (D : Nat), W1.heap.size ≤ D → ∀ (r : Loop), ∀ x ∈ ((l, Obj.loop r) :: kp), x.1 ≠ D := fun D hD r x hx e => by
      have hws := hx1.size
      rcases List.mem_cons.1 hx with rfl | hx
      · dsimp only at e; omega
      · have := hkl x hx; omega
    have hB0 : ∀ (D : Nat), W1.heap.size ≤ D → w0.heap.size ≤ D := fun D hD => by have := hx1.size; omega
    refine ⟨fun k V W h => ?_, fun k V W h => ?_, fun k V V' W W' h he hV hok hn => ?_, fun k V W D h hD hh => ?_, fun c W D h hD hh => ?_, fun k x V W vs hx h hvl hvr E hE => ?_⟩
    · subst hJ
      cases k with
      | some k => obtain ⟨_, μ, ω, h⟩ := h; exact h.mem.vok
      | none => obtain ⟨c, s', μ, ω, _, h⟩ := h; exact h.mem.vok
    · subst hJ
      have hBs : W1.heap.size = l + 1 := by rw [← hW1, hl]; simp
      have key : ∀ {r : Loop} {W : World}, W.heap[l]? = some (.loop r) → W1.heap.size ≤ W.heap.size := fun h => by have := (Array.getElem?_eq_some_iff.1 h).1; omega
      cases k with
      | some k => obtain ⟨_, μ, ω, h⟩ := h; exact key (h.defers.kept _ (List.mem_cons_self)).1
      | none => obtain ⟨c, s', μ, ω, _, h⟩ := h; exact key (h.defers.kept _ (List.mem_cons_self)).1
    · subst hJ
      cases k with
      | some k => obtain ⟨hik, μ, ω, h⟩ := h; exact ⟨hik, μ, ω, h.grow he hV hok hn⟩
      | none => obtain ⟨c, s', μ, ω, hc, h⟩ := h; exact ⟨c, s', μ, ω, hc, h.grow he hV hok hn⟩
    · subst hJ
      cases k with
      | some k => obtain ⟨hik, μ, ω, h⟩ := h; exact ⟨hik, μ, ω, h.putOld _ hh (fun _ _ _ e => by cases e) (hB0 D hD) (hBk D hD _) (hBm D hD)⟩
      | none => obtain ⟨c, s', μ, ω, hc, h⟩ := h; exact ⟨c, s', μ, ω, hc, h.putOld _ hh (fun _ _ _ e => by cases e) (hB0 D hD) (hBk D hD _) (hBm D hD)⟩
    · subst hJp
      obtain ⟨s', V', μ', ω', hq, h⟩ := h
      exact ⟨s', V', μ', ω', hq, h.putOld _ hh (fun _ _ _ e => by cases e) (hB0 D hD) (fun x hx => hBk D hD (rec .ready none) x (List.mem_cons_of_mem _ hx)) (hBm D hD)⟩
    · have h' : I k ∧ ∃ μ ω, Sim (szOf T) w0 ⟨V00, gv, df, (l, .loop (rec .ready none)) :: kp⟩ V μ ω (mk k) a' W := by rw [hJ] at h; exact h
      obtain ⟨hik, μ, ω, hS⟩ := h'
      obtain ⟨hxl, hround⟩ := round k x hx hik
      have hlW := (hS.defers.kept (l, .loop (rec .ready none)) (by simp)).1
      have hy := run_yield (P := P) (args := vs.toArray) hlW (by rw [hrec]; simp [hvl, hxl])
      rw [hrec] at hy
      rw [zip_fold] at hy
      refine ⟨fn, _, assign, body, hy, ?_⟩
      clear hy
      have hV0 : VLe V00 V := hS.mem.vle
      have hVo : ∀ p, p.block < w0.heap.size → V p = V00 p := hS.mem.vold
      obtain ⟨gv2, hgv2⟩ : ∃ gv2 : Nat → Value, gv2 = fun t => slotV ⟨V00, gv, df, kp⟩ n a' (t - n) := ⟨_, rfl⟩
      obtain ⟨R2, hR2⟩ : ∃ R2, R2 = kp ++ keptOf msA ++ E := ⟨_, rfl⟩
      have hRk : ∀ x ∈ R2, x.1 ≠ l := fun x hx => by
        rw [hR2] at hx
        rcases List.mem_append.1 hx with hx | hx
        · rcases List.mem_append.1 hx with hx | hx
          · exact hlk x hx
          · obtain ⟨D, hD, rfl⟩ := List.mem_map.1 hx; exact fun e => (hm2 D hD).2.2 e.symm
        · have := (hE x hx).1
          have := (Array.getElem?_eq_some_iff.1 hL1).1
          omega
      have hmk' := hmk k
      obtain ⟨env, box, row, n', hmkk⟩ : ∃ env box row n', mk k = ⟨env, box, row, n'⟩ := ⟨_, _, _, _, rfl⟩
      rw [hmkk] at hround hS hmk'
      dsimp only at hmk'
      subst hmk'
      simp only [inRoundK, shE_eq] at hround
      have hround := cutE_eq _ _ _ hround
      rw [catK_eq] at hround
      obtain ⟨env', hk, hsz', henv'⟩ := putPs_sound (F := ⟨V, gv2, [], (l, .loop (rec .ready none)) :: R2⟩) (μ := μ) (ω := ω) ps.toList x _ { tmps := a.tmps, defers := [] } vs _ hps (by rw [← htm]; exact hns) hvl (fun j v d h1 h2 => .imm _ _ (hvr j v d h1 h2))
        (by rw [← htm]; exact look_round hS.env (fun t => by rw [hgv2]; rfl) []) hround
      have hmarks : ∀ D ∈ msA, W.heap[D]? = some (.deferred (some [])) := by
        obtain ⟨ms', f1, f2, f3⟩ := hS.defers.marks
        have f1 : a'.defers = ms'.map mkD ++ df := f1
        rw [hda] at f1
        have := mkD_inj (List.append_cancel_right f1)
        rw [this]
        exact fun D hD => (f3 D hD).1
      have hSr : Sim (szOf T) w0 ⟨V, gv2, [], (l, .loop (rec .ready none)) :: R2⟩ V μ ω ⟨env', box, row, n'⟩ { tmps := List.foldl (fun tmps (x : Nat × Value) => tmps.setIfInBounds x.1 x.2) a.tmps (ps.toList.zip vs), defers := [] } W := by
        refine ⟨hsz', ⟨⟨[], rfl, List.nodup_nil, by simp⟩, fun x hx => ?_⟩, henv', hS.mem.rebase rfl⟩
        rcases List.mem_cons.1 hx with rfl | hx
        · exact hS.defers.kept _ (by simp)
        · rw [hR2] at hx
          rcases List.mem_append.1 hx with hx | hx
          · rcases List.mem_append.1 hx with hx | hx
            · exact hS.defers.kept _ (List.mem_cons_of_mem _ hx)
            · obtain ⟨D, hD, rfl⟩ := List.mem_map.1 hx
              exact ⟨hmarks D hD, (fun _ _ _ e => by cases e), (hm2 D hD).1⟩
          · have := hx1.size
            exact ⟨(hE x hx).2.1, (hE x hx).2.2, by have := (hE x hx).1; omega⟩
      have keepE : ∀ {r : Loop} {V' : Vw} {μ' : List Nat} {ω' : List Value} {s3 : St} {a3 : Act} {W3 : World}, Sim (szOf T) w0 ⟨V, gv2, [], (l, .loop r) :: R2⟩ V' μ' ω' s3 a3 W3 → ∀ x ∈ E, W3.heap[x.1]? = some x.2 := fun h x hx =>
        (h.defers.kept x (List.mem_cons_of_mem _ (by rw [hR2]; exact List.mem_append_right _ hx))).1
      have back : ∀ {r : Loop} {V' : Vw} {μ' : List Nat} {ω' : List Value} {s3 : St} {a3 : Act} {W3 : World} {K : St → Prop}, Sim (szOf T) w0 ⟨V, gv2, [], (l, .loop r) :: R2⟩ V' μ' ω' s3 a3 W3 → s3.n = n' → offRoundK s3 K →
          ∃ s2, K s2 ∧ s2.n = n' ∧ Sim (szOf T) w0 ⟨V00, gv, df, (l, .loop r) :: kp⟩ V' μ' ω' s2 a' W3 := fun h hn hK =>
        h.offRound rfl (fun t => by rw [hgv2]) (by rw [hR2]) hV0 hVo hns hda hmn (fun D hD => hm2 D hD) hn hK
      refine roundIn_of (wpIn_mono (hk.run l w0 _ V μ ω _ W ⟨_, List.mem_cons_self⟩ hSr) ?_)
      rintro e a1 W1' ⟨s2, V2, μ2, ω2, hq, hS2⟩
      cases e with
      | normal =>
        have hl2 := (hS2.defers.kept (l, .loop (rec .ready none)) (by simp)).1
        have hS3 := hS2.turn (.loop { rec .ready none with state := .busy }) hRk (noL _)
        refine ⟨_, run_beginRound hl2 (by rw [hrec]), wpIn_mono (OkR.run hq l w0 _ V2 μ2 ω2 a1 _ ⟨_, List.mem_cons_self⟩ hS3) ?_⟩
        rintro e a2 W2 ⟨s3, V3, μ3, ω3, ⟨hn3, hq3⟩, hS4⟩
        have hl4 := (hS4.defers.kept (l, .loop { rec .ready none with state := .busy }) (by simp)).1
        cases e with
        | normal =>
          obtain ⟨hik1, hq3⟩ := hq3
          have hq3 : offRoundK s3 (fun s' => keepK L nr nb s' (· = mk (k + 1))) := hq3
          have hS5 := hS4.turn (.loop (rec .ready none)) hRk (noL _)
          obtain ⟨s4, hk4, _, hS6⟩ := back hS5 hn3 hq3
          obtain ⟨_, μ5, ω5, rfl, hS7⟩ := keepK_sound hS6 hk4
          refine ⟨_, W2.putObj l (.loop (rec .ready none)), by have := run_endRound (P := P) none hl4; rw [hrec] at this ⊢; exact this, keepE hS5, .inl ⟨V3, hS4.mem.vle, .inl ⟨rfl, ?_⟩⟩⟩
          rw [hJ]
          exact ⟨hik1, μ5, ω5, hS7⟩
        | ret =>
          have hq3 : offRoundK s3 (Q .ret) := hq3
          have hS5 := hS4.turn (.loop (rec .done (some .ret))) hRk (noL _)
          obtain ⟨s4, hk4, _, hS6⟩ := back hS5 hn3 hq3
          refine ⟨_, W2.putObj l (.loop (rec .done (some .ret))), by have := run_endRound (P := P) (some .ret) hl4; rw [hrec] at this ⊢; exact this, keepE hS5, .inl ⟨V3, hS4.mem.vle, .inr ⟨rfl, ?_⟩⟩⟩
          rw [hJ]
          exact ⟨_, s4, μ3, ω3, .inl ⟨rfl, hk4⟩, hS6⟩
        | exit id =>
          have hq3 : offRoundK s3 (Q (.exit id)) := hq3
          have hS5 := hS4.turn (.loop (rec .done (some (.exit id)))) hRk (noL _)
          obtain ⟨s4, hk4, _, hS6⟩ := back hS5 hn3 hq3
          refine ⟨_, W2.putObj l (.loop (rec .done (some (.exit id)))), by have := run_endRound (P := P) (some (.exit id)) hl4; rw [hrec] at this ⊢; exact this, keepE hS5, .inl ⟨V3, hS4.mem.vle, .inr ⟨rfl, ?_⟩⟩⟩
          rw [hJ]
          exact ⟨_, s4, μ3, ω3, .inr ⟨id, rfl, hk4⟩, hS6⟩
        | panic c =>
          obtain ⟨hval, hq3⟩ := hq3
          obtain ⟨fn', hfn'⟩ := Option.isSome_iff_exists.1 (hval fn hfn)
          obtain ⟨ms2, f1, f2, f3, hS5⟩ := hS4.shut
          obtain ⟨s4, hk4, _, hS6⟩ := back hS5 hn3 hq3
          refine ⟨fn', hfn', ?_⟩
          rw [f1]
          refine leavesX_marks (by simp) ms2 W2 f2 f3 ⟨rfl, keepE hS5, .inr ⟨c, rfl, ?_⟩⟩
          rw [hJp]
          exact ⟨s4, V3, μ3, ω3, hk4, hS6.unkeep⟩
        | goto t => exact hq3.elim
        | outgrown => exact hq3.elim
      | _ => exact hq.elim
  refine ⟨l, [mkD w.heap.size], W1, { target := .fn (.func f) us, args := #[.func (.yield l) #[] #[]] }, W1, f, #[.func (.yield l) #[] #[]] ++ us, W1, ?_, ?_, ?_, ?_⟩
  · rw [← hW1, hrec, hl]; exact run_enterLoop_outer _ _ _ _ _
  · simp only [resolve, hev]
    simp [go_sem]
  · simp [invoke, go_sem, hY.call]
  · refine (hY.run V W1 us hus hri l J Jp hYl (fun k V W h => by rw [hJ] at h; exact h.1) (by rw [hJ]; exact ⟨hI, μ, ω, hS1⟩)).mono ?_
    have haa : ({ a with defers := [mkD w.heap.size] ++ a.defers } : Act) = a' := by rw [ha']; rfl
    rw [haa]
    rintro e w' (⟨⟨v, rfl⟩, V', h⟩ | ⟨c, rfl, h⟩)
    · rw [hJ] at h
      rcases h with ⟨hik, μ', ω', hS'⟩ | ⟨c, s', μ', ω', hc, hS'⟩
      · have hl' := (hS'.defers.kept (l, .loop (rec .ready none)) (by simp)).1
        refine ⟨none, _, by have := run_endLoop (P := P) hl' (by rw [hrec]; simp); rw [hrec] at this; exact this, ?_⟩
        exact ⟨_, V', μ', ω', done hik, (hS'.turn _ hlk (noL _)).unkeep⟩
      · have hl' := (hS'.defers.kept (l, .loop (rec .done (some c))) (by simp)).1
        refine ⟨some c, _, by have := run_endLoop (P := P) hl' (by rw [hrec]; simp); rw [hrec] at this; exact this, ?_⟩
        have hS2 := (hS'.turn (.loop { rec .done (some c) with state := .exhausted }) hlk (noL _)).unkeep
        rw [hrec] at hS2
        rcases hc with ⟨rfl, hq⟩ | ⟨id, rfl, hq⟩
        · exact wpG_of (wp_ret ⟨_, V', μ', ω', hq, hS2⟩)
        · exact wpG_of (wp_exit ⟨_, V', μ', ω', hq, hS2⟩)
    · rw [hJp] at h
      obtain ⟨s', V', μ', ω', hq, hS'⟩ := h
      exact ⟨s', V', μ', ω', hq, hS'⟩
end
end Go.Vx
namespace Go.Vx
open Go.RowKit
section
variable {P : Program} {T : Tab} {G : FuncId → Prop} {Q : Exit → St → Prop} {s : St}
theorem Ok.range {g : Operand} {ps : Array Tmp} {assign body : Code} {f : FuncId} {cap : List D} {xs : List (List D)} {n : Nat} (L : List Nat) (nr nb : Nat) (mk : Nat → St) (I : Nat → Prop) (hI : I 0) (hs : keepK L nr nb s (· = mk 0)) (hg : (mk 0).get g = .fn f [] cap)
    (hY : YSpec P T f cap xs) (hmk : ∀ k, (mk k).n = n) (hps : ∀ p ∈ ps.toList, p < n)
    (round : ∀ (k : Nat) x, xs[k]? = some x → I k → x.length = ps.size ∧ inRoundK ps.toList x (mk k) fun s1 => OkR P T assign (thenQ (fun s2 => OkR P T body (fun e s3 => s3.n = n ∧ rndQ P (fun _ => True) Q L nr nb (mk (k + 1)) (I (k + 1)) e s3) s2) (fun _ _ => False)) s1)
    (done : I xs.length → Q .normal (mk xs.length)) : Ok P T (.rangeFunc g ps assign body) Q s :=
  ⟨fun _ _ _ _ _ _ _ hS => wp_of_G (range_sound L nr nb mk I hI hs hg (hY.toI I) hmk hps round done hS)⟩
structure OkG (P : Program) (T : Tab) (G : FuncId → Prop) (c : Code) (Q : Exit → St → Prop) (s : St) : Prop where
  run : ∀ (w0 : World) (V0 : Fr) (V : Vw) (μ : List Nat) (ω : List Value) (a : Act) (w : World), Sim (szOf T) w0 V0 V μ ω s a w →
    wpG P G c (fun e a' w' => ∃ s' V' μ' ω', Q e s' ∧ Sim (szOf T) w0 V0 V' μ' ω' s' a' w') a w
theorem OkG.of {c : Code} (h : Ok P T c Q s) : OkG P T G c Q s := ⟨fun w0 V0 V μ ω a w hS => wpG_of (h.run w0 V0 V μ ω a w hS)⟩
theorem OkG.seq {x y : Code} (h : OkG P T G x (thenQ (OkG P T G y Q) Q) s) : OkG P T G (.seq x y) Q s := by
  refine ⟨fun w0 V0 V μ ω a w hS => wpG_seq (wpG_mono (h.run w0 V0 V μ ω a w hS) ?_)⟩
  rintro e a' w' ⟨s', V', μ', ω', hk, hS'⟩
  cases e with
  | normal => exact OkG.run hk w0 V0 V' μ' ω' a' w' hS'
  | _ => exact ⟨s', V', μ', ω', hk, hS'⟩
theorem OkG.block {id : Nat} {c : Code} (h : OkG P T G c (blockQ id Q) s) : OkG P T G (.block id c) Q s := by
  refine ⟨fun w0 V0 V μ ω a w hS => wpG_block (wpG_mono (h.run w0 V0 V μ ω a w hS) ?_)⟩
  rintro e a' w' ⟨s', V', μ', ω', hk, hS'⟩
  cases e with
  | exit id' =>
    simp only [blockQ] at hk
    simp only [Exit.inBlock]
    split at hk
    · rename_i hb
      rw [if_pos (beq_nat_true hb)]
      exact ⟨s', V', μ', ω', hk, hS'⟩
    · rename_i hb
      rw [if_neg (by rintro rfl; rw [Nat.beq_refl] at hb; cases hb)]
      exact ⟨s', V', μ', ω', hk, hS'⟩
  | _ => exact ⟨s', V', μ', ω', hk, hS'⟩
def pbD1 (box : List (List D)) (d : D) (K : D → Prop) : Prop :=
  match d with
  | .bp i off => match box[i]? with | some cs => forceL (cs.drop off) fun cs => K (.ep cs) | none => K .u
  | .own .. => K .u
  | .op .. => K .u
  | .agg cs => match immL cs with | true => K (.agg cs) | false => K .u
  | .tup _ => K .u
  | .fnh .. => K .u
  | d => d.force K
def pbL (box : List (List D)) : List D → (List D → Prop) → Prop
  | [], K => K []
  | d :: r, K => pbD1 box d fun d => pbL box r fun r => K (d :: r)
def pbD (box : List (List D)) (d : D) (K : D → Prop) : Prop :=
  match d with
  | .fnh f x y => pbL box x fun x => pbL box y fun y => K (.fn f x y)
  | d => pbD1 box d K
def pbE (box : List (List D)) : List (Nat × D) → (List (Nat × D) → Prop) → Prop
  | [], K => K []
  | (t, d) :: r, K => pbD box d fun d => pbE box r fun r => K ((t, d) :: r)
def immLL : List (List D) → Bool | [] => true | c :: r => immL c && immLL r
theorem immLL_at : ∀ {l : List (List D)}, immLL l = true → ∀ (i : Nat) c, l[i]? = some c → immL c = true
  | [], _, i, c, h => by simp at h
  | x :: l, hf, i, c, h => by
    simp only [immLL, Bool.and_eq_true] at hf
    cases i with
    | zero => simp at h; subst h; exact hf.1
    | succ i => exact immLL_at hf.2 i c (by simpa using h)
section
variable {sz : TypeId → Nat} {w0 w : World} {V0 : Fr} {V V' : Vw} {μ : List Nat} {ω : List Value} {box : List (List D)} {row : Rows} {a : Act}
theorem RS.fnh_ {v : Value} {f : FuncId} {x y : List D} (h : RS sz V μ ω v (.fnh f x y)) : ∃ vs us : Array Value, v = .func (.func f) vs us ∧ vs.size = x.length ∧ us.size = y.length ∧ (∀ (j : Nat) v d, vs[j]? = some v → x[j]? = some d → RS sz V μ ω v d) ∧
    ∀ (j : Nat) v d, us[j]? = some v → y[j]? = some d → RS sz V μ ω v d := by
  cases h with
  | imm _ _ h => cases h
  | fnh f x y vs us h1 h2 hR1 hR2 => exact ⟨vs, us, rfl, h1, h2, hR1, hR2⟩
theorem pbD1_sound (hM : Mem sz w0 V0 V μ ω box row w) (hi : immLL box = true) (hV : VLe V V') (hp : ∀ (i g : Nat) (off : Nat) v, μ[i]? = some g → w.cell? ⟨g, off, none⟩ = some v → V' ⟨g, off, none⟩ = some v) {d : D} {K : D → Prop} (h : pbD1 box d K) :
    ∃ d', K d' ∧ ∀ v, RS sz V μ ω v d → RI sz V' v d' := by
  unfold pbD1 at h
  split at h
  · rename_i i off
    split at h
    · rename_i cs hcs
      rw [forceL_eq] at h
      refine ⟨_, h, fun v hv => ?_⟩
      obtain ⟨g, hg, rfl⟩ := hv.bp_
      obtain ⟨vs, t, hh, hs, ho, hR, _⟩ := hM.hbox i g cs hg hcs
      refine .ep _ _ (fun j => vs.getD (off + j) undef) (fun j d hd => ?_) fun j d hd => ?_
      · rw [List.getElem?_drop] at hd
        have hlt : off + j < vs.size := by rw [hs]; exact (List.getElem?_eq_some_iff.1 hd).1
        have hvj : vs[off + j]? = some vs[off + j] := Array.getElem?_eq_getElem hlt
        have hadd : (⟨g, off, none⟩ : Addr).add j = ⟨g, off + j, none⟩ := by unfold Addr.add; split <;> simp_all
        rw [hadd]
        have hcell : w.cell? ⟨g, off + j, none⟩ = some vs[off + j] := by rw [cell_of_row w g (off + j) vs t (0, 0) hh, hvj]
        refine ⟨?_, ?_⟩
        · rw [hp i g _ _ hg hcell]
          simp [Array.getD, hlt]
        · rw [show vs.getD (off + j) undef = vs[off + j] by simp [Array.getD, hlt]]
          exact ho _ (by simp)
      · rw [List.getElem?_drop] at hd
        have hlt : off + j < vs.size := by rw [hs]; exact (List.getElem?_eq_some_iff.1 hd).1
        rw [show vs.getD (off + j) undef = vs[off + j] by simp [Array.getD, hlt]]
        exact (imm1_ri (hR _ _ d (Array.getElem?_eq_getElem hlt) hd) (immL_at (immLL_at hi i cs hcs) _ d hd)).mono hV
    · exact ⟨_, h, fun v _ => .u v⟩
  · exact ⟨_, h, fun v _ => .u v⟩
  · exact ⟨_, h, fun v _ => .u v⟩
  · split at h
    · rename_i cs hc
      exact ⟨_, h, fun v hv => (immD_ri hv hc).mono hV⟩
    · exact ⟨_, h, fun v _ => .u v⟩
  · exact ⟨_, h, fun v _ => .u v⟩
  · exact ⟨_, h, fun v _ => .u v⟩
  · rename_i h1 h2 h3 h4 h5 h6
    rw [D.force_eq] at h
    refine ⟨d, h, fun v hv => (imm1_ri hv ?_).mono hV⟩
    cases d <;> first | rfl | (exfalso; first | exact h1 _ _ rfl | exact h2 _ _ rfl | exact h3 _ _ _ _ rfl | exact h4 _ rfl | exact h5 _ rfl | exact h6 _ _ _ rfl)
theorem pbL_sound (hM : Mem sz w0 V0 V μ ω box row w) (hi : immLL box = true) (hV : VLe V V') (hp : ∀ (i g : Nat) (off : Nat) v, μ[i]? = some g → w.cell? ⟨g, off, none⟩ = some v → V' ⟨g, off, none⟩ = some v) : ∀ {l : List D} {K : List D → Prop}, pbL box l K →
    ∃ l', K l' ∧ l'.length = l.length ∧ ∀ (j : Nat) d d' v, l[j]? = some d → l'[j]? = some d' → RS sz V μ ω v d → RI sz V' v d'
  | [], K, h => ⟨[], h, rfl, fun j d d' v h1 => by simp at h1⟩
  | d :: l, K, h => by
    simp only [pbL] at h
    obtain ⟨d', h, hd⟩ := pbD1_sound hM hi hV hp h
    obtain ⟨l', h, hl, hr⟩ := pbL_sound hM hi hV hp h
    refine ⟨d' :: l', h, by simp [hl], fun j e e' v h1 h2 hv => ?_⟩
    cases j with
    | zero => simp at h1 h2; subst h1 h2; exact hd v hv
    | succ j => exact hr j e e' v (by simpa using h1) (by simpa using h2) hv
theorem pbD_sound (hM : Mem sz w0 V0 V μ ω box row w) (hi : immLL box = true) (hV : VLe V V') (hp : ∀ (i g : Nat) (off : Nat) v, μ[i]? = some g → w.cell? ⟨g, off, none⟩ = some v → V' ⟨g, off, none⟩ = some v) {d : D} {K : D → Prop} (h : pbD box d K) :
    ∃ d', K d' ∧ ∀ v, RS sz V μ ω v d → RI sz V' v d' := by
  unfold pbD at h
  split at h
  · obtain ⟨x', h, hx, hxr⟩ := pbL_sound hM hi hV hp h
    obtain ⟨y', h, hy, hyr⟩ := pbL_sound hM hi hV hp h
    refine ⟨_, h, fun v hv => ?_⟩
    obtain ⟨vs, us, rfl, h1, h2, hR1, hR2⟩ := hv.fnh_
    refine .fn _ _ _ vs us (by rw [h1, hx]) (by rw [h2, hy]) (fun j v d' a b => ?_) fun j v d' a b => ?_
    · obtain ⟨hlt, _⟩ := Array.getElem?_eq_some_iff.1 a
      have := List.getElem?_eq_getElem (show j < _ by rw [← h1]; exact hlt)
      exact hxr j _ d' v this b (hR1 j v _ a this)
    · obtain ⟨hlt, _⟩ := Array.getElem?_eq_some_iff.1 a
      have := List.getElem?_eq_getElem (show j < _ by rw [← h2]; exact hlt)
      exact hyr j _ d' v this b (hR2 j v _ a this)
  · exact pbD1_sound hM hi hV hp h
theorem pbE_sound {n : Nat} (hM : Mem sz w0 V0 V μ ω box row w) (hi : immLL box = true) (hV : VLe V V') (hp : ∀ (i g : Nat) (off : Nat) v, μ[i]? = some g → w.cell? ⟨g, off, none⟩ = some v → V' ⟨g, off, none⟩ = some v) : ∀ {env : List (Nat × D)} {K : List (Nat × D) → Prop}, pbE box env K →
    ∃ env', K env' ∧ ∀ t v, RS sz V μ ω v (look env t) → RI sz V' v (look env' t)
  | [], K, h => ⟨[], h, fun t v _ => .u v⟩
  | (k, d) :: env, K, h => by
    simp only [pbE] at h
    obtain ⟨d', h, hd⟩ := pbD_sound hM hi hV hp h
    obtain ⟨env', h, he⟩ := pbE_sound (n := n) hM hi hV hp h
    refine ⟨(k, d') :: env', h, fun t v hv => ?_⟩
    unfold look at hv ⊢
    cases hb : Nat.beq k t with
    | true => rw [hb] at hv; exact hd v hv
    | false => rw [hb] at hv; exact he t v hv
theorem Ok.pubB {c : Code} {env : List (Nat × D)} {box : List (List D)} {row : Rows} {n : Nat} (hi : immLL box = true) (h : pbE box env fun env' => Ok P T c Q ⟨env', [], [], n⟩) : Ok P T c Q ⟨env, box, row, n⟩ := by
  refine ⟨fun w0 V0 V μ ω a w hS => ?_⟩
  have hM := hS.mem
  dsimp only at hM
  classical
  obtain ⟨V', hV'⟩ : ∃ V' : Vw, V' = (fun p => if ∃ i : Nat, μ[i]? = some p.block then w.cell? p else V p : Vw) := ⟨(fun p => if ∃ i : Nat, μ[i]? = some p.block then w.cell? p else V p : Vw), rfl⟩
  have hle : VLe V V' := fun p v hp => by
    rw [hV']
    dsimp only
    split
    · exact hM.vok.2 p v hp
    · exact hp
  have hok : VOk V' w := ⟨fun p v hp => hle p v (hM.vok.1 p v hp), fun p v hp => by
    rw [hV'] at hp
    dsimp only at hp
    split at hp
    · exact hp
    · exact hM.vok.2 p v hp⟩
  obtain ⟨env', hk, he⟩ := pbE_sound (n := n) hM hi hle (fun i g off v h1 h2 => by rw [hV']; dsimp only; rw [if_pos ⟨i, h1⟩]; exact h2) h
  refine hk.run w0 V0 V' [] [] a w ⟨hS.tmps, hS.defers, fun t => .imm _ _ (he t _ (hS.env t)), ?_⟩
  refine ⟨hM.below, hok, fun p v hp => hle p v (hM.vle p v hp), fun p hp => ?_, rfl, by simp, rfl, by simp, fun l l' g h1 => ?_, fun l g h1 => ?_, fun p u l _ h1 => ?_⟩
  · rw [← hM.vold p hp, hV']
    dsimp only
    rw [if_neg]
    rintro ⟨i, hi⟩
    have := (hM.new (.inl i) p.block hi).1
    omega
  all_goals
    cases l with
    | inl i => simp [Own] at h1
    | inr r => obtain ⟨v, x, h1, _⟩ := h1; simp at h1
end
end
end Go.Vx
namespace Go.Vx
open Go.RowKit
section
variable {P : Program} {T : Tab}
structure PureS (sz : TypeId → Nat) (B : Nat) (V : Vw) (env : List (Nat × D)) (n : Nat) (a : Act) (w : World) : Prop where
  tmps : a.tmps.size = n
  marks : ∃ ms : List Nat, a.defers = ms.map mkD ∧ ms.Nodup ∧ ∀ D ∈ ms, B ≤ D ∧ w.heap[D]? = some (.deferred (some []))
  size : B ≤ w.heap.size
  vok : VOk V w
  env : ∀ t, RS sz V [] [] (slotV ⟨V, fun _ => undef, [], []⟩ n a t) (look env t)
theorem PureS.sim {B : Nat} {V : Vw} {env : List (Nat × D)} {n : Nat} {a : Act} {w : World} (h : PureS (szOf T) B V env n a w) : Sim (szOf T) w ⟨V, fun _ => undef, a.defers, []⟩ V [] [] ⟨env, [], [], n⟩ a w :=
  ⟨h.tmps, .start, h.env, (Mem.start h.vok).fr rfl⟩
def purE : List (Nat × D) → (List (Nat × D) → Prop) → Prop
  | [], K => K []
  | (t, d) :: r, K => match immD d with | true => d.force fun d => purE r fun r => K ((t, d) :: r) | false => purE r fun r => K ((t, .u) :: r)
def purK (n : Nat) (s : St) (K : List (Nat × D) → Prop) : Prop := match s with | ⟨env, _, _, m⟩ => eqN m n <| purE env K
theorem purE_sound {sz : TypeId → Nat} {V : Vw} {μ : List Nat} {ω : List Value} : ∀ {env : List (Nat × D)} {K : List (Nat × D) → Prop}, purE env K → ∃ env', K env' ∧ ∀ t v, RS sz V μ ω v (look env t) → RI sz V v (look env' t)
  | [], K, h => ⟨[], h, fun t v _ => .u v⟩
  | (k, d) :: env, K, h => by
    simp only [purE] at h
    split at h
    · rename_i hd
      rw [D.force_eq] at h
      obtain ⟨env', h, he⟩ := purE_sound (sz := sz) (V := V) (μ := μ) (ω := ω) h
      refine ⟨_, h, fun t v hv => ?_⟩
      unfold look at hv ⊢
      cases hb : Nat.beq k t with
      | true => rw [hb] at hv; exact immD_ri hv hd
      | false => rw [hb] at hv; exact he t v hv
    · obtain ⟨env', h, he⟩ := purE_sound (sz := sz) (V := V) (μ := μ) (ω := ω) h
      refine ⟨_, h, fun t v hv => ?_⟩
      unfold look at hv ⊢
      cases hb : Nat.beq k t with
      | true => exact .u v
      | false => rw [hb] at hv; exact he t v hv
theorem PureS.after {B : Nat} {V V' : Vw} {env : List (Nat × D)} {n : Nat} {a a' : Act} {w w' : World} {μ' : List Nat} {ω' : List Value} {s' : St} {K : List (Nat × D) → Prop} (h : PureS (szOf T) B V env n a w)
    (hS : Sim (szOf T) w ⟨V, fun _ => undef, a.defers, []⟩ V' μ' ω' s' a' w') (hK : purK n s' K) : ∃ env', K env' ∧ PureS (szOf T) B V' env' n a' w' := by
  obtain ⟨env2, box, row, m⟩ := s'
  obtain ⟨hmn, hK2⟩ := eqN_iff hK
  subst hmn
  obtain ⟨env', hk, he⟩ := purE_sound (sz := szOf T) (V := V') (μ := μ') (ω := ω') hK2
  obtain ⟨ms, e1, e2, e3⟩ := h.marks
  obtain ⟨ms', f1, f2, f3⟩ := hS.defers.marks
  have hsz := h.size
  refine ⟨env', hk, hS.tmps, ⟨ms' ++ ms, ?_, ?_, fun D hD => ?_⟩, by have := hS.mem.below.size; omega, hS.mem.vok, fun t => .imm _ _ (he t _ (hS.env t))⟩
  · rw [f1, List.map_append]
    show ms'.map mkD ++ a.defers = _
    rw [e1]
  · refine List.nodup_append.2 ⟨f2, e2, fun x hx y hy e => ?_⟩
    have h1 := (f3 x hx).2.1
    have h2 := (Array.getElem?_eq_some_iff.1 (e3 y hy).2).1
    omega
  · rcases List.mem_append.1 hD with hD | hD
    · exact ⟨by have := (f3 D hD).2.1; omega, (f3 D hD).1⟩
    · exact ⟨(e3 D hD).1, by rw [hS.mem.below.block D (Array.getElem?_eq_some_iff.1 (e3 D hD).2).1]; exact (e3 D hD).2⟩
theorem fresh_of {F : Fr} {V V' : Vw} {μ : List Nat} {ω : List Value} {box : List (List D)} {row : Rows} {w w' : World} {sz : TypeId → Nat} (h : Mem sz w F V' μ ω box row w') (hF : F.V = V) : ∀ p v, V' p = some v → V p = some v ∨ w.heap.size ≤ p.block := by
  intro p v hp
  by_cases hb : p.block < w.heap.size
  · left
    rw [← hF, ← h.vold p hb]
    exact hp
  · right; omega
def yPost (P : Program) (T : Tab) (B : Nat) (J : Option Nat → Vw → World → Prop) (Jp : List PanicEntry → World → Prop) (n : Nat) (Q : Exit → Option Nat → List (Nat × D) → Prop) (e : Exit) (a' : Act) (w' : World) : Prop :=
  (∃ g' env' V', Q e g' env' ∧ J g' V' w' ∧ PureS (szOf T) B V' env' n a' w') ∨
    ∃ ch, e = .panic ch ∧ Jp ch w' ∧ ∃ ms : List Nat, a'.defers = ms.map mkD ∧ ms.Nodup ∧ ∀ D ∈ ms, B ≤ D ∧ w'.heap[D]? = some (.deferred (some []))
structure OkY (P : Program) (T : Tab) (l : Nat) (xs : List (List D)) (n : Nat) (c : Code) (Q : Exit → Option Nat → List (Nat × D) → Prop) (g : Option Nat) (env : List (Nat × D)) : Prop where
  run : ∀ (B : Nat) J Jp, Yields P T l B xs J Jp → ∀ (V : Vw) (a : Act) (w : World), J g V w → PureS (szOf T) B V env n a w → c.wp P (yPost P T B J Jp n Q) a w
variable {l : Nat} {xs : List (List D)} {n : Nat} {Q : Exit → Option Nat → List (Nat × D) → Prop} {g : Option Nat} {env : List (Nat × D)}
theorem OkY.mono {c : Code} {Q' : Exit → Option Nat → List (Nat × D) → Prop} (h : OkY P T l xs n c Q g env) (hq : ∀ e g env, Q e g env → Q' e g env) : OkY P T l xs n c Q' g env := by
  refine ⟨fun B J Jp hY V a w hJ hp => wp_mono (h.run B J Jp hY V a w hJ hp) ?_⟩
  rintro e a' w' (⟨g', env', V', hk, h1, h2⟩ | h)
  · exact .inl ⟨g', env', V', hq _ _ _ hk, h1, h2⟩
  · exact .inr h
def thenY (N : Option Nat → List (Nat × D) → Prop) (Q : Exit → Option Nat → List (Nat × D) → Prop) : Exit → Option Nat → List (Nat × D) → Prop
  | .normal, g, env => N g env
  | e, g, env => Q e g env
theorem OkY.seq {x y : Code} (h : OkY P T l xs n x (thenY (OkY P T l xs n y Q) Q) g env) : OkY P T l xs n (.seq x y) Q g env := by
  refine ⟨fun B J Jp hY V a w hJ hp => wp_seq (wp_mono (h.run B J Jp hY V a w hJ hp) ?_)⟩
  rintro e a' w' (⟨g', env', V', hk, h1, h2⟩ | ⟨ch, rfl, h⟩)
  · cases e with
    | normal => exact OkY.run hk B J Jp hY V' a' w' h1 h2
    | _ => exact .inl ⟨g', env', V', hk, h1, h2⟩
  · exact .inr ⟨ch, rfl, h⟩
theorem OkY.skip (h : Q .normal g env) : OkY P T l xs n .skip Q g env := ⟨fun _ _ _ _ V _ _ hJ hp => wp_skip (.inl ⟨g, env, V, h, hJ, hp⟩)⟩
theorem OkY.ret (h : Q .ret g env) : OkY P T l xs n .ret Q g env := ⟨fun _ _ _ _ V _ _ hJ hp => wp_ret (.inl ⟨g, env, V, h, hJ, hp⟩)⟩
theorem OkY.exit {id : Nat} (h : Q (.exit id) g env) : OkY P T l xs n (.exit id) Q g env := ⟨fun _ _ _ _ V _ _ hJ hp => wp_exit (.inl ⟨g, env, V, h, hJ, hp⟩)⟩
def blockY (id : Nat) (Q : Exit → Option Nat → List (Nat × D) → Prop) : Exit → Option Nat → List (Nat × D) → Prop
  | .exit id', g, env => match Nat.beq id' id with | true => Q .normal g env | false => Q (.exit id') g env
  | e, g, env => Q e g env
theorem OkY.block {id : Nat} {c : Code} (h : OkY P T l xs n c (blockY id Q) g env) : OkY P T l xs n (.block id c) Q g env := by
  refine ⟨fun B J Jp hY V a w hJ hp => wp_block (wp_mono (h.run B J Jp hY V a w hJ hp) ?_)⟩
  rintro e a' w' (⟨g', env', V', hk, h1, h2⟩ | ⟨ch, rfl, h⟩)
  · cases e with
    | exit id' =>
      simp only [blockY] at hk
      simp only [Exit.inBlock]
      split at hk
      · rename_i hb
        rw [if_pos (beq_nat_true hb)]
        exact .inl ⟨g', env', V', hk, h1, h2⟩
      · rename_i hb
        rw [if_neg (by rintro rfl; rw [Nat.beq_refl] at hb; cases hb)]
        exact .inl ⟨g', env', V', hk, h1, h2⟩
    | _ => exact .inl ⟨g', env', V', hk, h1, h2⟩
  · exact .inr ⟨ch, rfl, h⟩
def condY (env : List (Nat × D)) (n : Nat) (c : Operand) (X Y : List (Nat × D) → Prop) : Prop :=
  condK ⟨env, [], [], n⟩ c (fun s => X s.env) (fun s => Y s.env)
theorem PureS.know {B : Nat} {V : Vw} {a : Act} {w : World} (hp : PureS (szOf T) B V env n a w) (c : Operand) {d : D} (hd : RS (szOf T) V [] [] (a.eval c) d) : PureS (szOf T) B V ((⟨env, [], [], n⟩ : St).know c d).env n a w := by
  have h := hp.sim.know c hd
  have hn : ((⟨env, [], [], n⟩ : St).know c d).n = n := by
    unfold St.know
    split
    · split <;> rfl
    · rfl
  refine ⟨hp.tmps, hp.marks, hp.size, hp.vok, fun t => ?_⟩
  have := h.env t
  rw [hn] at this
  exact this
theorem OkY.cond {c : Operand} {x y : Code} (h : condY env n c (OkY P T l xs n x Q g) (OkY P T l xs n y Q g)) : OkY P T l xs n (.cond c x y) Q g env := by
  refine ⟨fun B J Jp hY V a w hJ hp => ?_⟩
  have hc := hp.sim.get c
  unfold condY condK at h
  split at h
  · rename_i hd; rw [hd] at hc; exact wp_cond_true hc.tt_ (h.run B J Jp hY V a w hJ hp)
  · rename_i hd; rw [hd] at hc; exact wp_cond_false hc.ff_ (h.run B J Jp hY V a w hJ hp)
  · rename_i p hd
    rw [hd] at hc
    obtain ⟨b, hb, hbp⟩ := hc.bool
    cases b with
    | true => exact wp_cond_true hb ((h.1 (hbp.1 rfl)).run B J Jp hY V a w hJ (hp.know c (by rw [hb]; exact .imm _ _ .tt)))
    | false => exact wp_cond_false hb ((h.2 (fun hp => by simpa using hbp.2 hp)).run B J Jp hY V a w hJ (hp.know c (by rw [hb]; exact .imm _ _ .ff)))
  · exact h.elim
def selE (env : List (Nat × D)) : List Nat → (List (Nat × D) → Prop) → Prop
  | [], K => K []
  | t :: L, K => (look env t).force fun d => selE env L fun r => K ((t, d) :: r)
theorem selE_sound {sz : TypeId → Nat} {V : Vw} {env : List (Nat × D)} : ∀ {L : List Nat} {K : List (Nat × D) → Prop}, selE env L K → ∃ env', K env' ∧ ∀ t v, RS sz V [] [] v (look env t) → RS sz V [] [] v (look env' t)
  | [], K, h => ⟨[], h, fun t v _ => .imm _ _ (.u v)⟩
  | x :: L, K, h => by
    simp only [selE, D.force_eq] at h
    obtain ⟨env', h, he⟩ := selE_sound (sz := sz) (V := V) h
    refine ⟨_, h, fun t v hv => ?_⟩
    show RS sz V [] [] v (match Nat.beq x t with | true => look env x | false => look env' t)
    cases hb : Nat.beq x t with
    | true => rw [← beq_nat_true hb] at hv; exact hv
    | false => exact he t v hv
theorem OkY.keep {c : Code} (L : List Nat) (h : selE env L fun env => OkY P T l xs n c Q g env) : OkY P T l xs n c Q g env := by
  refine ⟨fun B J Jp hY V a w hJ hp => ?_⟩
  obtain ⟨env', hk, he⟩ := selE_sound (sz := szOf T) (V := V) h
  exact hk.run B J Jp hY V a w hJ ⟨hp.tmps, hp.marks, hp.size, hp.vok, fun t => he t _ (hp.env t)⟩
theorem OkY.loop {c : Code} {ι : Type} (I : ι → Option Nat → List (Nat × D) → Prop) (m : ι → Nat) (x0 : ι) (h0 : I x0 g env)
    (round : ∀ x g env, I x g env → OkY P T l xs n c (thenY (fun g' env' => ∃ x', m x' < m x ∧ I x' g' env') Q) g env) : OkY P T l xs n (.loop c) Q g env := by
  refine ⟨fun B J Jp hY V a w hJ hp => ?_⟩
  refine wp_loop_at (fun k a w => ∃ x g env V, m x = k ∧ I x g env ∧ J g V w ∧ PureS (szOf T) B V env n a w) ?_ ⟨x0, g, env, V, rfl, h0, hJ, hp⟩
  rintro k a w ⟨x, g, env, V, rfl, hI, hJ, hp⟩
  refine wp_mono ((round x g env hI).run B J Jp hY V a w hJ hp) ?_
  rintro e a' w' (⟨g', env', V', hk, h1, h2⟩ | ⟨ch, rfl, h⟩)
  · cases e with
    | normal =>
      obtain ⟨x', hlt, hI'⟩ := hk
      exact ⟨m x', hlt, x', g', env', V', rfl, hI', h1, h2⟩
    | _ => exact .inl ⟨g', env', V', hk, h1, h2⟩
  · exact .inr ⟨ch, rfl, h⟩
def yCallK (P : Program) (T : Tab) (l n : Nat) (ops r : List Oper) (x : List D) (Q : Exit → Option Nat → List (Nat × D) → Prop) (k : Nat) (o : Oper) (s : St) : Prop :=
  match o.guard with
  | some _ => False
  | none => match o.op with
    | .call { callee := .value (.tmp t), args, argTypes := _ } => s.get (.tmp t) = .yld l ∧ s.gets args.toList = x ∧ imms x = true ∧ purK n s fun env' =>
        (putK ⟨env', [], [], n⟩ o.dst .tt fun s => vops P T ops r s fun s' => purK n s' (Q .normal (some (k + 1)))) ∧ (putK ⟨env', [], [], n⟩ o.dst .ff fun s => vops P T ops r s fun s' => purK n s' (Q .normal none))
    | _ => False
theorem RS.yld_ {sz : TypeId → Nat} {V : Vw} {μ : List Nat} {ω : List Value} {v : Value} {l : Nat} (h : RS sz V μ ω v (.yld l)) : v = .func (.yield l) #[] #[] := by
  cases h with | imm _ _ h => cases h; rfl
structure OkZ (P : Program) (T : Tab) (l : Nat) (xs : List (List D)) (n : Nat) (c : Code) (Q : Exit → Option Nat → List (Nat × D) → Prop) (g : Option Nat) (s : St) : Prop where
  run : ∀ (B : Nat) J Jp, Yields P T l B xs J Jp → ∀ (V : Vw) (a0 : Act) (w0 : World) (env : List (Nat × D)), J g V w0 → PureS (szOf T) B V env n a0 w0 →
    ∀ (V' : Vw) (μ : List Nat) (ω : List Value) (a : Act) (w : World), Sim (szOf T) w0 ⟨V, fun _ => undef, a0.defers, []⟩ V' μ ω s a w → c.wp P (yPost P T B J Jp n Q) a w
theorem OkZ.seq {x y : Code} {s : St} (h : Ok P T x (thenQ (OkZ P T l xs n y Q g) (fun e s' => purK n s' fun env' => Q e g env')) s) : OkZ P T l xs n (.seq x y) Q g s := by
  refine ⟨fun B J Jp hY V a0 w0 env hJ hp V' μ ω a w hS => wp_seq (wp_mono (h.run w0 _ V' μ ω a w hS) ?_)⟩
  rintro e a' w' ⟨s', V2, μ', ω', hq, hS2⟩
  have pur : ∀ e, purK n s' (fun env' => Q e g env') → yPost P T B J Jp n Q e a' w' := fun e hq => by
    obtain ⟨env', hk, hp'⟩ := hp.after hS2 hq
    exact .inl ⟨g, env', V2, hk, hY.grow g V V2 w0 w' hJ hS2.mem.below hS2.mem.vle hS2.mem.vok (fresh_of hS2.mem rfl), hp'⟩
  cases e with
  | normal => exact OkZ.run hq B J Jp hY V a0 w0 env hJ hp V2 μ' ω' a' w' hS2
  | _ => exact pur _ hq
theorem J_shut {l B : Nat} {xs : List (List D)} {J : Option Nat → Vw → World → Prop} {Jp : List PanicEntry → World → Prop} (hY : Yields P T l B xs J Jp) : ∀ (ms : List Nat) (w : World), ms.Nodup → (∀ D ∈ ms, B ≤ D ∧ w.heap[D]? = some (.deferred (some []))) →
    (∀ g V, J g V w → J g V (shut ms w)) ∧ ∀ c, Jp c w → Jp c (shut ms w)
  | [], w, _, _ => ⟨fun _ _ h => h, fun _ h => h⟩
  | D :: ms, w, hn, hd => by
    obtain ⟨h1, h2⟩ := List.nodup_cons.1 hn
    obtain ⟨a, b⟩ := J_shut hY ms (w.putObj D (.deferred none)) h2 (fun E hE => ⟨(hd E (by simp [hE])).1, (World.putObj_heap_other (r := D) (k := E) fun e => h1 (e ▸ hE)).trans (hd E (by simp [hE])).2⟩)
    exact ⟨fun g V h => a g V (hY.shut g V w D h (hd D (by simp)).1 (hd D (by simp)).2), fun c h => b c (hY.shutp c w D h (hd D (by simp)).1 (hd D (by simp)).2)⟩
theorem YSpec.of_okY {f : FuncId} {fn : Func} {c : Code} (hf : P.funcs[f]? = some fn) (hb : fn.body = some c) (hcall : ∀ args w, (callFunc f args).run P w = .ok (.enter f args) w) {cap : List D} (hres : fn.results = #[]) (hn : cap.length + 1 ≤ fn.ntmps)
    (h : ∀ l, OkY P T l xs fn.ntmps c (fun e g _ => (e = .normal ∨ e = .ret) ∧ (g = some xs.length ∨ g = none)) (some 0) (envOf 0 (.yld l :: cap))) : YSpec P T f cap xs := by
  refine ⟨hcall, fun V w args hl hR l J Jp hY hJ => calls_of_wp_X hf hb ?_⟩
  have hst := start_sim (T := T) (fn := fn) (ds := .yld l :: cap) (V := V) (w := w) (args := #[.func (.yield l) #[] #[]] ++ args) (df := []) (by simpa using hn) (hY.vok _ _ _ hJ) (by simp; omega) (fun j v d h1 h2 => by
    cases j with
    | zero =>
      rw [Array.getElem?_append_left (by simp)] at h1
      simp at h1 h2
      subst h1 h2
      exact .yld l
    | succ j =>
      refine hR j v d ?_ (by simpa using h2)
      rw [Array.getElem?_append_right (by simp)] at h1
      simpa using h1)
  refine wp_mono ((h l).run w.heap.size J Jp hY V _ w hJ ⟨hst.tmps, ⟨[], rfl, List.nodup_nil, by simp⟩, Nat.le_refl _, hY.vok _ _ _ hJ, hst.env⟩) ?_
  rintro e a' w' (⟨g', env', V', ⟨he, hg⟩, hJ', hp⟩ | ⟨ch, rfl, hJp, ms, e1, e2, e3⟩)
  · obtain ⟨ms, e1, e2, e3⟩ := hp.marks
    have fin : LeavesX P fn a'.tmps (fun e w' => ((∃ v, e = .returned v) ∧ ∃ V', J (some xs.length) V' w' ∨ J none V' w') ∨ ∃ c, e = .panicked c ∧ Jp c w') a'.defers .returning w' := by
      rw [e1, ← List.append_nil (ms.map mkD)]
      refine leavesX_marks (by simp) ms w' e2 (fun D hD => (e3 D hD).2) ⟨.tuple #[], ?_, .inl ⟨⟨_, rfl⟩, V', ?_⟩⟩
      · rw [results_eq, hres]
        simp
      · have := (J_shut hY ms w' e2 e3).1 g' V' hJ'
        rcases hg with rfl | rfl
        · exact .inl this
        · exact .inr this
    rcases he with rfl | rfl
    · exact fin
    · exact fin
  · show LeavesX P fn a'.tmps _ a'.defers _ w'
    rw [e1, ← List.append_nil (ms.map mkD)]
    exact leavesX_marks (by simp) ms w' e2 (fun D hD => (e3 D hD).2) (.inr ⟨ch, rfl, (J_shut hY ms w' e2 e3).2 ch hJp⟩)
theorem effW.of {s : St} {f : FuncId} {ds : List D} {K : D → St → Prop} (h : effK P T s f ds K) : effW P T s f ds K :=
  ⟨h.call, fun w0 V0 V μ ω a w vs hS hl hR => (h.run w0 V0 V μ ω a w vs hS hl hR).mono fun _ _ ⟨v, d, s', V', μ', ω', h1, h2, h3, h4, _⟩ => ⟨v, d, s', V', μ', ω', h1, h2, h3, h4⟩⟩
end
end Go.Vx
namespace Go.Vx
open Go.RowKit
section
variable {P : Program} {T : Tab}
structure PureE (sz : TypeId → Nat) (B : Nat) (E : List (Nat × Obj)) (V : Vw) (env : List (Nat × D)) (n : Nat) (a : Act) (w : World) : Prop where
  tmps : a.tmps.size = n
  marks : ∃ ms : List Nat, a.defers = ms.map mkD ∧ ms.Nodup ∧ ∀ D ∈ ms, B ≤ D ∧ w.heap[D]? = some (.deferred (some [])) ∧ ∀ x ∈ E, x.1 ≠ D
  size : B ≤ w.heap.size
  vok : VOk V w
  env : ∀ t, RS sz V [] [] (slotV ⟨V, fun _ => undef, [], []⟩ n a t) (look env t)
  kept : ∀ x ∈ E, B ≤ x.1 ∧ w.heap[x.1]? = some x.2 ∧ noC x.2
theorem PureE.sim {B : Nat} {E : List (Nat × Obj)} {V : Vw} {env : List (Nat × D)} {n : Nat} {a : Act} {w : World} (h : PureE (szOf T) B E V env n a w) : Sim (szOf T) w ⟨V, fun _ => undef, a.defers, []⟩ V [] [] ⟨env, [], [], n⟩ a w :=
  ⟨h.tmps, .start, h.env, (Mem.start h.vok).fr rfl⟩
theorem PureE.after {B : Nat} {E : List (Nat × Obj)} {V V' : Vw} {env : List (Nat × D)} {n : Nat} {a a' : Act} {w w' : World} {μ' : List Nat} {ω' : List Value} {s' : St} {K : List (Nat × D) → Prop} (h : PureE (szOf T) B E V env n a w)
    (hS : Sim (szOf T) w ⟨V, fun _ => undef, a.defers, []⟩ V' μ' ω' s' a' w') (hK : purK n s' K) : ∃ env', K env' ∧ PureE (szOf T) B E V' env' n a' w' := by
  obtain ⟨env2, box, row, m⟩ := s'
  obtain ⟨hmn, hK2⟩ := eqN_iff hK
  subst hmn
  obtain ⟨env', hk, he⟩ := purE_sound (sz := szOf T) (V := V') (μ := μ') (ω := ω') hK2
  obtain ⟨ms, e1, e2, e3⟩ := h.marks
  obtain ⟨ms', f1, f2, f3⟩ := hS.defers.marks
  have hsz := h.size
  have hlt : ∀ x ∈ E, x.1 < w.heap.size := fun x hx => (Array.getElem?_eq_some_iff.1 (h.kept x hx).2.1).1
  refine ⟨env', hk, hS.tmps, ⟨ms' ++ ms, ?_, ?_, fun D hD => ?_⟩, by have := hS.mem.below.size; omega, hS.mem.vok, fun t => .imm _ _ (he t _ (hS.env t)), fun x hx => ?_⟩
  · rw [f1, List.map_append]
    show ms'.map mkD ++ a.defers = _
    rw [e1]
  · refine List.nodup_append.2 ⟨f2, e2, fun x hx y hy e => ?_⟩
    have h1 := (f3 x hx).2.1
    have h2 := (Array.getElem?_eq_some_iff.1 (e3 y hy).2.1).1
    omega
  · rcases List.mem_append.1 hD with hD | hD
    · exact ⟨by have := (f3 D hD).2.1; omega, (f3 D hD).1, fun x hx => by have := (f3 D hD).2.1; have := hlt x hx; omega⟩
    · exact ⟨(e3 D hD).1, by rw [hS.mem.below.block D (Array.getElem?_eq_some_iff.1 (e3 D hD).2.1).1]; exact (e3 D hD).2.1, (e3 D hD).2.2⟩
  · obtain ⟨k1, k2, k3⟩ := h.kept x hx
    exact ⟨k1, by rw [hS.mem.below.block x.1 (hlt x hx)]; exact k2, k3⟩
def yPostE (P : Program) (T : Tab) (B : Nat) (E : List (Nat × Obj)) (V0 : Vw) (J : Option Nat → Vw → World → Prop) (Jp : List PanicEntry → World → Prop) (n : Nat) (Q : Exit → Option Nat → List (Nat × D) → Prop) (e : Exit) (a' : Act) (w' : World) : Prop :=
  (∃ g' env' V', Q e g' env' ∧ J g' V' w' ∧ VLe V0 V' ∧ PureE (szOf T) B E V' env' n a' w') ∨
    ∃ ch, e = .panic ch ∧ Jp ch w' ∧ (∀ x ∈ E, w'.heap[x.1]? = some x.2) ∧ ∃ ms : List Nat, a'.defers = ms.map mkD ∧ ms.Nodup ∧ ∀ D ∈ ms, B ≤ D ∧ w'.heap[D]? = some (.deferred (some [])) ∧ ∀ x ∈ E, x.1 ≠ D
structure OkE (P : Program) (T : Tab) (l : Nat) (xs : List (List D)) (n : Nat) (c : Code) (Q : Exit → Option Nat → List (Nat × D) → Prop) (g : Option Nat) (env : List (Nat × D)) : Prop where
  run : ∀ (B : Nat) (E : List (Nat × Obj)) J Jp, Yields P T l B xs J Jp → ∀ (V : Vw) (a : Act) (w : World), J g V w → PureE (szOf T) B E V env n a w → c.wp P (yPostE P T B E V J Jp n Q) a w
variable {l : Nat} {xs : List (List D)} {n : Nat} {Q : Exit → Option Nat → List (Nat × D) → Prop} {g : Option Nat} {env : List (Nat × D)}
theorem OkE.piece {c : Code} (h : Ok P T c (fun e s' => purK n s' fun env' => Q e g env') ⟨env, [], [], n⟩) : OkE P T l xs n c Q g env := by
  refine ⟨fun B E J Jp hY V a w hJ hp => wp_mono (h.run w _ V [] [] a w hp.sim) ?_⟩
  rintro e a' w' ⟨s', V', μ', ω', hq, hS⟩
  obtain ⟨env', hk, hp'⟩ := hp.after hS hq
  exact .inl ⟨g, env', V', hk, hY.grow g V V' w w' hJ hS.mem.below hS.mem.vle hS.mem.vok (fresh_of hS.mem rfl), hS.mem.vle, hp'⟩
theorem yPostE.up {B : Nat} {E : List (Nat × Obj)} {V0 V1 : Vw} {J : Option Nat → Vw → World → Prop} {Jp : List PanicEntry → World → Prop} {e : Exit} {a : Act} {w : World} (h : yPostE P T B E V1 J Jp n Q e a w) (hV : VLe V0 V1) : yPostE P T B E V0 J Jp n Q e a w := by
  rcases h with ⟨g', env', V', h1, h2, h3, h4⟩ | h
  · exact .inl ⟨g', env', V', h1, h2, fun p v hp => h3 p v (hV p v hp), h4⟩
  · exact .inr h
theorem OkE.seq {x y : Code} (h : OkE P T l xs n x (thenY (OkE P T l xs n y Q) Q) g env) : OkE P T l xs n (.seq x y) Q g env := by
  refine ⟨fun B E J Jp hY V a w hJ hp => wp_seq (wp_mono (h.run B E J Jp hY V a w hJ hp) ?_)⟩
  rintro e a' w' (⟨g', env', V', hk, h1, hv, h2⟩ | ⟨ch, rfl, h⟩)
  · cases e with
    | normal => exact wp_mono (OkE.run hk B E J Jp hY V' a' w' h1 h2) fun _ _ _ h => h.up hv
    | _ => exact .inl ⟨g', env', V', hk, h1, hv, h2⟩
  · exact .inr ⟨ch, rfl, h⟩
theorem OkE.skip (h : Q .normal g env) : OkE P T l xs n .skip Q g env := ⟨fun _ _ _ _ _ V _ _ hJ hp => wp_skip (.inl ⟨g, env, V, h, hJ, fun _ _ h => h, hp⟩)⟩
theorem OkE.ret (h : Q .ret g env) : OkE P T l xs n .ret Q g env := ⟨fun _ _ _ _ _ V _ _ hJ hp => wp_ret (.inl ⟨g, env, V, h, hJ, fun _ _ h => h, hp⟩)⟩
theorem OkE.exit {id : Nat} (h : Q (.exit id) g env) : OkE P T l xs n (.exit id) Q g env := ⟨fun _ _ _ _ _ V _ _ hJ hp => wp_exit (.inl ⟨g, env, V, h, hJ, fun _ _ h => h, hp⟩)⟩
theorem OkE.block {id : Nat} {c : Code} (h : OkE P T l xs n c (blockY id Q) g env) : OkE P T l xs n (.block id c) Q g env := by
  refine ⟨fun B E J Jp hY V a w hJ hp => wp_block (wp_mono (h.run B E J Jp hY V a w hJ hp) ?_)⟩
  rintro e a' w' (⟨g', env', V', hk, h1, hv, h2⟩ | ⟨ch, rfl, h⟩)
  · cases e with
    | exit id' =>
      simp only [blockY] at hk
      simp only [Exit.inBlock]
      split at hk
      · rename_i hb
        rw [if_pos (beq_nat_true hb)]
        exact .inl ⟨g', env', V', hk, h1, hv, h2⟩
      · rename_i hb
        rw [if_neg (by rintro rfl; rw [Nat.beq_refl] at hb; cases hb)]
        exact .inl ⟨g', env', V', hk, h1, hv, h2⟩
    | _ => exact .inl ⟨g', env', V', hk, h1, hv, h2⟩
  · exact .inr ⟨ch, rfl, h⟩
theorem PureE.know {B : Nat} {E : List (Nat × Obj)} {V : Vw} {a : Act} {w : World} (hp : PureE (szOf T) B E V env n a w) (c : Operand) {d : D} (hd : RS (szOf T) V [] [] (a.eval c) d) : PureE (szOf T) B E V ((⟨env, [], [], n⟩ : St).know c d).env n a w := by
  have h := hp.sim.know c hd
  have hn : ((⟨env, [], [], n⟩ : St).know c d).n = n := by
    unfold St.know
    split
    · split <;> rfl
    · rfl
  refine ⟨hp.tmps, hp.marks, hp.size, hp.vok, fun t => ?_, hp.kept⟩
  have := h.env t
  rw [hn] at this
  exact this
theorem OkE.cond {c : Operand} {x y : Code} (h : condY env n c (OkE P T l xs n x Q g) (OkE P T l xs n y Q g)) : OkE P T l xs n (.cond c x y) Q g env := by
  refine ⟨fun B E J Jp hY V a w hJ hp => ?_⟩
  have hc := hp.sim.get c
  unfold condY condK at h
  split at h
  · rename_i hd; rw [hd] at hc; exact wp_cond_true hc.tt_ (h.run B E J Jp hY V a w hJ hp)
  · rename_i hd; rw [hd] at hc; exact wp_cond_false hc.ff_ (h.run B E J Jp hY V a w hJ hp)
  · rename_i p hd
    rw [hd] at hc
    obtain ⟨b, hb, hbp⟩ := hc.bool
    cases b with
    | true => exact wp_cond_true hb ((h.1 (hbp.1 rfl)).run B E J Jp hY V a w hJ (hp.know c (by rw [hb]; exact .imm _ _ .tt)))
    | false => exact wp_cond_false hb ((h.2 (fun hp => by simpa using hbp.2 hp)).run B E J Jp hY V a w hJ (hp.know c (by rw [hb]; exact .imm _ _ .ff)))
  · exact h.elim
theorem PureE.envs {B : Nat} {E : List (Nat × Obj)} {V : Vw} {a : Act} {w : World} {env' : List (Nat × D)} (hp : PureE (szOf T) B E V env n a w) (he : ∀ t v, RS (szOf T) V [] [] v (look env t) → RS (szOf T) V [] [] v (look env' t)) : PureE (szOf T) B E V env' n a w :=
  ⟨hp.tmps, hp.marks, hp.size, hp.vok, fun t => he t _ (hp.env t), hp.kept⟩
theorem OkE.keep {c : Code} (L : List Nat) (h : selE env L fun env => OkE P T l xs n c Q g env) : OkE P T l xs n c Q g env := by
  refine ⟨fun B E J Jp hY V a w hJ hp => ?_⟩
  obtain ⟨env', hk, he⟩ := selE_sound (sz := szOf T) (V := V) h
  exact hk.run B E J Jp hY V a w hJ (hp.envs he)
theorem OkE.loopK {c : Code} {ι : Type} (L : List Nat) (mk : ι → List (Nat × D)) (gk : ι → Option Nat) (I : ι → Prop) (m : ι → Nat) (x0 : ι) (h0 : I x0) (hg : g = gk x0) (hs : selE env L (· = mk x0))
    (round : ∀ x, I x → OkE P T l xs n c (thenY (fun g' env' => ∃ x', m x' < m x ∧ I x' ∧ g' = gk x' ∧ selE env' L (· = mk x')) Q) (gk x) (mk x)) : OkE P T l xs n (.loop c) Q g env := by
  refine ⟨fun B E J Jp hY V a w hJ hp => ?_⟩
  obtain ⟨env', hk, he⟩ := selE_sound (sz := szOf T) (V := V) hs
  subst hg
  refine wp_loop_at (fun k a w => ∃ x V1, m x = k ∧ I x ∧ J (gk x) V1 w ∧ VLe V V1 ∧ PureE (szOf T) B E V1 (mk x) n a w) ?_ ⟨x0, V, rfl, h0, hJ, fun _ _ h => h, by rw [← hk]; exact hp.envs he⟩
  rintro k a w ⟨x, V1, rfl, hI, hJ, hv1, hp⟩
  refine wp_mono ((round x hI).run B E J Jp hY V1 a w hJ hp) ?_
  rintro e a' w' (⟨g', env', V', hk, h1, hv, h2⟩ | ⟨ch, rfl, h⟩)
  · have hvv : VLe V V' := fun p v hp => hv p v (hv1 p v hp)
    cases e with
    | normal =>
      obtain ⟨x', hlt, hI', rfl, hs'⟩ := hk
      obtain ⟨env2, hk2, he2⟩ := selE_sound (sz := szOf T) (V := V') hs'
      exact ⟨m x', hlt, x', V', rfl, hI', h1, hvv, by rw [← hk2]; exact h2.envs he2⟩
    | _ => exact .inl ⟨g', env', V', hk, h1, hvv, h2⟩
  · exact .inr ⟨ch, rfl, h⟩
structure YC (P : Program) (T : Tab) (f : FuncId) (ds : Nat → List D) (ys : List (List D)) : Prop where
  call : ∀ args w, (callFunc f args).run P w = .ok (.enter f args) w
  run : ∀ (l B : Nat) (E : List (Nat × Obj)) (xs : List (List D)) (k : Nat) J Jp, Yields P T l B xs J Jp → (∀ i, i < ys.length → xs[k + i]? = ys[i]?) → ∀ (V : Vw) (w : World) (args : Array Value), args.size = (ds l).length →
    (∀ (j : Nat) v d, args[j]? = some v → (ds l)[j]? = some d → RI (szOf T) V v d) → J (some k) V w → (∀ x ∈ E, B ≤ x.1 ∧ w.heap[x.1]? = some x.2 ∧ noC x.2) →
    Calls P f args w fun e w' => (∀ x ∈ E, w'.heap[x.1]? = some x.2) ∧
      ((∃ V', VLe V V' ∧ ((e = .returned (.bool true) ∧ J (some (k + ys.length)) V' w') ∨ (e = .returned (.bool false) ∧ J none V' w'))) ∨ ∃ c, e = .panicked c ∧ Jp c w')
structure OkF (P : Program) (T : Tab) (l : Nat) (xs : List (List D)) (n : Nat) (c : Code) (Q : Exit → Option Nat → List (Nat × D) → Prop) (g : Option Nat) (s : St) : Prop where
  run : ∀ (B : Nat) (E : List (Nat × Obj)) J Jp, Yields P T l B xs J Jp → ∀ (V : Vw) (a0 : Act) (w0 : World) (env : List (Nat × D)), J g V w0 → PureE (szOf T) B E V env n a0 w0 →
    ∀ (V' : Vw) (μ : List Nat) (ω : List Value) (a : Act) (w : World), Sim (szOf T) w0 ⟨V, fun _ => undef, a0.defers, []⟩ V' μ ω s a w → c.wp P (yPostE P T B E V J Jp n Q) a w
theorem OkE.ofF {c : Code} (h : OkF P T l xs n c Q g ⟨env, [], [], n⟩) : OkE P T l xs n c Q g env :=
  ⟨fun B E J Jp hY V a w hJ hp => h.run B E J Jp hY V a w env hJ hp V [] [] a w hp.sim⟩
theorem OkF.seq {x y : Code} {s : St} (h : Ok P T x (thenQ (OkF P T l xs n y Q g) (fun e s' => purK n s' fun env' => Q e g env')) s) : OkF P T l xs n (.seq x y) Q g s := by
  refine ⟨fun B E J Jp hY V a0 w0 env hJ hp V' μ ω a w hS => wp_seq (wp_mono (h.run w0 _ V' μ ω a w hS) ?_)⟩
  rintro e a' w' ⟨s', V2, μ', ω', hq, hS2⟩
  have pur : ∀ e, purK n s' (fun env' => Q e g env') → yPostE P T B E V J Jp n Q e a' w' := fun e hq => by
    obtain ⟨env', hk, hp'⟩ := hp.after hS2 hq
    exact .inl ⟨g, env', V2, hk, hY.grow g V V2 w0 w' hJ hS2.mem.below hS2.mem.vle hS2.mem.vok (fresh_of hS2.mem rfl), hS2.mem.vle, hp'⟩
  cases e with
  | normal => exact OkF.run hq B E J Jp hY V a0 w0 env hJ hp V2 μ' ω' a' w' hS2
  | _ => exact pur _ hq
theorem OkF.seqE {x y : Code} {s : St} (h : OkF P T l xs n x (thenY (OkE P T l xs n y Q) Q) g s) : OkF P T l xs n (.seq x y) Q g s := by
  refine ⟨fun B E J Jp hY V a0 w0 env hJ hp V' μ ω a w hS => wp_seq (wp_mono (h.run B E J Jp hY V a0 w0 env hJ hp V' μ ω a w hS) ?_)⟩
  rintro e a' w' (⟨g', env', V', hk, h1, hv, h2⟩ | ⟨ch, rfl, h⟩)
  · cases e with
    | normal => exact wp_mono (OkE.run hk B E J Jp hY V' a' w' h1 h2) fun _ _ _ h => h.up hv
    | _ => exact .inl ⟨g', env', V', hk, h1, hv, h2⟩
  · exact .inr ⟨ch, rfl, h⟩
theorem OkF.cond {c : Operand} {x y : Code} {s : St} (h : condK s c (OkF P T l xs n x Q g) (OkF P T l xs n y Q g)) : OkF P T l xs n (.cond c x y) Q g s := by
  refine ⟨fun B E J Jp hY V a0 w0 env hJ hp V' μ ω a w hS => ?_⟩
  have hc := hS.get c
  unfold condK at h
  split at h
  · rename_i hd; rw [hd] at hc; exact wp_cond_true hc.tt_ (h.run B E J Jp hY V a0 w0 env hJ hp V' μ ω a w hS)
  · rename_i hd; rw [hd] at hc; exact wp_cond_false hc.ff_ (h.run B E J Jp hY V a0 w0 env hJ hp V' μ ω a w hS)
  · rename_i p hd
    rw [hd] at hc
    obtain ⟨b, hb, hbp⟩ := hc.bool
    cases b with
    | true => exact wp_cond_true hb ((h.1 (hbp.1 rfl)).run B E J Jp hY V a0 w0 env hJ hp V' μ ω a w (hS.know c (by rw [hb]; exact .imm _ _ .tt)))
    | false => exact wp_cond_false hb ((h.2 (fun hp => by simpa using hbp.2 hp)).run B E J Jp hY V a0 w0 env hJ hp V' μ ω a w (hS.know c (by rw [hb]; exact .imm _ _ .ff)))
  · exact h.elim
theorem OkF.ofE {c : Code} {s : St} (h : purK n s fun env' => OkE P T l xs n c Q g env') : OkF P T l xs n c Q g s := by
  refine ⟨fun B E J Jp hY V a0 w0 env hJ hp V' μ ω a w hS => ?_⟩
  obtain ⟨env', hk, hp'⟩ := hp.after hS h
  exact wp_mono (hk.run B E J Jp hY V' a w (hY.grow g V V' w0 w hJ hS.mem.below hS.mem.vle hS.mem.vok (fresh_of hS.mem rfl)) hp') fun _ _ _ h => h.up hS.mem.vle
theorem E_go (hT : TOk P T) {B : Nat} {E : List (Nat × Obj)} {J : Option Nat → Vw → World → Prop} {Jp : List PanicEntry → World → Prop} (hY : Yields P T l B xs J Jp) {V0 V1 : Vw} {a1 : Act} {w1 W' : World} {env' : List (Nat × D)} {ops r : List Oper} {dst : Option Nat}
    (hp1 : PureE (szOf T) B E V1 env' n a1 w1) (hV : VLe V0 V1) (hmk : ∀ ms : List Nat, a1.defers = ms.map mkD → ∀ D ∈ ms, W'.heap[D]? = some (.deferred (some []))) (hE : ∀ x ∈ E, W'.heap[x.1]? = some x.2)
    {g' : Option Nat} {V2 : Vw} {d : D} {v : Value} (hle : VLe V1 V2) (hJ2 : J g' V2 W') (hv : RS (szOf T) V2 [] [] v d) (hput : putK ⟨env', [], [], n⟩ dst d fun s => vops P T ops r s fun s' => purK n s' (Q .normal g')) :
    wpListIn (fen none) 0 P ops.toArray (yPostE P T B E V0 J Jp n Q) r (a1.put dst v) W' := by
  obtain ⟨ms, e1, e2, e3⟩ := hp1.marks
  have hp2 : PureE (szOf T) B E V2 env' n a1 W' := ⟨hp1.tmps, ⟨ms, e1, e2, fun D hD => ⟨(e3 D hD).1, hmk ms e1 D hD, (e3 D hD).2.2⟩⟩, hY.size _ _ _ hJ2, hY.vok _ _ _ hJ2, fun t => (hp1.env t).mono hle (.refl _) (.refl _), fun x hx => ⟨(hp1.kept x hx).1, hE x hx, (hp1.kept x hx).2.2⟩⟩
  obtain ⟨s3, hq3, hS3⟩ := putK_sound hp2.sim hv hput
  refine vopsIn_sound hT r s3 V2 [] [] _ W' _ hS3 hq3 ?_
  intro s4 V4 μ4 ω4 a4 w4 hk4 hS4
  obtain ⟨env5, hk5, hp5⟩ := hp2.after (a' := a4) (w' := w4) hS4 hk4
  exact .inl ⟨g', env5, V4, hk5, hY.grow _ _ _ _ _ hJ2 hS4.mem.below hS4.mem.vle hS4.mem.vok (fresh_of hS4.mem rfl), fun p v h => hS4.mem.vle p v (hle p v (hV p v h)), hp5⟩
theorem keptE {B : Nat} {E : List (Nat × Obj)} {V : Vw} {a : Act} {w : World} {ms : List Nat} (hp : PureE (szOf T) B E V env n a w) (e1 : a.defers = ms.map mkD) : ∀ y ∈ keptOf ms ++ E, B ≤ y.1 ∧ w.heap[y.1]? = some y.2 ∧ noC y.2 := by
  obtain ⟨ms', f1, f2, f3⟩ := hp.marks
  rw [e1] at f1
  have := mkD_inj f1
  subst this
  intro y hy
  rcases List.mem_append.1 hy with hy | hy
  · obtain ⟨D, hD, rfl⟩ := List.mem_map.1 hy
    exact ⟨(f3 D hD).1, (f3 D hD).2.1, fun _ _ _ e => by cases e⟩
  · exact hp.kept y hy
theorem OkF.yreg (hT : TOk P T) {s0 : St} {id : Nat} {ops : List Oper} (j k : Nat) (x : List D) (hx : xs[k]? = some x) (h : vopsCut P T ops j ops s0 (yCallK P T l n ops (ops.drop (j + 1)) x Q k)) :
    OkF P T l xs n (.region id ops.toArray false) Q (some k) s0 := by
  refine ⟨fun B E J Jp hY V a0 w0 env hJ hp V' μ ω a w hS0 => (wpIn_wide (n := 0)).1 ?_⟩
  show Code.wpIn (fen none) 0 P _ _ a w
  refine wpIn_region_lit (vopsCutIn_sound hT j ops _ V' μ ω a w _ hS0 h ?_)
  intro o r s V1 μ1 ω1 a1 w1 hr hk hS1
  have hr2 : ops.drop (j + 1) = r := by rw [← List.drop_drop, hr]; rfl
  rw [hr2] at hk
  obtain ⟨dst, op, type, pos, after, guard⟩ := o
  unfold yCallK at hk
  split at hk
  · exact hk.elim
  rename_i hg
  dsimp only at hg
  subst hg
  split at hk
  case h_2 => exact hk.elim
  rename_i t args ats hop
  dsimp only at hop
  subst hop
  obtain ⟨hyl, hgs, him, hk⟩ := hk
  have hev : a1.eval (.tmp t) = .func (.yield l) #[] #[] := by have := hS1.get (.tmp t); rw [hyl] at this; exact this.yld_
  obtain ⟨env', ⟨hk1, hk2⟩, hp1⟩ := hp.after hS1 hk
  have hJ1 := hY.grow _ _ _ _ _ hJ hS1.mem.below hS1.mem.vle hS1.mem.vok (fresh_of hS1.mem rfl)
  obtain ⟨ms, e1, e2, e3⟩ := hp1.marks
  have hvals := hS1.gets args.toList
  rw [hgs] at hvals
  obtain ⟨fn, tmps, assign, body, hyi, hround⟩ := hY.round k x V1 w1 (args.toList.map a1.eval) hx hJ1 hvals.1 (fun i v d h1 h2 => immD_ri (hvals.2 i v d h1 h2) (imms_at him i d h2)) (keptOf ms ++ E) (keptE hp1 e1)
  unfold wpListIn
  rw [if_pos (by simp [Region.wanted])]
  refine ⟨fun _ _ => trivial, ?_⟩
  have hrun : (execOp a1.eval ⟨dst, .call ⟨.value (.tmp t), args, ats⟩, type, pos, after, none⟩).run P w1 = .ok (.round l fn tmps assign body) w1 := by
    have ha : (args.toList.map a1.eval).toArray = args.map a1.eval := by apply Array.ext'; simp
    rw [ha] at hyi
    simp only [execOp, resolve, hev, Deferred.ofValue, Sem.run_bind, Sem.run_pure, Result.andThen_ok]
    simp [invoke, go_sem, hyi]
  have hsem : ∀ o, Oper.semAt (fen none).round a1.eval o = execOp a1.eval o := fun o => Oper.semAt_none _ _
  rw [hsem, hrun]
  refine ⟨(fun hh => by cases hh), ?_⟩
  refine RoundIn.mono hround ?_
  rintro e W' ⟨hK, h⟩
  have hE : ∀ x ∈ E, W'.heap[x.1]? = some x.2 := fun x hx => hK x (List.mem_append_right _ hx)
  have hmk : ∀ ms' : List Nat, a1.defers = ms'.map mkD → ∀ D ∈ ms', W'.heap[D]? = some (.deferred (some [])) := fun ms' h1 D hD => by
    rw [e1] at h1
    rw [← mkD_inj h1] at hD
    exact hK (D, _) (List.mem_append_left _ (List.mem_map.2 ⟨D, hD, rfl⟩))
  rcases h with ⟨V2, hle, ⟨rfl, hJ2⟩ | ⟨rfl, hJ2⟩⟩ | ⟨c, rfl, hJp⟩
  · exact E_go hT hY hp1 hS1.mem.vle hmk hE hle hJ2 (.imm _ _ .tt) hk1
  · exact E_go hT hY hp1 hS1.mem.vle hmk hE hle hJ2 (.imm _ _ .ff) hk2
  · exact .inr ⟨c, rfl, hJp, hE, ms, e1, e2, fun D hD => ⟨(e3 D hD).1, hmk ms e1 D hD, (e3 D hD).2.2⟩⟩
def cCallK (P : Program) (T : Tab) (n : Nat) (ops r : List Oper) (f : FuncId) (ds : List D) (m : Nat) (Q : Exit → Option Nat → List (Nat × D) → Prop) (k : Nat) (o : Oper) (s : St) : Prop :=
  match o.guard with
  | some _ => False
  | none => match o.op with
    | .call { callee := .value (.func f'), args, argTypes := _ } => f' = f ∧ s.gets args.toList = ds ∧ imms ds = true ∧ purK n s fun env' =>
        (putK ⟨env', [], [], n⟩ o.dst .tt fun s => vops P T ops r s fun s' => purK n s' (Q .normal (some (k + m)))) ∧ (putK ⟨env', [], [], n⟩ o.dst .ff fun s => vops P T ops r s fun s' => purK n s' (Q .normal none))
    | _ => False
theorem OkF.creg (hT : TOk P T) {s0 : St} {id : Nat} {ops : List Oper} (j k : Nat) {f : FuncId} {ds : Nat → List D} {ys : List (List D)} (hC : YC P T f ds ys) (hx : ∀ i, i < ys.length → xs[k + i]? = ys[i]?)
    (h : vopsCut P T ops j ops s0 (cCallK P T n ops (ops.drop (j + 1)) f (ds l) ys.length Q k)) :
    OkF P T l xs n (.region id ops.toArray false) Q (some k) s0 := by
  refine ⟨fun B E J Jp hY V a0 w0 env hJ hp V' μ ω a w hS0 => (wpIn_wide (n := 0)).1 ?_⟩
  show Code.wpIn (fen none) 0 P _ _ a w
  refine wpIn_region_lit (vopsCutIn_sound hT j ops _ V' μ ω a w _ hS0 h ?_)
  intro o r s V1 μ1 ω1 a1 w1 hr hk hS1
  have hr2 : ops.drop (j + 1) = r := by rw [← List.drop_drop, hr]; rfl
  rw [hr2] at hk
  obtain ⟨dst, op, type, pos, after, guard⟩ := o
  unfold cCallK at hk
  split at hk
  · exact hk.elim
  rename_i hg
  dsimp only at hg
  subst hg
  split at hk
  case h_2 => exact hk.elim
  rename_i f' args ats hop
  dsimp only at hop
  subst hop
  obtain ⟨rfl, hgs, him, hk⟩ := hk
  obtain ⟨env', ⟨hk1, hk2⟩, hp1⟩ := hp.after hS1 hk
  have hJ1 := hY.grow _ _ _ _ _ hJ hS1.mem.below hS1.mem.vle hS1.mem.vok (fresh_of hS1.mem rfl)
  obtain ⟨ms, e1, e2, e3⟩ := hp1.marks
  have hvals := hS1.gets args.toList
  rw [hgs] at hvals
  have hcall := hC.run l B (keptOf ms ++ E) xs k J Jp hY hx V1 w1 (args.map a1.eval) (by rw [← hvals.1]; simp) (fun i v d h1 h2 => by
    refine immD_ri (hvals.2 i v d ?_ h2) (imms_at him i d h2)
    simpa using h1) hJ1 (keptE hp1 e1)
  unfold wpListIn
  rw [if_pos (by simp [Region.wanted])]
  refine ⟨fun _ _ => trivial, ?_⟩
  have hrun : (execOp a1.eval ⟨dst, .call ⟨.value (.func f'), args, ats⟩, type, pos, after, none⟩).run P w1 = .ok (.enter f' (args.map a1.eval)) w1 := by
    simp only [execOp, resolve, Act.eval, Deferred.ofValue, Sem.run_bind, Sem.run_pure, Result.andThen_ok]
    simp [invoke, go_sem, hC.call]
  have hsem : ∀ o, Oper.semAt (fen none).round a1.eval o = execOp a1.eval o := fun o => Oper.semAt_none _ _
  rw [hsem, hrun]
  refine ⟨(fun hh => by cases hh), ?_⟩
  refine (callsIn_wide (n := 0)).2 (hcall.mono ?_)
  rintro e W' ⟨hK, h⟩
  have hE : ∀ x ∈ E, W'.heap[x.1]? = some x.2 := fun x hx => hK x (List.mem_append_right _ hx)
  have hmk : ∀ ms' : List Nat, a1.defers = ms'.map mkD → ∀ D ∈ ms', W'.heap[D]? = some (.deferred (some [])) := fun ms' h1 D hD => by
    rw [e1] at h1
    rw [← mkD_inj h1] at hD
    exact hK (D, _) (List.mem_append_left _ (List.mem_map.2 ⟨D, hD, rfl⟩))
  rcases h with ⟨V2, hle, ⟨rfl, hJ2⟩ | ⟨rfl, hJ2⟩⟩ | ⟨c, rfl, hJp⟩
  · exact E_go hT hY hp1 hS1.mem.vle hmk hE hle hJ2 (.imm _ _ .tt) hk1
  · exact E_go hT hY hp1 hS1.mem.vle hmk hE hle hJ2 (.imm _ _ .ff) hk2
  · exact .inr ⟨c, rfl, hJp, hE, ms, e1, e2, fun D hD => ⟨(e3 D hD).1, hmk ms e1 D hD, (e3 D hD).2.2⟩⟩
theorem J_shutE {l B : Nat} {xs : List (List D)} {J : Option Nat → Vw → World → Prop} {Jp : List PanicEntry → World → Prop} {E : List (Nat × Obj)} (hY : Yields P T l B xs J Jp) (ms : List Nat) (w : World) (hn : ms.Nodup) (hd : ∀ D ∈ ms, B ≤ D ∧ w.heap[D]? = some (.deferred (some [])) ∧ ∀ x ∈ E, x.1 ≠ D) (hE : ∀ x ∈ E, w.heap[x.1]? = some x.2) :
    (∀ g V, J g V w → J g V (shut ms w)) ∧ (∀ c, Jp c w → Jp c (shut ms w)) ∧ ∀ x ∈ E, (shut ms w).heap[x.1]? = some x.2 := by
  obtain ⟨a, b⟩ := J_shut hY ms w hn (fun D hD => ⟨(hd D hD).1, (hd D hD).2.1⟩)
  refine ⟨a, b, ?_⟩
  clear a b hY
  induction ms generalizing w with
  | nil => exact hE
  | cons D ms ih =>
    obtain ⟨h1, h2⟩ := List.nodup_cons.1 hn
    refine ih (w.putObj D (.deferred none)) h2 (fun D' hD' => ⟨(hd D' (by simp [hD'])).1, (World.putObj_heap_other (r := D) (k := D') fun e => h1 (e ▸ hD')).trans (hd D' (by simp [hD'])).2.1, (hd D' (by simp [hD'])).2.2⟩) fun x hx => ?_
    exact (World.putObj_heap_other ((hd D (by simp)).2.2 x hx)).trans (hE x hx)
def yEnd (fn : Func) (m : Nat) (e : Exit) (g : Option Nat) (env : List (Nat × D)) : Prop :=
  e = .ret ∧ ∃ t, fn.results = #[.tmp t] ∧ t < fn.ntmps ∧ ((look env t = .tt ∧ g = some m) ∨ (look env t = .ff ∧ g = none))
theorem YC.of_okE {f : FuncId} {fn : Func} {c : Code} (hf : P.funcs[f]? = some fn) (hb : fn.body = some c) (hcall : ∀ args w, (callFunc f args).run P w = .ok (.enter f args) w) {ds : Nat → List D} {ys : List (List D)} {m : Nat} (hm : ∀ l, (ds l).length = m) (hn : m ≤ fn.ntmps)
    (h : ∀ l k xs, (∀ i, i < ys.length → xs[k + i]? = ys[i]?) → OkE P T l xs fn.ntmps c (yEnd fn (k + ys.length)) (some k) (envOf 0 (ds l))) : YC P T f ds ys := by
  refine ⟨hcall, fun l B E xs k J Jp hY hx V w args hl hR hJ hE => calls_of_wp_X hf hb ?_⟩
  have hst := start_sim (T := T) (fn := fn) (ds := ds l) (V := V) (w := w) (args := args) (df := []) (by rw [hm]; exact hn) (hY.vok _ _ _ hJ) hl hR
  refine wp_mono ((h l k xs hx).run B E J Jp hY V _ w hJ ⟨hst.tmps, ⟨[], rfl, List.nodup_nil, by simp⟩, hY.size _ _ _ hJ, hY.vok _ _ _ hJ, hst.env, hE⟩) ?_
  rintro e a' w' (⟨g', env', V', ⟨rfl, t, hr, ht, hg⟩, hJ', hv, hp⟩ | ⟨ch, rfl, hJp, hE', ms, e1, e2, e3⟩)
  · obtain ⟨ms, e1, e2, e3⟩ := hp.marks
    obtain ⟨k1, _, k3⟩ := J_shutE hY ms w' e2 e3 (fun x hx => (hp.kept x hx).2.1)
    show LeavesX P fn a'.tmps _ a'.defers _ w'
    rw [e1, ← List.append_nil (ms.map mkD)]
    have henv := hp.env t
    unfold slotV at henv
    rw [if_pos ht] at henv
    refine leavesX_marks (by simp) ms w' e2 (fun D hD => (e3 D hD).2.1) ⟨a'.tmps.getD t undef, ?_, k3, .inl ⟨V', hv, ?_⟩⟩
    · rw [results_eq, hr]
      simp [resOp]
    · rcases hg with ⟨hl, rfl⟩ | ⟨hl, rfl⟩
      · rw [hl] at henv
        exact .inl ⟨by rw [henv.tt_], k1 _ _ hJ'⟩
      · rw [hl] at henv
        exact .inr ⟨by rw [henv.ff_], k1 _ _ hJ'⟩
  · obtain ⟨_, k2, k3⟩ := J_shutE hY ms w' e2 e3 hE'
    show LeavesX P fn a'.tmps _ a'.defers _ w'
    rw [e1, ← List.append_nil (ms.map mkD)]
    exact leavesX_marks (by simp) ms w' e2 (fun D hD => (e3 D hD).2.1) ⟨k3, .inr ⟨ch, rfl, k2 ch hJp⟩⟩
theorem OkY.ofE {c : Code} (h : OkE P T l xs n c Q g env) : OkY P T l xs n c Q g env := by
  refine ⟨fun B J Jp hY V a w hJ hp => ?_⟩
  obtain ⟨ms, e1, e2, e3⟩ := hp.marks
  refine wp_mono (h.run B [] J Jp hY V a w hJ ⟨hp.tmps, ⟨ms, e1, e2, fun D hD => ⟨(e3 D hD).1, (e3 D hD).2, by simp⟩⟩, hp.size, hp.vok, hp.env, by simp⟩) ?_
  rintro e a' w' (⟨g', env', V', h1, h2, h3, h4⟩ | ⟨ch, rfl, hJp, _, ms, e1, e2, e3⟩)
  · obtain ⟨ms, e1, e2, e3⟩ := h4.marks
    exact .inl ⟨g', env', V', h1, h2, h4.tmps, ⟨ms, e1, e2, fun D hD => ⟨(e3 D hD).1, (e3 D hD).2.1⟩⟩, h4.size, h4.vok, h4.env⟩
  · exact .inr ⟨ch, rfl, hJp, ms, e1, e2, fun D hD => ⟨(e3 D hD).1, (e3 D hD).2.1⟩⟩
end
end Go.Vx
namespace Go.Vx
open Go.RowKit
section
variable {P : Program} {T : Tab} {Q : Exit → St → Prop}
theorem range_soundR {l0 : Nat} {r0 : Loop} {s : St} {g : Operand} {ps : Array Tmp} {assign body : Code} {f : FuncId} {cap : List D} {xs : List (List D)} {n : Nat} (L : List Nat) (nr nb : Nat) (mk : Nat → St) (I : Nat → Prop) (hI : I 0) (hs : keepK L nr nb s (· = mk 0)) (hg : (mk 0).get g = .fn f [] cap)
    (hY : YSpecI P T f cap xs I) (hmk : ∀ k, (mk k).n = n) (hps : ∀ p ∈ ps.toList, p < n)
    (round : ∀ (k : Nat) x, xs[k]? = some x → I k → x.length = ps.size ∧ inRoundK ps.toList x (mk k) fun s1 => OkR P T assign (thenQ (fun s2 => OkR P T body (fun e s3 => s3.n = n ∧ rndQ P (fun _ => True) Q L nr nb (mk (k + 1)) (I (k + 1)) e s3) s2) (fun _ _ => False)) s1)
    (done : I xs.length → Q .normal (mk xs.length)) {w0 : World} {V0 : Fr} {V : Vw} {μ : List Nat} {ω : List Value} {a : Act} {w : World} (hl0 : (l0, Obj.loop r0) ∈ V0.kp) (hS : Sim (szOf T) w0 V0 V μ ω s a w) :
    (Code.rangeFunc g ps assign body).wpIn (fen (some l0)) 0 P (fun e a' w' => ∃ s' V' μ' ω', Q e s' ∧ Sim (szOf T) w0 V0 V' μ' ω' s' a' w') a w := by
  obtain ⟨_, μ, ω, rfl, hS⟩ := keepK_sound hS hs
  clear hs
  obtain ⟨V00, gv, df, kp⟩ := V0
  have hl0w := (hS.defers.kept _ hl0).1
  refine wpIn_rangeFunc ?_
  intro fn hfn
  obtain ⟨rec, hrec⟩ : ∃ rec : LoopState → Option Code → Loop, rec = fun st pe => { state := st, pending := pe, fn, tmps := a.tmps, params := ps, assign, body, defers := r0.defers } := ⟨_, rfl⟩
  obtain ⟨W1, hW1⟩ : ∃ W1, w.alloc (.loop (rec .ready none)) = W1 := ⟨_, rfl⟩
  obtain ⟨a', ha'⟩ : ∃ a' : Act, a' = a := ⟨_, rfl⟩
  obtain ⟨l, hl⟩ : ∃ l, l = w.heap.size := ⟨_, rfl⟩
  have hL1 : W1.heap[l]? = some (.loop (rec .ready none)) := by
    rw [← hW1, hl]; exact World.alloc_heap_new w _
  have hx1 : Ext w W1 := by
    rw [← hW1]; exact Ext.alloc w _
  obtain ⟨ms0, e1, e2, e3⟩ := hS.defers.marks
  have hsz0 := hS.mem.below.size
  have hkl : ∀ x ∈ kp, x.1 < w.heap.size := fun x hx => (Array.getElem?_eq_some_iff.1 (hS.defers.kept x hx).1).1
  have hml : ∀ D ∈ ms0, D < w.heap.size := fun D hD => (Array.getElem?_eq_some_iff.1 (e3 D hD).1).1
  obtain ⟨msA, hmsA⟩ : ∃ msA, msA = ms0 := ⟨_, rfl⟩
  have hda : a'.defers = msA.map mkD ++ df := by rw [ha', hmsA]; simp [e1]
  have hmn : msA.Nodup := by rw [hmsA]; exact e2
  have hm2 : ∀ D ∈ msA, w0.heap.size ≤ D ∧ (∀ y ∈ kp, y.1 ≠ D) ∧ l ≠ D := by
    intro D hD
    rw [hmsA] at hD
    exact ⟨(e3 D hD).2.1, (e3 D hD).2.2, by have := hml D hD; omega⟩
  have hlk : ∀ x ∈ kp, x.1 ≠ l := fun x hx => by have := hkl x hx; omega
  have htm : a'.tmps = a.tmps := by rw [ha']
  have hns : a'.tmps.size = n := by rw [htm, hS.tmps, hmk]
  have noL : ∀ r, noC (.loop r) := fun r _ _ _ e => by cases e
  have hS1 : Sim (szOf T) w0 ⟨V00, gv, df, (l, .loop (rec .ready none)) :: kp⟩ V μ ω (mk 0) a' W1 := by
    have h := hS.ext hx1
    refine ⟨by rw [htm]; exact h.tmps, ⟨⟨msA, hda, hmn, fun D hD => ⟨?_, (hm2 D hD).1, fun x hx => ?_⟩⟩, fun x hx => ?_⟩, fun t => ?_, h.mem.fr rfl⟩
    · rw [hmsA] at hD
      exact hx1.heap (e3 D hD).1
    · rcases List.mem_cons.1 hx with rfl | hx
      · exact (hm2 D hD).2.2
      · exact (hm2 D hD).2.1 x hx
    · rcases List.mem_cons.1 hx with rfl | hx
      · exact ⟨hL1, noL _, by show w0.heap.size ≤ l; omega⟩
      · exact h.defers.kept x hx
    · have := h.env t
      unfold slotV at this ⊢
      rw [htm]
      exact this
  obtain ⟨us, hev, hus, hri⟩ := (by have := hS1.get g; rw [hg] at this; exact this.fn_ : ∃ us : Array Value, a'.eval g = .func (.func f) #[] us ∧ us.size = cap.length ∧ ∀ (j : Nat) v d, us[j]? = some v → cap[j]? = some d → RI (szOf T) V v d)
  have hev : a.eval g = .func (.func f) #[] us := by rw [← hev]; cases g <;> simp [Act.eval, htm]
  obtain ⟨J, hJ⟩ : ∃ J : Option Nat → Vw → World → Prop, J = fun k V W => match k with
    | some k => I k ∧ ∃ μ ω, Sim (szOf T) w0 ⟨V00, gv, df, (l, .loop (rec .ready none)) :: kp⟩ V μ ω (mk k) a' W
    | none => ∃ c s' μ ω, ((c = Code.ret ∧ Q .ret s') ∨ ∃ id, c = Code.exit id ∧ Q (.exit id) s') ∧ Sim (szOf T) w0 ⟨V00, gv, df, (l, .loop (rec .done (some c))) :: kp⟩ V μ ω s' a' W := ⟨_, rfl⟩
  obtain ⟨Jp, hJp⟩ : ∃ Jp : List PanicEntry → World → Prop, Jp = fun c W => ∃ s' V' μ' ω', Q (.panic c) s' ∧ Sim (szOf T) w0 ⟨V00, gv, df, kp⟩ V' μ' ω' s' a' W := ⟨_, rfl⟩
  have hYl : Yields P T l W1.heap.size xs J Jp := by
    have hBl : l < W1.heap.size := (Array.getElem?_eq_some_iff.1 hL1).1
    have hBm : ∀ (D : Nat), W1.heap.size ≤ D → ∀ ms : List Nat, a'.defers = ms.map mkD ++ df → D ∉ ms := fun D hD ms hm hin => by
      rw [hda] at hm
      rw [← mkD_inj (List.append_cancel_right hm), hmsA] at hin
      have hws := hx1.size
      have := hml D hin; omega
    have hBk : ∀ (D : Nat), W1.heap.size ≤ D → ∀ (r : Loop), ∀ x ∈ ((l, Obj.loop r) :: kp), x.1 ≠ D := fun D hD r x hx e => by
      have hws := hx1.size
      rcases List.mem_cons.1 hx with rfl | hx
      · dsimp only at e; omega
      · have := hkl x hx; omega
    have hB0 : ∀ (D : Nat), W1.heap.size ≤ D → w0.heap.size ≤ D := fun D hD => by have := hx1.size; omega
    refine ⟨fun k V W h => ?_, fun k V W h => ?_, fun k V V' W W' h he hV hok hn => ?_, fun k V W D h hD hh => ?_, fun c W D h hD hh => ?_, fun k x V W vs hx h hvl hvr E hE => ?_⟩
    · subst hJ
      cases k with
      | some k => obtain ⟨_, μ, ω, h⟩ := h; exact h.mem.vok
      | none => obtain ⟨c, s', μ, ω, _, h⟩ := h; exact h.mem.vok
    · subst hJ
      have hBs : W1.heap.size = l + 1 := by rw [← hW1, hl]; simp
      have key : ∀ {r : Loop} {W : World}, W.heap[l]? = some (.loop r) → W1.heap.size ≤ W.heap.size := fun h => by have := (Array.getElem?_eq_some_iff.1 h).1; omega
      cases k with
      | some k => obtain ⟨_, μ, ω, h⟩ := h; exact key (h.defers.kept _ (List.mem_cons_self)).1
      | none => obtain ⟨c, s', μ, ω, _, h⟩ := h; exact key (h.defers.kept _ (List.mem_cons_self)).1
    · subst hJ
      cases k with
      | some k => obtain ⟨hik, μ, ω, h⟩ := h; exact ⟨hik, μ, ω, h.grow he hV hok hn⟩
      | none => obtain ⟨c, s', μ, ω, hc, h⟩ := h; exact ⟨c, s', μ, ω, hc, h.grow he hV hok hn⟩
    · subst hJ
      cases k with
      | some k => obtain ⟨hik, μ, ω, h⟩ := h; exact ⟨hik, μ, ω, h.putOld _ hh (fun _ _ _ e => by cases e) (hB0 D hD) (hBk D hD _) (hBm D hD)⟩
      | none => obtain ⟨c, s', μ, ω, hc, h⟩ := h; exact ⟨c, s', μ, ω, hc, h.putOld _ hh (fun _ _ _ e => by cases e) (hB0 D hD) (hBk D hD _) (hBm D hD)⟩
    · subst hJp
      obtain ⟨s', V', μ', ω', hq, h⟩ := h
      exact ⟨s', V', μ', ω', hq, h.putOld _ hh (fun _ _ _ e => by cases e) (hB0 D hD) (fun x hx => hBk D hD (rec .ready none) x (List.mem_cons_of_mem _ hx)) (hBm D hD)⟩
    · have h' : I k ∧ ∃ μ ω, Sim (szOf T) w0 ⟨V00, gv, df, (l, .loop (rec .ready none)) :: kp⟩ V μ ω (mk k) a' W := by rw [hJ] at h; exact h
      obtain ⟨hik, μ, ω, hS⟩ := h'
      obtain ⟨hxl, hround⟩ := round k x hx hik
      have hlW := (hS.defers.kept (l, .loop (rec .ready none)) (by simp)).1
      have hy := run_yield (P := P) (args := vs.toArray) hlW (by rw [hrec]; simp [hvl, hxl])
      rw [hrec] at hy
      rw [zip_fold] at hy
      refine ⟨fn, _, assign, body, hy, ?_⟩
      clear hy
      have hV0 : VLe V00 V := hS.mem.vle
      have hVo : ∀ p, p.block < w0.heap.size → V p = V00 p := hS.mem.vold
      obtain ⟨gv2, hgv2⟩ : ∃ gv2 : Nat → Value, gv2 = fun t => slotV ⟨V00, gv, df, kp⟩ n a' (t - n) := ⟨_, rfl⟩
      obtain ⟨R2, hR2⟩ : ∃ R2, R2 = kp ++ keptOf msA ++ E := ⟨_, rfl⟩
      have hRk : ∀ x ∈ R2, x.1 ≠ l := fun x hx => by
        rw [hR2] at hx
        rcases List.mem_append.1 hx with hx | hx
        · rcases List.mem_append.1 hx with hx | hx
          · exact hlk x hx
          · obtain ⟨D, hD, rfl⟩ := List.mem_map.1 hx; exact fun e => (hm2 D hD).2.2 e.symm
        · have := (hE x hx).1
          have := (Array.getElem?_eq_some_iff.1 hL1).1
          omega
      have hmk' := hmk k
      obtain ⟨env, box, row, n', hmkk⟩ : ∃ env box row n', mk k = ⟨env, box, row, n'⟩ := ⟨_, _, _, _, rfl⟩
      rw [hmkk] at hround hS hmk'
      dsimp only at hmk'
      subst hmk'
      simp only [inRoundK, shE_eq] at hround
      have hround := cutE_eq _ _ _ hround
      rw [catK_eq] at hround
      obtain ⟨env', hk, hsz', henv'⟩ := putPs_sound (F := ⟨V, gv2, [], (l, .loop (rec .ready none)) :: R2⟩) (μ := μ) (ω := ω) ps.toList x _ { tmps := a.tmps, defers := [] } vs _ hps (by rw [← htm]; exact hns) hvl (fun j v d h1 h2 => .imm _ _ (hvr j v d h1 h2))
        (by rw [← htm]; exact look_round hS.env (fun t => by rw [hgv2]; rfl) []) hround
      have hmarks : ∀ D ∈ msA, W.heap[D]? = some (.deferred (some [])) := by
        obtain ⟨ms', f1, f2, f3⟩ := hS.defers.marks
        have f1 : a'.defers = ms'.map mkD ++ df := f1
        rw [hda] at f1
        have := mkD_inj (List.append_cancel_right f1)
        rw [this]
        exact fun D hD => (f3 D hD).1
      have hSr : Sim (szOf T) w0 ⟨V, gv2, [], (l, .loop (rec .ready none)) :: R2⟩ V μ ω ⟨env', box, row, n'⟩ { tmps := List.foldl (fun tmps (x : Nat × Value) => tmps.setIfInBounds x.1 x.2) a.tmps (ps.toList.zip vs), defers := [] } W := by
        refine ⟨hsz', ⟨⟨[], rfl, List.nodup_nil, by simp⟩, fun x hx => ?_⟩, henv', hS.mem.rebase rfl⟩
        rcases List.mem_cons.1 hx with rfl | hx
        · exact hS.defers.kept _ (by simp)
        · rw [hR2] at hx
          rcases List.mem_append.1 hx with hx | hx
          · rcases List.mem_append.1 hx with hx | hx
            · exact hS.defers.kept _ (List.mem_cons_of_mem _ hx)
            · obtain ⟨D, hD, rfl⟩ := List.mem_map.1 hx
              exact ⟨hmarks D hD, (fun _ _ _ e => by cases e), (hm2 D hD).1⟩
          · have := hx1.size
            exact ⟨(hE x hx).2.1, (hE x hx).2.2, by have := (hE x hx).1; omega⟩
      have keepE : ∀ {r : Loop} {V' : Vw} {μ' : List Nat} {ω' : List Value} {s3 : St} {a3 : Act} {W3 : World}, Sim (szOf T) w0 ⟨V, gv2, [], (l, .loop r) :: R2⟩ V' μ' ω' s3 a3 W3 → ∀ x ∈ E, W3.heap[x.1]? = some x.2 := fun h x hx =>
        (h.defers.kept x (List.mem_cons_of_mem _ (by rw [hR2]; exact List.mem_append_right _ hx))).1
      have back : ∀ {r : Loop} {V' : Vw} {μ' : List Nat} {ω' : List Value} {s3 : St} {a3 : Act} {W3 : World} {K : St → Prop}, Sim (szOf T) w0 ⟨V, gv2, [], (l, .loop r) :: R2⟩ V' μ' ω' s3 a3 W3 → s3.n = n' → offRoundK s3 K →
          ∃ s2, K s2 ∧ s2.n = n' ∧ Sim (szOf T) w0 ⟨V00, gv, df, (l, .loop r) :: kp⟩ V' μ' ω' s2 a' W3 := fun h hn hK =>
        h.offRound rfl (fun t => by rw [hgv2]) (by rw [hR2]) hV0 hVo hns hda hmn (fun D hD => hm2 D hD) hn hK
      refine roundIn_of (wpIn_mono (hk.run l w0 _ V μ ω _ W ⟨_, List.mem_cons_self⟩ hSr) ?_)
      rintro e a1 W1' ⟨s2, V2, μ2, ω2, hq, hS2⟩
      cases e with
      | normal =>
        have hl2 := (hS2.defers.kept (l, .loop (rec .ready none)) (by simp)).1
        have hS3 := hS2.turn (.loop { rec .ready none with state := .busy }) hRk (noL _)
        refine ⟨_, run_beginRound hl2 (by rw [hrec]), wpIn_mono (OkR.run hq l w0 _ V2 μ2 ω2 a1 _ ⟨_, List.mem_cons_self⟩ hS3) ?_⟩
        rintro e a2 W2 ⟨s3, V3, μ3, ω3, ⟨hn3, hq3⟩, hS4⟩
        have hl4 := (hS4.defers.kept (l, .loop { rec .ready none with state := .busy }) (by simp)).1
        cases e with
        | normal =>
          obtain ⟨hik1, hq3⟩ := hq3
          have hq3 : offRoundK s3 (fun s' => keepK L nr nb s' (· = mk (k + 1))) := hq3
          have hS5 := hS4.turn (.loop (rec .ready none)) hRk (noL _)
          obtain ⟨s4, hk4, _, hS6⟩ := back hS5 hn3 hq3
          obtain ⟨_, μ5, ω5, rfl, hS7⟩ := keepK_sound hS6 hk4
          refine ⟨_, W2.putObj l (.loop (rec .ready none)), by have := run_endRound (P := P) none hl4; rw [hrec] at this ⊢; exact this, keepE hS5, .inl ⟨V3, hS4.mem.vle, .inl ⟨rfl, ?_⟩⟩⟩
          rw [hJ]
          exact ⟨hik1, μ5, ω5, hS7⟩
        | ret =>
          have hq3 : offRoundK s3 (Q .ret) := hq3
          have hS5 := hS4.turn (.loop (rec .done (some .ret))) hRk (noL _)
          obtain ⟨s4, hk4, _, hS6⟩ := back hS5 hn3 hq3
          refine ⟨_, W2.putObj l (.loop (rec .done (some .ret))), by have := run_endRound (P := P) (some .ret) hl4; rw [hrec] at this ⊢; exact this, keepE hS5, .inl ⟨V3, hS4.mem.vle, .inr ⟨rfl, ?_⟩⟩⟩
          rw [hJ]
          exact ⟨_, s4, μ3, ω3, .inl ⟨rfl, hk4⟩, hS6⟩
        | exit id =>
          have hq3 : offRoundK s3 (Q (.exit id)) := hq3
          have hS5 := hS4.turn (.loop (rec .done (some (.exit id)))) hRk (noL _)
          obtain ⟨s4, hk4, _, hS6⟩ := back hS5 hn3 hq3
          refine ⟨_, W2.putObj l (.loop (rec .done (some (.exit id)))), by have := run_endRound (P := P) (some (.exit id)) hl4; rw [hrec] at this ⊢; exact this, keepE hS5, .inl ⟨V3, hS4.mem.vle, .inr ⟨rfl, ?_⟩⟩⟩
          rw [hJ]
          exact ⟨_, s4, μ3, ω3, .inr ⟨id, rfl, hk4⟩, hS6⟩
        | panic c =>
          obtain ⟨hval, hq3⟩ := hq3
          obtain ⟨fn', hfn'⟩ := Option.isSome_iff_exists.1 (hval fn trivial)
          obtain ⟨ms2, f1, f2, f3, hS5⟩ := hS4.shut
          obtain ⟨s4, hk4, _, hS6⟩ := back hS5 hn3 hq3
          refine ⟨fn', hfn', ?_⟩
          rw [f1]
          refine leavesX_marks (by simp) ms2 W2 f2 f3 ⟨rfl, keepE hS5, .inr ⟨c, rfl, ?_⟩⟩
          rw [hJp]
          exact ⟨s4, V3, μ3, ω3, hk4, hS6.unkeep⟩
        | goto t => exact hq3.elim
        | outgrown => exact hq3.elim
      | _ => exact hq.elim
  refine ⟨l, [], W1, { target := .fn (.func f) us, args := #[.func (.yield l) #[] #[]] }, W1, f, #[.func (.yield l) #[] #[]] ++ us, W1, ?_, ?_, fun _ _ => trivial, ?_, (fun hh => by cases hh), (callsIn_wide (n := 0)).2 ?_⟩
  · rw [← hW1, hrec, hl]; exact run_enterLoop_inner hl0w _ _ _ _ _
  · simp only [resolve, hev]
    simp [go_sem]
  · simp [invoke, go_sem, hY.call]
  · refine (hY.run V W1 us hus hri l J Jp hYl (fun k V W h => by rw [hJ] at h; exact h.1) (by rw [hJ]; exact ⟨hI, μ, ω, hS1⟩)).mono ?_
    have haa : ({ a with defers := [] ++ a.defers } : Act) = a' := by rw [ha']; rfl
    rw [haa]
    rintro e w' (⟨⟨v, rfl⟩, V', h⟩ | ⟨c, rfl, h⟩)
    · rw [hJ] at h
      rcases h with ⟨hik, μ', ω', hS'⟩ | ⟨c, s', μ', ω', hc, hS'⟩
      · have hl' := (hS'.defers.kept (l, .loop (rec .ready none)) (by simp)).1
        refine ⟨none, _, by have := run_endLoop (P := P) hl' (by rw [hrec]; simp); rw [hrec] at this; exact this, ?_⟩
        exact ⟨_, V', μ', ω', done hik, (hS'.turn _ hlk (noL _)).unkeep⟩
      · have hl' := (hS'.defers.kept (l, .loop (rec .done (some c))) (by simp)).1
        refine ⟨some c, _, by have := run_endLoop (P := P) hl' (by rw [hrec]; simp); rw [hrec] at this; exact this, ?_⟩
        have hS2 := (hS'.turn (.loop { rec .done (some c) with state := .exhausted }) hlk (noL _)).unkeep
        rw [hrec] at hS2
        rcases hc with ⟨rfl, hq⟩ | ⟨id, rfl, hq⟩
        · exact wpIn_ret ⟨_, V', μ', ω', hq, hS2⟩
        · exact wpIn_exit ⟨_, V', μ', ω', hq, hS2⟩
    · rw [hJp] at h
      obtain ⟨s', V', μ', ω', hq, hS'⟩ := h
      exact ⟨s', V', μ', ω', hq, hS'⟩
theorem OkR.range {s : St} {g : Operand} {ps : Array Tmp} {assign body : Code} {f : FuncId} {cap : List D} {xs : List (List D)} {n : Nat} (L : List Nat) (nr nb : Nat) (mk : Nat → St) (I : Nat → Prop) (hI : I 0) (hs : keepK L nr nb s (· = mk 0)) (hg : (mk 0).get g = .fn f [] cap)
    (hY : YSpec P T f cap xs) (hmk : ∀ k, (mk k).n = n) (hps : ∀ p ∈ ps.toList, p < n)
    (round : ∀ (k : Nat) x, xs[k]? = some x → I k → x.length = ps.size ∧ inRoundK ps.toList x (mk k) fun s1 => OkR P T assign (thenQ (fun s2 => OkR P T body (fun e s3 => s3.n = n ∧ rndQ P (fun _ => True) Q L nr nb (mk (k + 1)) (I (k + 1)) e s3) s2) (fun _ _ => False)) s1)
    (done : I xs.length → Q .normal (mk xs.length)) : OkR P T (.rangeFunc g ps assign body) Q s :=
  ⟨fun _ _ _ _ _ _ _ _ ⟨_, hl⟩ hS => range_soundR L nr nb mk I hI hs hg (hY.toI I) hmk hps round done hl hS⟩
end
end Go.Vx
namespace Go.Vx
open Go.RowKit
def planG (ops : Array Oper) (A : Waits) (i : Nat) (mvs2 : List Mv) : List Mv → Array Bool → Bool
  | [], listed => (Region.ready .any ops listed) == [i] && planB ops mvs2 (listed.setIfInBounds i true)
  | .q i' :: r, listed => befW A i' i && (Region.ready .any ops listed).contains i' && Region.free .any ops listed i' && ((ops[i']?).map isQ).getD false && planG ops A i mvs2 r (listed.setIfInBounds i' true)
  | .l i' :: r, listed => (Region.ready .any ops listed) == [i'] && planG ops A i mvs2 r (listed.setIfInBounds i' true)
def planGOk (ops : Array Oper) (A : Waits) (mvs : List Mv) (i : Nat) (mvs2 : List Mv) : Bool :=
  Region.noSelect ops && waitsB ops A && (mvs.length + (mvs2.length + 1) == ops.size) && planG ops A i mvs2 mvs (Array.replicate ops.size false)
theorem filterP_sub (bef : Nat → Nat → Bool) (i : Nat) : ∀ (l : List (Nat × Src)) (x : Nat × Src), x ∈ filterP bef i l → x ∈ l
  | [], x, h => by simp [filterP] at h
  | (k, c) :: r, x, h => by
    simp only [filterP] at h
    split at h
    · exact List.mem_cons_of_mem _ (filterP_sub bef i r x h)
    · rcases List.mem_cons.1 h with rfl | h
      · simp
      · exact List.mem_cons_of_mem _ (filterP_sub bef i r x h)
theorem All2.left' {α β : Type} {R : α → β → Prop} {l : List α} {m : List β} (h : All2 R l m) : ∀ x ∈ l, ∃ y ∈ m, R x y := by
  induction h with
  | nil => simp
  | cons hab _ ih =>
    intro x hx
    rcases List.mem_cons.1 hx with rfl | hx
    · exact ⟨_, List.mem_cons_self, hab⟩
    · obtain ⟨y, h1, h2⟩ := ih x hx
      exact ⟨y, List.mem_cons_of_mem _ h1, h2⟩
section
variable {w0 w w' : World} {V0 : Fr} {V : Vw} {μ : List Nat} {ω : List Value} {s : St} {a : Act} {P : Program} {T : Tab}
theorem dopsW_sound (hT : TOk P T) {ops : List Oper} {A : Waits} (hns : Region.noSelect ops.toArray = true) (hA : waitsB ops.toArray A = true) {Q : Exit → Act → World → Prop} (hQ : ∀ c dst v a w, Q (.panic c) (Act.put a dst v) w → Q (.panic c) a w) :
    ∀ (mvs : List Mv) (listed : Array Bool) (ps : Pends) (sps : List (Nat × Src)) (s : St) (V : Vw) (μ : List Nat) (ω : List Value) (a : Act) (w : World) (K : St → Prop),
      planB ops.toArray mvs listed = true → Closed ops.toArray listed → Sim (szOf T) w0 V0 V μ ω s a w → All2 (PendOK V μ ω w) ps sps → dops P T ops A mvs sps s K →
      (∀ s V μ ω a w, K s → Sim (szOf T) w0 V0 V μ ω s a w → Q .normal a w) → wpAnyP P ops.toArray (befW A) Q mvs.length ps listed a w
  | [], listed, ps, sps, s, V, μ, ω, a, w, K, hB, hcl, hS, hps, h, hq => ⟨by simpa [planB] using hB, hq _ _ _ _ _ _ h hS⟩
  | .q i :: r, listed, ps, sps, s, V, μ, ω, a, w, K, hB, hcl, hS, hps, h, hq => by
    simp only [planB, Bool.and_eq_true] at hB
    obtain ⟨⟨⟨hr, hf⟩, hq1⟩, hB⟩ := hB
    simp only [dops] at h
    cases ho : ops[i]? with
    | none => rw [ho] at h; exact h.elim
    | some o =>
      rw [ho] at h
      dsimp only at h
      have ho' : ops.toArray[i]? = some o := by simpa using ho
      rw [ho'] at hq1
      have hri : i ∈ Region.ready .any ops.toArray listed := by simpa using hr
      have hall : ∀ x ∈ ps, x.2 w := fun x hx => let ⟨y, hy⟩ := hps.left x hx; hy.mono_
      rcases wantK_sound (o := o) hS h with ⟨hw, s1, h, hS⟩ | ⟨hw, s1, h, hS⟩
      · obtain ⟨d, v, s2, h, hr2, hS2, p, n, hsrc, hq2⟩ := qop_sound hT hS h
        obtain ⟨s3, h, hS3⟩ := putK_sound hS2 hr2 h
        refine wpAnyP_first (C := KeepN p n w) (v := v) (fun i j => befW_spec hA i j) ho' (Region.noSelect_spec hns) (fun c a w hc => hQ _ _ _ _ _ hc) r.length ps listed a w hcl (Region.free_spec ho' hf) hri
          (.inl ⟨hw, fun w' hk => quiet_value (by simpa using hq1) (hq2 w' ?_)⟩) (fun _ _ _ h => h) hall ?_
        · unfold QR
          split
          · exact hk
          · rename_i heq; simp [isQ, heq] at hq1
          · rename_i heq; simp [isQ, heq] at hq1
          · trivial
        · exact dopsW_sound hT hns hA hQ r _ _ _ s3 V μ ω _ w K hB (hcl.set hri) hS3 (.cons ⟨rfl, p, n, w, rfl, hsrc, fun _ _ _ h => h⟩ hps) h hq
      · obtain ⟨s3, h, hS3⟩ := putK_sound hS (v := undef) (d := .tup []) (RS.tup [] #[] rfl (fun j v d h => by simp at h)) h
        refine wpAnyP_first (C := KeepN ⟨0, 0, none⟩ 0 w) (v := undef) (fun i j => befW_spec hA i j) ho' (Region.noSelect_spec hns) (fun c a w hc => hQ _ _ _ _ _ hc) r.length ps listed a w hcl (Region.free_spec ho' hf) hri
          (.inr ⟨hw, rfl⟩) (fun _ _ _ h => h) hall ?_
        exact dopsW_sound hT hns hA hQ r _ _ _ s3 V μ ω _ w K hB (hcl.set hri) hS3 (.cons ⟨rfl, ⟨0, 0, none⟩, 0, w, rfl, SrcP.zero _, fun _ _ _ h => h⟩ hps) h hq
  | .l i :: r, listed, ps, sps, s, V, μ, ω, a, w, K, hB, hcl, hS, hps, h, hq => by
    simp only [planB, Bool.and_eq_true, beq_iff_eq] at hB
    obtain ⟨hr, hB⟩ := hB
    simp only [dops] at h
    cases ho : ops[i]? with
    | none => rw [ho] at h; exact h.elim
    | some o =>
      rw [ho] at h
      dsimp only at h
      have ho' : ops.toArray[i]? = some o := by simpa using ho
      have hri : i ∈ Region.ready .any ops.toArray listed := by rw [hr]; simp
      refine ⟨fun h0 => (by rw [hr] at h0; cases h0), fun j hj => ?_⟩
      rw [hr] at hj
      have hji : j = i := by simpa using hj
      subst hji
      unfold wpOp
      rw [ho']
      dsimp only
      rcases wantK_sound (o := o) hS h with ⟨hw, s1, h, hS⟩ | ⟨hw, s1, h, hS⟩
      · rw [if_pos hw]
        obtain ⟨h, hst⟩ := clearK_step hS.mem hps h
        refine .inl (dop_sound hT hS h _ _ fun d v s2 V2 μ2 ω2 w2 hk hr2 hS2 hstep => ?_)
        obtain ⟨h1, h2⟩ := hst _ _ _ _ hstep
        obtain ⟨s3, h, hS3⟩ := putK_sound hS2 hr2 hk
        exact ⟨h1, dopsW_sound hT hns hA hQ r _ _ _ s3 _ _ _ _ w2 K hB (hcl.set hri) hS3 h2 h hq⟩
      · rw [if_neg (by rw [hw]; simp)]
        obtain ⟨s3, h, hS3⟩ := putK_sound hS (v := undef) (d := .tup []) (RS.tup [] #[] rfl (fun j v d h => by simp at h)) h
        exact ⟨fun x hx _ => let ⟨y, hy⟩ := hps.left x hx; hy.mono_, dopsW_sound hT hns hA hQ r _ _ _ s3 _ _ _ _ w K hB (hcl.set hri) hS3 (hps.filter fun _ _ h => h.1) h hq⟩
theorem dopsG_sound (hT : TOk P T) {ops : List Oper} {A : Waits} (hns : Region.noSelect ops.toArray = true) (hA : waitsB ops.toArray A = true) {Q : Exit → Act → World → Prop} (hQ : ∀ c dst v a w, Q (.panic c) (Act.put a dst v) w → Q (.panic c) a w) {i0 : Nat} {mvs2 : List Mv} :
    ∀ (mvs : List Mv) (listed : Array Bool) (ps : Pends) (sps : List (Nat × Src)) (s : St) (V : Vw) (μ : List Nat) (ω : List Value) (a : Act) (w : World) (K : St → Prop),
      planG ops.toArray A i0 mvs2 mvs listed = true → (∀ x ∈ sps, befW A x.1 i0 = true) → Closed ops.toArray listed → Sim (szOf T) w0 V0 V μ ω s a w → All2 (PendOK V μ ω w) ps sps → dops P T ops A mvs sps s K →
      (∀ s V μ ω a w listed', K s → Sim (szOf T) w0 V0 V μ ω s a w → Closed ops.toArray listed' → planB ops.toArray mvs2 listed' = true → wpOp P ops.toArray Q i0 (wpAnyP P ops.toArray (befW A) Q mvs2.length [] listed') a w) → wpAnyP P ops.toArray (befW A) Q (mvs.length + (mvs2.length + 1)) ps listed a w
  | [], listed, ps, sps, s, V, μ, ω, a, w, K, hB, hsp, hcl, hS, hps, h, hq => by
    simp only [planG, Bool.and_eq_true, beq_iff_eq] at hB
    obtain ⟨hB, hB2⟩ := hB
    rw [List.length_nil, Nat.zero_add]
    refine ⟨fun h0 => (by rw [hB] at h0; cases h0), fun j hj => ?_⟩
    have hj2 := hj
    rw [hB] at hj
    have hji : j = i0 := by simpa using hj
    subst hji
    have hall : ∀ x ∈ ps, befW A x.1 j = true := fun x hx => by
      obtain ⟨y, hy1, hy2⟩ := All2.left' hps x hx
      obtain ⟨e, _⟩ := hy2
      rw [e]
      exact hsp y hy1
    refine wpOp_mono (fun a' w' h' => ⟨fun x hx hf => ?_, ?_⟩) (hq s V μ ω a w _ h hS (hcl.set hj2) hB2)
    · rw [hall x hx] at hf; cases hf
    · have : ps.filter (fun x => !befW A x.1 j) = [] := List.filter_eq_nil_iff.2 fun x hx => by simp [hall x hx]
      rw [this]
      exact h'
  | .q i :: r, listed, ps, sps, s, V, μ, ω, a, w, K, hB, hsp, hcl, hS, hps, h, hq => by
    simp only [planG, Bool.and_eq_true] at hB
    obtain ⟨⟨⟨⟨hbi, hr⟩, hf⟩, hq1⟩, hB⟩ := hB
    have hspc : ∀ (c : Src) (x : Nat × Src), x ∈ (i, c) :: sps → befW A x.1 i0 = true := fun c x hx => by
      rcases List.mem_cons.1 hx with rfl | hx
      · exact hbi
      · exact hsp x hx
    simp only [dops] at h
    rw [List.length_cons, show r.length + 1 + (mvs2.length + 1) = (r.length + (mvs2.length + 1)) + 1 by omega]
    cases ho : ops[i]? with
    | none => rw [ho] at h; exact h.elim
    | some o =>
      rw [ho] at h
      dsimp only at h
      have ho' : ops.toArray[i]? = some o := by simpa using ho
      rw [ho'] at hq1
      have hri : i ∈ Region.ready .any ops.toArray listed := by simpa using hr
      have hall : ∀ x ∈ ps, x.2 w := fun x hx => let ⟨y, hy⟩ := hps.left x hx; hy.mono_
      rcases wantK_sound (o := o) hS h with ⟨hw, s1, h, hS⟩ | ⟨hw, s1, h, hS⟩
      · obtain ⟨d, v, s2, h, hr2, hS2, p, n, hsrc, hq2⟩ := qop_sound hT hS h
        obtain ⟨s3, h, hS3⟩ := putK_sound hS2 hr2 h
        refine wpAnyP_first (C := KeepN p n w) (v := v) (fun i j => befW_spec hA i j) ho' (Region.noSelect_spec hns) (fun c a w hc => hQ _ _ _ _ _ hc) _ ps listed a w hcl (Region.free_spec ho' hf) hri
          (.inl ⟨hw, fun w' hk => quiet_value (by simpa using hq1) (hq2 w' ?_)⟩) (fun _ _ _ h => h) hall ?_
        · unfold QR
          split
          · exact hk
          · rename_i heq; simp [isQ, heq] at hq1
          · rename_i heq; simp [isQ, heq] at hq1
          · trivial
        · exact dopsG_sound hT hns hA hQ r _ _ _ s3 V μ ω _ w K hB (hspc _) (hcl.set hri) hS3 (.cons ⟨rfl, p, n, w, rfl, hsrc, fun _ _ _ h => h⟩ hps) h hq
      · obtain ⟨s3, h, hS3⟩ := putK_sound hS (v := undef) (d := .tup []) (RS.tup [] #[] rfl (fun j v d h => by simp at h)) h
        refine wpAnyP_first (C := KeepN ⟨0, 0, none⟩ 0 w) (v := undef) (fun i j => befW_spec hA i j) ho' (Region.noSelect_spec hns) (fun c a w hc => hQ _ _ _ _ _ hc) _ ps listed a w hcl (Region.free_spec ho' hf) hri
          (.inr ⟨hw, rfl⟩) (fun _ _ _ h => h) hall ?_
        exact dopsG_sound hT hns hA hQ r _ _ _ s3 V μ ω _ w K hB (hspc _) (hcl.set hri) hS3 (.cons ⟨rfl, ⟨0, 0, none⟩, 0, w, rfl, SrcP.zero _, fun _ _ _ h => h⟩ hps) h hq
  | .l i :: r, listed, ps, sps, s, V, μ, ω, a, w, K, hB, hsp, hcl, hS, hps, h, hq => by
    simp only [planG, Bool.and_eq_true, beq_iff_eq] at hB
    obtain ⟨hr, hB⟩ := hB
    have hspf : ∀ x ∈ filterP (befW A) i sps, befW A x.1 i0 = true := fun x hx => hsp x (filterP_sub _ _ _ x hx)
    simp only [dops] at h
    rw [List.length_cons, show r.length + 1 + (mvs2.length + 1) = (r.length + (mvs2.length + 1)) + 1 by omega]
    cases ho : ops[i]? with
    | none => rw [ho] at h; exact h.elim
    | some o =>
      rw [ho] at h
      dsimp only at h
      have ho' : ops.toArray[i]? = some o := by simpa using ho
      have hri : i ∈ Region.ready .any ops.toArray listed := by rw [hr]; simp
      refine ⟨fun h0 => (by rw [hr] at h0; cases h0), fun j hj => ?_⟩
      rw [hr] at hj
      have hji : j = i := by simpa using hj
      subst hji
      unfold wpOp
      rw [ho']
      dsimp only
      rcases wantK_sound (o := o) hS h with ⟨hw, s1, h, hS⟩ | ⟨hw, s1, h, hS⟩
      · rw [if_pos hw]
        obtain ⟨h, hst⟩ := clearK_step hS.mem hps h
        refine .inl (dop_sound hT hS h _ _ fun d v s2 V2 μ2 ω2 w2 hk hr2 hS2 hstep => ?_)
        obtain ⟨h1, h2⟩ := hst _ _ _ _ hstep
        obtain ⟨s3, h, hS3⟩ := putK_sound hS2 hr2 hk
        exact ⟨h1, dopsG_sound hT hns hA hQ r _ _ _ s3 _ _ _ _ w2 K hB hspf (hcl.set hri) hS3 h2 h hq⟩
      · rw [if_neg (by rw [hw]; simp)]
        obtain ⟨s3, h, hS3⟩ := putK_sound hS (v := undef) (d := .tup []) (RS.tup [] #[] rfl (fun j v d h => by simp at h)) h
        exact ⟨fun x hx _ => let ⟨y, hy⟩ := hps.left x hx; hy.mono_, dopsG_sound hT hns hA hQ r _ _ _ s3 _ _ _ _ w K hB hspf (hcl.set hri) hS3 (hps.filter fun _ _ h => h.1) h hq⟩
end
section
variable {P : Program} {T : Tab} {l : Nat} {xs : List (List D)} {n : Nat} {Q : Exit → Option Nat → List (Nat × D) → Prop} {g : Option Nat} {env : List (Nat × D)}
def cCallD (P : Program) (T : Tab) (n : Nat) (ops : List Oper) (A : Waits) (mvs2 : List Mv) (f : FuncId) (ds : List D) (m : Nat) (Q : Exit → Option Nat → List (Nat × D) → Prop) (k : Nat) (o : Oper) (s : St) : Prop :=
  match o.guard with
  | some _ => False
  | none => match o.op with
    | .call { callee := .value (.func f'), args, argTypes := _ } => f' = f ∧ s.gets args.toList = ds ∧ imms ds = true ∧ purK n s fun env' =>
        (putK ⟨env', [], [], n⟩ o.dst .tt fun s => dops P T ops A mvs2 [] s fun s' => purK n s' (Q .normal (some (k + m)))) ∧ (putK ⟨env', [], [], n⟩ o.dst .ff fun s => dops P T ops A mvs2 [] s fun s' => purK n s' (Q .normal none))
    | _ => False
def atK (ops : List Oper) (i : Nat) (K : Oper → St → Prop) (s : St) : Prop := match ops[i]? with | some o => K o s | none => False
theorem put_defers (a : Act) (dst : Option Nat) (v : Value) : (a.put dst v).defers = a.defers := by cases dst <;> rfl
theorem OkF.cregD (hT : TOk P T) (hm : P.follows .mixedOrders = true) {s0 : St} {id : Nat} {ops : List Oper} (A : Waits) (mvs : List Mv) (i0 : Nat) (mvs2 : List Mv) (k : Nat) {f : FuncId} {ds : Nat → List D} {ys : List (List D)} (hC : YC P T f ds ys) (hx : ∀ i, i < ys.length → xs[k + i]? = ys[i]?)
    (hQp : ∀ c g env, ¬ Q (.panic c) g env) (hB : planGOk ops.toArray A mvs i0 mvs2 = true)
    (h : dops P T ops A mvs [] s0 (atK ops i0 (cCallD P T n ops A mvs2 f (ds l) ys.length Q k))) :
    OkF P T l xs n (.region id ops.toArray true) Q (some k) s0 := by
  refine ⟨fun B E J Jp hY V a0 w0 env hJ hp V' μ ω a w hS0 => ?_⟩
  simp only [planGOk, Bool.and_eq_true, beq_iff_eq] at hB
  obtain ⟨⟨⟨hns, hA⟩, hlen⟩, hB⟩ := hB
  have hd : Ext w { w with drawn := w.drawn + 1 } := (Below.refl w.heap.size w).drew
  refine wp_region_any hm ?_
  refine wpAny_of_P (bef := befW A) _ [] _ _ _ ?_
  have hz : ∀ m j : Nat, (Array.replicate m false).getD j false = false := fun m j => by
    rcases Nat.lt_or_ge j m with h | h <;> simp [h]
  have hQw : ∀ c dst v (a : Act) w, yPostE P T B E V J Jp n Q (.panic c) (a.put dst v) w → yPostE P T B E V J Jp n Q (.panic c) a w := by
    rintro c dst v a w (⟨g', env', V', hk, _⟩ | ⟨ch, he, h1, h2, ms, h3, h4⟩)
    · exact absurd hk (hQp _ _ _)
    · exact .inr ⟨ch, he, h1, h2, ms, by rw [← h3, put_defers], h4⟩
  have hw := dopsG_sound hT hns hA hQw (i0 := i0) (mvs2 := mvs2) mvs _ [] [] s0 V' μ ω a _ _ hB (by simp) (fun j o _ hl => by rw [hz] at hl; cases hl) (hS0.ext hd) .nil h ?_
  · rw [hlen] at hw
    exact hw
  intro s V1 μ1 ω1 a1 w1 listed' hk hS1 hcl hB2
  unfold atK at hk
  split at hk
  case h_2 => exact hk.elim
  rename_i o ho
  obtain ⟨dst, op, type, pos, after, guard⟩ := o
  unfold cCallD at hk
  split at hk
  · exact hk.elim
  rename_i hg
  dsimp only at hg
  subst hg
  split at hk
  case h_2 => exact hk.elim
  rename_i f' args ats hop
  dsimp only at hop
  subst hop
  obtain ⟨rfl, hgs, him, hk⟩ := hk
  obtain ⟨env', ⟨hk1, hk2⟩, hp1⟩ := hp.after hS1 hk
  have hJ1 := hY.grow _ _ _ _ _ hJ hS1.mem.below hS1.mem.vle hS1.mem.vok (fresh_of hS1.mem rfl)
  obtain ⟨ms, e1, e2, e3⟩ := hp1.marks
  have hvals := hS1.gets args.toList
  rw [hgs] at hvals
  have hcall := hC.run l B (keptOf ms ++ E) xs k J Jp hY hx V1 w1 (args.map a1.eval) (by rw [← hvals.1]; simp) (fun i v d h1 h2 => by
    refine immD_ri (hvals.2 i v d ?_ h2) (imms_at him i d h2)
    simpa using h1) hJ1 (keptE hp1 e1)
  unfold wpOp
  have ho' : ops.toArray[i0]? = some ⟨dst, .call ⟨.value (.func f'), args, ats⟩, type, pos, after, none⟩ := by simpa using ho
  rw [ho']
  dsimp only
  rw [if_pos (by simp [Region.wanted])]
  left
  unfold Oper.wp
  have hrun : (execOp a1.eval ⟨dst, .call ⟨.value (.func f'), args, ats⟩, type, pos, after, none⟩).run P w1 = .ok (.enter f' (args.map a1.eval)) w1 := by
    simp only [execOp, resolve, Act.eval, Deferred.ofValue, Sem.run_bind, Sem.run_pure, Result.andThen_ok]
    simp [invoke, go_sem, hC.call]
  rw [hrun]
  show Calls P f' (args.map a1.eval) w1 _
  refine hcall.mono ?_
  rintro e W' ⟨hK, h⟩
  have hE : ∀ x ∈ E, W'.heap[x.1]? = some x.2 := fun x hx => hK x (List.mem_append_right _ hx)
  have hmk : ∀ D ∈ ms, W'.heap[D]? = some (.deferred (some [])) := fun D hD => hK (D, _) (List.mem_append_left _ (List.mem_map.2 ⟨D, hD, rfl⟩))
  have go : ∀ {g' : Option Nat} {V2 : Vw} {d : D} {v : Value}, VLe V1 V2 → J g' V2 W' → RS (szOf T) V2 [] [] v d → (putK ⟨env', [], [], n⟩ dst d fun s => dops P T ops A mvs2 [] s fun s' => purK n s' (Q .normal g')) →
      wpAnyP P ops.toArray (befW A) (yPostE P T B E V J Jp n Q) mvs2.length [] listed' (a1.put dst v) W' := by
    intro g' V2 d v hle hJ2 hv hput
    have hp2 : PureE (szOf T) B E V2 env' n a1 W' := ⟨hp1.tmps, ⟨ms, e1, e2, fun D hD => ⟨(e3 D hD).1, hmk D hD, (e3 D hD).2.2⟩⟩, hY.size _ _ _ hJ2, hY.vok _ _ _ hJ2, fun t => (hp1.env t).mono hle (.refl _) (.refl _), fun x hx => ⟨(hp1.kept x hx).1, hE x hx, (hp1.kept x hx).2.2⟩⟩
    obtain ⟨s3, hq3, hS3⟩ := putK_sound hp2.sim hv hput
    refine dopsW_sound hT hns hA hQw mvs2 _ [] [] s3 V2 [] [] _ W' _ hB2 hcl hS3 .nil hq3 ?_
    intro s4 V4 μ4 ω4 a4 w4 hk4 hS4
    obtain ⟨env5, hk5, hp5⟩ := hp2.after (a' := a4) (w' := w4) hS4 hk4
    exact .inl ⟨g', env5, V4, hk5, hY.grow _ _ _ _ _ hJ2 hS4.mem.below hS4.mem.vle hS4.mem.vok (fresh_of hS4.mem rfl), fun p v h => hS4.mem.vle p v (hle p v (hS1.mem.vle p v h)), hp5⟩
  rcases h with ⟨V2, hle, ⟨rfl, hJ2⟩ | ⟨rfl, hJ2⟩⟩ | ⟨c, rfl, hJp⟩
  · exact go hle hJ2 (.imm _ _ .tt) hk1
  · exact go hle hJ2 (.imm _ _ .ff) hk2
  · exact .inr ⟨c, rfl, hJp, hE, ms, e1, e2, fun D hD => ⟨(e3 D hD).1, hmk D hD, (e3 D hD).2.2⟩⟩
end
end Go.Vx
namespace Go.Vx
open Go.RowKit
def noDef (l : List Oper) : Bool := l.all fun o => match o.op with | .defer _ => false | _ => true
theorem noDef_at {l : List Oper} (h : noDef l = true) {i : Nat} {o : Oper} (ho : l.toArray[i]? = some o) : ∀ c, o.op ≠ .defer c := by
  intro c hc
  have := List.all_eq_true.1 h o (by
    have : l[i]? = some o := by simpa using ho
    exact List.mem_of_getElem? this)
  rw [hc] at this
  cases this
section
variable {P : Program} {T : Tab} {s : St} {Q : Exit → St → Prop}
theorem wpOpIn_of {ρ : Option Nat} {ops : Array Oper} {R : Exit → Act → World → Prop} (hL : ¬ LetsOut R) {i : Nat} {K : Act → World → Prop} {a : Act} {w : World} (hd : ∀ o, ops[i]? = some o → ∀ c, o.op ≠ .defer c) (h : wpOp P ops R i K a w) : wpOpIn (fen ρ) 0 P ops R i K a w := by
  unfold wpOp at h
  unfold wpOpIn
  cases ho : ops[i]? with
  | none => rw [ho] at h; exact h
  | some o =>
    rw [ho] at h
    dsimp only at h ⊢
    split at h
    · rename_i hw
      rw [if_pos hw]
      exact opIn_of (h.resolve_right fun x => hL x.2) (hd o ho)
    · rename_i hw
      rw [if_neg hw]
      exact ⟨fun _ _ => trivial, h⟩
theorem wpAnyIn_of {ρ : Option Nat} {ops : Array Oper} {R : Exit → Act → World → Prop} (hL : ¬ LetsOut R) (hd : ∀ (i : Nat) (o : Oper), ops[i]? = some o → ∀ c, o.op ≠ .defer c) : ∀ (fuel : Nat) (listed : Array Bool) (a : Act) (w : World), wpAny P .any ops R fuel listed a w → wpAnyIn (fen ρ) 0 P .any ops R fuel listed a w
  | 0, _, _, _, h => h
  | fuel + 1, _, _, _, h => ⟨h.1, fun i hi => wpOpIn_mono (fun a' w' h' => wpAnyIn_of hL hd fuel _ a' w' h') (wpOpIn_of hL (hd i) (h.2 i hi))⟩
theorem normal_out {N : Act → World → Prop} : ¬ LetsOut (fun e a w => e = Exit.normal ∧ N a w) := by
  rintro ⟨a, w, h, _⟩
  cases h
theorem OkR.region_draw (hT : TOk P T) (hm : P.follows .mixedOrders = true) {id : Nat} {l : List Oper} (hB : (Region.lexB .any l.toArray && noDef l) = true) (h : qops P T l l s (Q .normal)) :
    OkR P T (.region id l.toArray true) Q s := by
  simp only [Bool.and_eq_true] at hB
  obtain ⟨hB, hD⟩ := hB
  refine ⟨fun ρ w0 V0 V μ ω a w _ hS => ?_⟩
  have hd : Ext w { w with drawn := w.drawn + 1 } := (Below.refl w.heap.size w).drew
  refine wpIn_mono (Q := fun e a' w' => e = .normal ∧ ∃ s' V' μ' ω', Q .normal s' ∧ Sim (szOf T) w0 V0 V' μ' ω' s' a' w') (wpIn_region_any hm (wpAnyIn_of normal_out (fun i o ho => noDef_at hD ho) _ _ _ _ ?_)) ?_
  · simp only [Region.lexB, Bool.and_eq_true] at hB
    refine wpAny_of_quiet (C := Ext w) (Q := fun a' => ∀ w', Ext w w' → ∃ s' V' μ' ω', Q .normal s' ∧ Sim (szOf T) w0 V0 V' μ' ω' s' a' w') (fun _ w' hw' h => ⟨rfl, h w' hw'⟩) _ _ _ _ hd ?_
    have hq := qops_sound hT l s a _ hS h
    have := wpAnyQ_lex (C := Ext w) (md := .any) hB.1 l.toArray.toList 0 (Array.replicate l.toArray.size false) a (by simp) (by simpa using hB.2) (wpQuiet_mono' (Q' := fun a' => ∀ w', Ext w w' → ∃ s' V' μ' ω', Q .normal s' ∧ Sim (szOf T) w0 V0 V' μ' ω' s' a' w') (by
      rintro a' ⟨s', hk, hS'⟩ w' he
      exact ⟨s', V, μ, ω, hk, hS'.ext he⟩) _ _ hq)
    simpa using this
  · rintro e a' w' ⟨rfl, s', V', μ', ω', hk, hS'⟩
    exact ⟨s', V', μ', ω', hk, hS'⟩
end
end Go.Vx
namespace Go.Vx
open Go.RowKit Go.ChangeShapes Go.WideShapes
open Go.Proofs.YtaiondckookpiaaGreatDoor (Rows.uptoBulk Rows.uptoBulkAll)
inductive Shp where
  | bool | int (k : IntKind) | str | slice (e : TypeId) (cells : List Shp)
def shpFs (F : TypeId → Option (List Shp)) : Nat → List (Nat × TypeId) → Option (List Shp)
  | _, [] => some []
  | k, (o, t) :: r => match Nat.beq o k, F t with
    | true, some l => (match shpFs F (k + l.length) r with | some m => some (l ++ m) | none => none)
    | _, _ => none
def lenIs (s : Nat) (o : Option (List Shp)) : Option (List Shp) := match o with | some l => (match Nat.beq s l.length with | true => some l | false => none) | none => none
def shpC (T : Tab) : Nat → TypeId → Option (List Shp)
  | 0, _ => none
  | f + 1, t => match T t with
    | some ⟨s, _, .bool, _⟩ => lenIs s (some [.bool])
    | some ⟨s, _, .int k, _⟩ => lenIs s (some [.int k])
    | some ⟨s, _, .str, _⟩ => lenIs s (some [.str])
    | some ⟨s, _, .slice e, _⟩ => lenIs s (match shpC T f e with | some l => some [.slice e l] | none => none)
    | some ⟨s, _, .struct fs, _⟩ => lenIs s (shpFs (shpC T f) 0 fs)
    | _ => none
mutual
/-- A cell of such a type; lists and texts of at most B. -/
def TyS (B : Nat) : Shp → D → Prop
  | .bool, d => ∃ p, d = .b p
  | .int k, d => ∃ n, d = .i k n ∧ (Lit.int k n).wf = true
  | .str, d => ∃ l, d = .s l ∧ l.length ≤ B
  | .slice e l, d => ∃ rows room, d = .lst e rows room ∧ rows.length + room.length ≤ B ∧ ∀ r, r ∈ rows ++ room → TySs B l r
/-- .. a row of cells. -/
def TySs (B : Nat) : List Shp → List D → Prop
  | [], [] => True
  | s :: ss, d :: ds => TyS B s d ∧ TySs B ss ds
  | [], _ :: _ => False
  | _ :: _, [] => False
end
def TyA (T : Tab) (B : Nat) (t : TypeId) (l : List Shp) (x : D) : Prop :=
  match T t with
  | some ⟨_, _, .struct _, _⟩ => ∃ row, x = .agg row ∧ TySs B l row
  | _ => TySs B l [x]
theorem TySs.append {B : Nat} : ∀ {ts us : List Shp} {ds es : List D}, TySs B ts ds → TySs B us es → TySs B (ts ++ us) (ds ++ es)
  | [], _, [], _, _, h => h
  | _ :: _, _, _ :: _, _, h, h' => by
    simp only [TySs, List.cons_append] at h ⊢
    exact ⟨h.1, TySs.append h.2 h'⟩
  | [], _, _ :: _, _, h, _ => by simp [TySs] at h
  | _ :: _, _, [], _, h, _ => by simp [TySs] at h
theorem lenIs_some {s : Nat} {o : Option (List Shp)} {l : List Shp} (h : lenIs s o = some l) : o = some l ∧ s = l.length := by
  unfold lenIs at h
  split at h
  · split at h
    · rename_i hb
      cases h
      exact ⟨rfl, Nat.eq_of_beq_eq_true hb⟩
    · cases h
  · cases h
theorem shpC_len {T : Tab} {f : Nat} {t : TypeId} {l : List Shp} (h : shpC T f t = some l) : szOf T t = l.length ∧ ∃ ti, T t = some ti := by
  cases f with
  | zero => simp [shpC] at h
  | succ f =>
    simp only [shpC] at h
    split at h
    all_goals first
      | (cases h)
      | (rename_i ht; have := lenIs_some h; rw [szOf_eq ht]; exact ⟨this.2, _, ht⟩)
section
variable {H : Type} {enc : TypeId × Value → H} {P : Program} {T : Tab} {w : World} {held : Bool}
theorem bulk_mem {d : DataW H} : ∀ {l : List (DataW H)}, d ∈ l → Rows.uptoBulk d ≤ Rows.uptoBulkAll l
  | [], h => by cases h
  | x :: r, h => by
    simp only [Rows.uptoBulkAll]
    rcases List.mem_cons.1 h with rfl | h
    · omega
    · have := bulk_mem h; omega
theorem bulk_one (d : DataW H) : 1 ≤ Rows.uptoBulk d := by
  cases d with
  | lit l => cases l <;> simp [Rows.uptoBulk]
  | _ => simp [Rows.uptoBulk]
theorem bulk_length : ∀ (l : List (DataW H)), l.length ≤ Rows.uptoBulkAll l
  | [] => by simp [Rows.uptoBulkAll]
  | x :: r => by have := bulk_one x; have := bulk_length r; simp only [Rows.uptoBulkAll, List.length_cons]; omega
def CellsR (T : Tab) (w : World) (cs : List Value) (row : List D) : Prop :=
  cs.length = row.length ∧ ∀ (j : Nat) v d, cs[j]? = some v → row[j]? = some d → RI (szOf T) (heapV w) v d ∧ v.oneCell' = true
theorem CellsR.append {cs cs' : List Value} {row row' : List D} (h : CellsR T w cs row) (h' : CellsR T w cs' row') : CellsR T w (cs ++ cs') (row ++ row') := by
  refine ⟨by simp [h.1, h'.1], fun j v d h1 h2 => ?_⟩
  by_cases hj : j < cs.length
  · rw [List.getElem?_append_left hj] at h1
    rw [List.getElem?_append_left (by rw [← h.1]; exact hj)] at h2
    exact h.2 j v d h1 h2
  · rw [List.getElem?_append_right (by omega)] at h1
    rw [List.getElem?_append_right (by rw [← h.1]; omega), ← h.1] at h2
    exact h'.2 _ v d h1 h2
theorem CellsR.one {v : Value} {d : D} (h : RI (szOf T) (heapV w) v d) (h1 : v.oneCell' = true) : CellsR T w [v] [d] := by
  refine ⟨rfl, fun j v' d' h2 h3 => ?_⟩
  cases j with
  | zero => simp at h2 h3; subst h2 h3; exact ⟨h, h1⟩
  | succ j => simp at h2
theorem cells_of (hT : TOk P T) {t : TypeId} (h : ∃ ti, T t = some ti) : szOf T t = P.cellsOf t := by
  obtain ⟨ti, ht⟩ := h
  obtain ⟨i, z, h1, h2, _⟩ := (hT t ti ht).info
  rw [szOf_eq ht]
  simp [Program.cellsOf, h1, h2]
theorem fields_ri {f B : Nat} {k : Nat} (ih : ∀ t cs x l, shpC T f t = some l → (B = maxLen ∨ Rows.uptoBulk x.1 ≤ B) → DataW.trod enc P w 0 (fun _ => true) held k t cs = some x → ∃ row, TySs B l row ∧ CellsR T w cs row)
    (hT : TOk P T) (cs : List Value) :
    ∀ (fs : List (Nat × TypeId)) (o : Nat) (xs : List (DataW H × List MemPlace)) (l : List Shp), shpFs (shpC T f) o fs = some l →
      (B = maxLen ∨ Rows.uptoBulkAll (xs.map (·.1)) ≤ B) → xs.length = fs.length →
      (∀ (i : Nat) p, fs[i]? = some p → DataW.trod enc P w 0 (fun _ => true) held k p.2 ((cs.drop p.1).take (P.cellsOf p.2)) = xs[i]?) →
      cs.length = o + l.length → ∃ row, TySs B l row ∧ CellsR T w (cs.drop o) row
  | [], o, xs, l, h1, _, _, _, hl => ⟨[], by simp [shpFs] at h1; subst h1; simp [TySs], by
      simp [shpFs] at h1
      subst h1
      have : cs.drop o = [] := List.drop_of_length_le (by rw [hl]; simp)
      rw [this]
      exact ⟨rfl, fun j v d h => by simp at h⟩⟩
  | (o', t) :: r, o, xs, l, h1, hB, hxl, hx, hl => by
    simp only [shpFs] at h1
    split at h1
    case h_2 => cases h1
    rename_i l0 hb ht
    split at h1
    case h_2 => cases h1
    rename_i m hm
    cases h1
    have ho : o' = o := Nat.eq_of_beq_eq_true hb
    obtain ⟨hs, hti⟩ := shpC_len ht
    subst ho
    cases xs with
    | nil => simp at hxl
    | cons x0 xs =>
      have h0 := hx 0 _ rfl
      simp only [List.getElem?_cons_zero] at h0
      have hb0 : B = maxLen ∨ Rows.uptoBulk x0.1 ≤ B := by
        rcases hB with hB | hB
        · exact .inl hB
        · right; simp only [List.map_cons, Rows.uptoBulkAll] at hB; omega
      have hb1 : B = maxLen ∨ Rows.uptoBulkAll (xs.map (·.1)) ≤ B := by
        rcases hB with hB | hB
        · exact .inl hB
        · right; simp only [List.map_cons, Rows.uptoBulkAll] at hB; omega
      simp only [List.length_append] at hl
      obtain ⟨row0, a0, r0⟩ := ih _ _ _ _ ht hb0 h0
      obtain ⟨row1, a1, r1⟩ := fields_ri ih hT cs r (o' + l0.length) xs m hm hb1 (by simpa using hxl) (fun i p hp => by
        have := hx (i + 1) p (by simpa using hp)
        simpa using this) (by omega)
      refine ⟨row0 ++ row1, a0.append a1, ?_⟩
      have hc : cs.drop o' = (cs.drop o').take (P.cellsOf t) ++ cs.drop (o' + l0.length) := by
        rw [← cells_of hT hti, hs, ← List.drop_drop, List.take_append_drop]
      rw [hc]
      exact r0.append r1
end
end Go.Vx
