/- The plain-data machine, part 9: literals, make, append, calls; every operation; regions in the order of the text. Nothing here speaks of one program. -/
import Derived.Test.YtkkmbgfhhcoehaaVx8
namespace Go.Vx
open Go.RowKit

section
variable {w0 w w' : World} {V0 : Fr} {V : Vw} {μ : List Nat} {ω : List Value} {box : List (List D)} {row : Rows} {s : St} {a : Act} {P : Program} {T : Tab}

/-- A row is added. -/
theorem newRow_sound (hS : Sim (szOf T) w0 V0 V μ ω s a w) (he : Ext w w') {v : Value} {e : TypeId} {xs : List (List D)} {vals : List Value} {c m : Nat} {A : Option Addr} (hv : v = .slice A xs.length c)
    (hown : w'.ownsRow w0.heap.size e (szOf T e) v xs.length vals) (hr : RowR (szOf T) V e vals xs) (hb : ∀ g, v.ownBlock = some g → w.heap.size ≤ g) (hm : m = xs.length) {K : D → St → Prop}
    (h : match s with | ⟨env, box, row, n⟩ => snocK row (some (e, xs)) fun row' => natLit row.length fun r => K (.own r m) ⟨env, box, row', n⟩) :
    ∃ d s' ω', K d s' ∧ RS (szOf T) V μ ω' v d ∧ Sim (szOf T) w0 V0 V μ ω' s' a w' ∧ Pre ω ω' := by
  obtain ⟨env, box, row, n⟩ := s
  simp only [snocK_eq, natLit_eq] at h
  have hM := hS.mem.newRow he hown hr hb
  subst hm
  refine ⟨_, _, _, h, ?_, ⟨hS.tmps, hS.defers, fun t => (hS.env t).mono (.refl V) (.refl μ) (.append _ _), hM⟩, .append _ _⟩
  subst hv
  have hl : row.length = ω.length := hS.mem.rl.symm
  refine .own row.length xs.length A xs.length c ?_ (Nat.le_refl _)
  rw [hl, List.getElem?_append_right (Nat.le_refl _)]
  simp

theorem fill_rows {size len : Nat} : ∀ (vs : List Value) (i : Nat) (cs : Array Value), cs.size = len * size → i + vs.length ≤ len → (∀ v ∈ vs, v.cells.size = size) →
    ∃ us, Instr.fill (fun i => some (i * size, size)) cs ((List.range' i vs.length).zip vs) = some us ∧ us.size = len * size ∧ (∀ k, k < i * size → us[k]? = cs[k]?) ∧
      ∀ (j : Nat) v (c : Nat), vs[j]? = some v → c < size → us[(i + j) * size + c]? = v.cells[c]?
  | [], i, cs, hs, _, _ => ⟨cs, rfl, hs, fun _ _ => rfl, by simp⟩
  | v :: vs, i, cs, hs, hl, hc => by
    have hv := hc v (by simp)
    have hle : (i + 1) * size ≤ len * size := Nat.mul_le_mul_right _ (by simp at hl; omega)
    rw [Nat.add_mul, Nat.one_mul] at hle
    have e1 : v.cells.zipIdx.foldl (fun cs (x : Value × Nat) => cs.setIfInBounds (i * size + x.2) x.1) cs = ((v.cells.toList.zipIdx 0).foldl (fun cs (x : Value × Nat) => cs.setIfInBounds (i * size + x.2) x.1) cs) := by
      rw [← Array.foldl_toList, Array.toList_zipIdx]
    obtain ⟨h1, h2⟩ := setMany_get v.cells.toList (i * size) 0 cs
    obtain ⟨us, h3, h4, h5, h6⟩ := fill_rows vs (i + 1) (v.cells.zipIdx.foldl (fun cs (x : Value × Nat) => cs.setIfInBounds (i * size + x.2) x.1) cs) (by rw [e1, h1, hs]) (by simp at hl ⊢; omega) (fun v hv => hc v (by simp [hv]))
    refine ⟨us, ?_, h4, fun k hk => ?_, fun j u c hj hcs => ?_⟩
    · simp only [List.length_cons, List.range'_succ, List.zip_cons_cons, Instr.fill]
      rw [if_neg (by simp [hv, hs]; omega)]
      exact h3
    · rw [h5 k (by rw [Nat.add_mul]; omega), e1, h2 k, if_neg (by omega)]
    · cases j with
      | zero =>
        simp only [List.getElem?_cons_zero, Option.some.injEq] at hj
        subst hj
        rw [Nat.add_zero, h5 _ (by rw [Nat.add_mul]; omega), e1, h2, if_pos ⟨by omega, by rw [Array.length_toList, hv]; omega, by rw [hs]; omega⟩]
        rw [show i * size + c - (i * size + 0) = c by omega]
        simp
      | succ j =>
        have := h6 j u c (by simpa using hj) hcs
        rw [show i + 1 + j = i + (j + 1) by omega] at this
        exact this

theorem partsK_sound {sz : Nat} {e : TypeId} : ∀ (ds : List D) (i : Nat) (vs : List Value) (K : List (List D) → Prop), vs.length = ds.length →
    (∀ (j : Nat) v d, vs[j]? = some v → ds[j]? = some d → RS (szOf T) V μ ω v d) → partsK T e sz i ds K →
    ∃ rows, K rows ∧ rows.length = vs.length ∧ (∀ v ∈ vs, v.cells.size = sz) ∧ ∀ (j : Nat) v rw_, vs[j]? = some v → rows[j]? = some rw_ → AggI (szOf T) V v.cells.toList rw_
  | [], i, vs, K, hl, hR, h => by
    have : vs = [] := List.eq_nil_of_length_eq_zero hl
    subst this
    exact ⟨[], h, rfl, by simp, by simp⟩
  | d :: ds, i, [], K, hl, hR, h => by simp at hl
  | d :: ds, i, v :: vs, K, hl, hR, h => by
    simp only [partsK] at h
    obtain ⟨cs, hag, h⟩ := cellsK_sound (hR 0 v d rfl rfl) h
    obtain ⟨hcs, h⟩ := eqN_iff h
    obtain ⟨es, h, hes⟩ := normL_sound cs 0 v.cells.toList _ (by rw [Array.length_toList]; exact hag.size) hag.one (fun j v d h1 h2 => hag.rel j v d (by simpa using h1) h2) h
    obtain ⟨rows, h, h1, h2, h3⟩ := partsK_sound ds (i + 1) vs _ (by simpa using hl) (fun j v d h1 h2 => hR (j + 1) v d (by simpa using h1) (by simpa using h2)) h
    refine ⟨es :: rows, h, by simp [h1], fun u hu => ?_, fun j u rw_ hj1 hj2 => ?_⟩
    · rcases List.mem_cons.1 hu with rfl | hu
      · rw [hag.size]; exact hcs
      · exact h2 u hu
    · cases j with
      | zero => simp at hj1 hj2; subst hj1 hj2; exact hes
      | succ j => exact h3 j u rw_ (by simpa using hj1) (by simpa using hj2)

theorem seqK_iff : ∀ {l : List Nat} {i : Nat} {p : Prop}, seqK i l p → l = List.range' i l.length ∧ p
  | [], i, p, h => ⟨rfl, h⟩
  | j :: l, i, p, h => by
    simp only [seqK] at h
    obtain ⟨he, h0⟩ := eqN_iff h
    subst he
    obtain ⟨h1, h2⟩ := seqK_iff h0
    refine ⟨?_, h2⟩
    rw [List.length_cons, List.range'_succ, ← h1]

theorem rowR_cells {e : TypeId} {us : Array Value} {vs : List Value} {rows : List (List D)} {size : Nat} (hsz : szOf T e = size) (hs : us.size = vs.length * size) (hl : rows.length = vs.length) (hc : ∀ v ∈ vs, v.cells.size = size)
    (hu : ∀ (j : Nat) v (c : Nat), vs[j]? = some v → c < size → us[(0 + j) * size + c]? = v.cells[c]?)
    (hr : ∀ (j : Nat) v rw_, vs[j]? = some v → rows[j]? = some rw_ → AggI (szOf T) V v.cells.toList rw_) : RowR (szOf T) V e us.toList rows := by
  have hget : ∀ i rw_, rows[i]? = some rw_ → ∃ v, vs[i]? = some v := fun i rw_ h => ⟨_, List.getElem?_eq_getElem (by rw [← hl]; exact (List.getElem?_eq_some_iff.1 h).1)⟩
  refine ⟨fun u hu' => ?_, fun i rw_ h => ?_, fun i rw_ j d h1 h2 => ?_⟩
  · obtain ⟨k, hk⟩ := List.getElem?_of_mem hu'
    have hkl : k < vs.length * size := by rw [← hs]; simpa using (List.getElem?_eq_some_iff.1 hk).1
    have hz : 0 < size := by
      rcases Nat.eq_zero_or_pos size with h0 | h0
      · rw [h0] at hkl; simp at hkl
      · exact h0
    have h1 : k / size < vs.length := Nat.div_lt_of_lt_mul (by rw [Nat.mul_comm]; exact hkl)
    have h2 := Nat.mod_lt k hz
    have h3 : (0 + k / size) * size + k % size = k := by
      have := Nat.div_add_mod k size
      rw [Nat.zero_add, Nat.mul_comm]; exact this
    have h4 := hu _ _ (k % size) (List.getElem?_eq_getElem h1) h2
    rw [h3] at h4
    rw [Array.getElem?_toList, h4] at hk
    have hrl : k / size < rows.length := by rw [hl]; exact h1
    have := hr _ _ _ (List.getElem?_eq_getElem h1) (List.getElem?_eq_getElem hrl)
    exact this.one u (by rw [← Array.getElem?_toList] at hk; exact List.mem_of_getElem? hk)
  · obtain ⟨v, hv⟩ := hget i rw_ h
    have := (hr i v rw_ hv h).size
    rw [← this, Array.length_toList, hc v (List.mem_of_getElem? hv), hsz]
  · obtain ⟨v, hv⟩ := hget i rw_ h1
    have ha := hr i v rw_ hv h1
    have hj : j < v.cells.toList.length := by rw [ha.size]; exact (List.getElem?_eq_some_iff.1 h2).1
    have h3 := hu i v j hv (by rw [Array.length_toList, hc v (List.mem_of_getElem? hv)] at hj; exact hj)
    rw [Nat.zero_add] at h3
    refine ⟨v.cells.toList[j], ?_, ha.rel j _ d (List.getElem?_eq_getElem hj) h2⟩
    rw [hsz, Array.getElem?_toList, h3, ← Array.getElem?_toList]
    exact List.getElem?_eq_getElem hj

theorem wellbuilt {A : Type} {x : A} {o : Option A} (h : o = some x) : ∃ y, o = some y := ⟨x, h⟩

theorem rowsOf_sound (hS : Sim (szOf T) w0 V0 V μ ω s a w) {y : D} {v : Value} {K : TypeId → List (List D) → Prop} (hv : RS (szOf T) V μ ω v y) (h : rowsOf s.row y K) :
    ∃ e ys A c vals, K e ys ∧ Reads_ (szOf T) V w e v ys A c vals := by
  unfold rowsOf at h
  split at h
  · obtain ⟨A, c, vals, hr⟩ := lst_reads hS.mem.vok hv
    exact ⟨_, _, A, c, vals, h, hr⟩
  · split at h
    case h_2 => exact h.elim
    rename_i e xs hr
    obtain ⟨hm, ys, hy, h⟩ := h
    obtain ⟨A, c, vals, hrd⟩ := own_reads hS.mem hv hr hm hy
    exact ⟨_, _, A, c, vals, h, hrd⟩
  · exact h.elim

theorem slE_iff (hT : TOk P T) {t : TypeId} {p : Prop} (h : slE T t p) : (∃ e ti, P.underlying t = some (.slice e) ∧ T e = some ti) ∧ p := by
  unfold slE at h
  split at h
  case h_2 => exact h.elim
  rename_i e z hti
  split at h
  case h_2 => exact h.elim
  rename_i ti hte
  exact ⟨⟨e, ti, (hT _ _ hti).kind, hte⟩, h⟩
theorem append_nilS {t ty e : TypeId} (ht : P.underlying t = some (.slice e)) {i : TypeInfo} (hi : P.info? e = some i) (v : Value) {n c : Nat} {A : Option Addr} (hv : v = .slice A n c) (hnc : n ≤ c) :
    (Builtin.append_ #[t, t] ty #[v, .slice none 0 0]).run P w = .ok v w := by
  subst hv
  cases A <;> simp [Builtin.append_, run_underlying ht, sizeOf, typeInfo, hi, Builtin.lenOf, Builtin.firstCells, hnc, storeCells]

theorem appK_sound (hT : TOk P T) (hS : Sim (szOf T) w0 V0 V μ ω s a w) {t ty : TypeId} {x y : D} {vx vy : Value} {K : D → St → Prop} (hx : RS (szOf T) V μ ω vx x) (hy : RS (szOf T) V μ ω vy y) (h : appK T s t x y K) :
    ∃ d v s' ω' w', K d s' ∧ RS (szOf T) V μ ω' v d ∧ Sim (szOf T) w0 V0 V μ ω' s' a w' ∧ (Builtin.append_ #[t, t] ty #[vx, vy]).run P w = .ok v w' ∧ Step (effA x) V μ ω w V μ ω' w' := by
  obtain ⟨env, box, row, n⟩ := s
  unfold appK at h
  dsimp only at h
  split at h
  · obtain ⟨⟨e, ti, hu, hti⟩, h⟩ := slE_iff hT h
    obtain ⟨i, z, hi, _⟩ := (hT _ _ hti).info
    refine ⟨_, _, _, ω, w, h, .imm _ _ .nilS, hS, ?_, .ext (fun _ _ h => h) (.refl _) (.refl _) (Ext.refl w)⟩
    rw [hy.nilS_]
    exact append_nilS hu hi vx (hx.nilS_) (Nat.le_refl _) |>.trans (by rw [hx.nilS_])
  · rename_i r m
    obtain ⟨⟨e, ti, hu, hti⟩, h⟩ := slE_iff hT h
    obtain ⟨i, z, hi, _⟩ := (hT _ _ hti).info
    split at h
    case h_2 => exact h.elim
    rename_i y hrow
    obtain ⟨e2, xs⟩ := y
    obtain ⟨A, N, c, hω, hn, hv⟩ := hx.own_
    obtain ⟨A2, c2, vals, e1, hc, _⟩ := hS.mem.rowShape hω hrow
    cases e1
    refine ⟨_, _, _, ω, w, h, hx, hS, ?_, .ext (fun _ _ h => h) (.refl _) (.refl _) (Ext.refl w)⟩
    rw [hy.nilS_]
    exact append_nilS hu hi vx hv (by omega)
  · -- a first row
    obtain ⟨e, ys, A, c, vals, h, hrd⟩ := rowsOf_sound hS hy h
    obtain ⟨hu, hz, _, h⟩ := slK_iff hT h
    obtain ⟨⟨ti, hti, hs1, hby⟩, h⟩ := elemK_iff h
    obtain ⟨hlen, zs, m, rfl, rfl, h⟩ := h
    obtain ⟨i, z, hi, h2, h3, h4, h5, h6, h7⟩ := (hT _ _ hti).info
    have hsz := szOf_eq hti
    obtain ⟨v', w', hr, ho, hg, hb⟩ := run_append_ (P := P) (w := w) t ty e i z ti.size hu hi h4 h2 h6 hs1 (by rw [h3]; exact hby) (base := w0.heap.size) vx 0 [] (by rw [hx.nilS_]; exact World.ownsRow_nil _ _ _ _) A zs.length c vals
      (fun h => let ⟨p, q⟩ := hrd.nil h; ⟨p, by rw [q]; rfl⟩) (by rw [hrd.len, hsz]) hrd.cell hrd.rr.one (by omega) hS.mem.below.size
    rw [hx.nilS_] at hg hb
    have he : Ext w w' := ⟨hg.os, hg.tape, hg.output, hg.size, fun k hk => hg.block k hk (by simp [Value.ownBlock])⟩
    have hshape : ∃ A' c', v' = .slice A' zs.length c' := by
      rcases ho.2 with ⟨q, q2⟩ | ⟨g, cap, cur, q, _⟩
      · exact ⟨none, 0, by rw [q]; congr 1; omega⟩
      · exact ⟨_, cap, by rw [q, Nat.zero_add]⟩
    obtain ⟨A', c', hv'⟩ := hshape
    rw [Nat.zero_add, List.nil_append] at ho
    have hbl : ∀ g, v'.ownBlock = some g → w.heap.size ≤ g := by
      intro g hg'
      rcases hb with hb | ⟨g2, h8, h9⟩
      · rw [hg'] at hb; simp [Value.ownBlock] at hb
      · rw [hg'] at h8; cases h8; exact h9
    obtain ⟨d, s', ω', hk, hr', hS', hpre⟩ := newRow_sound hS he hv' (by rw [hsz]; exact ho) hrd.rr hbl rfl h
    refine ⟨d, v', s', ω', w', hk, hr', hS', ?_, .ext (fun _ _ h => h) (.refl _) hpre he⟩
    rw [hrd.val]
    exact hr
  · -- a row grows
    rename_i r m _
    split at h
    case h_2 => exact h.elim
    rename_i e xs hrow
    obtain ⟨hu, hz, _, h⟩ := slK_iff hT h
    obtain ⟨⟨ti, hti, hs1, hby⟩, hm, h10⟩ := elemK_iff h
    obtain ⟨e', ys, A, c, vals, h11, hrd⟩ := rowsOf_sound hS hy h10
    obtain ⟨hee, h12⟩ := eqN_iff h11
    subst hee
    obtain ⟨hlen, zs, k, rfl, rfl, h13⟩ := h12
    simp only [subE_eq, subB_eq] at h13
    obtain ⟨hrl, hfin⟩ := setK_iff _ _ _ _ h13
    clear h h10 h11 h13
    obtain ⟨i, z, hi, h2, h3, h4, h5, h6, h7⟩ := (hT _ _ hti).info
    have hsz := szOf_eq hti
    obtain ⟨Ax, N, cx, hω, hnN, rfl⟩ := hx.own_
    obtain ⟨A2, c2, vx, e1, hc, hmx, hA, hA2, hown, hR⟩ := hS.mem.rowShape hω hrow
    cases e1
    subst hm
    obtain ⟨v', w', hr, ho, hg, hb⟩ := run_append_ (P := P) (w := w) t ty e i z ti.size hu hi h4 h2 h6 hs1 (by rw [h3]; exact hby) (base := w0.heap.size) _ xs.length vx (by rw [hsz] at hown; exact hown) A ys.length c vals
      (fun h => let ⟨p, q⟩ := hrd.nil h; ⟨p, by rw [q]; rfl⟩) (by rw [hrd.len, hsz]) hrd.cell hrd.rr.one (by omega) hS.mem.below.size
    have hrlω : r < ω.length := by rw [hS.mem.rl]; exact hrl
    have hset : ∀ q v, q ≠ r → ω[q]? = some v → (ω.set r v')[q]? = some v := fun q v hq h => by rw [List.getElem?_set_ne (Ne.symm hq)]; exact h
    have hdead : ∀ m v, RS (szOf T) V μ ω v (.own r m) → RS (szOf T) V μ (ω.set r v') v .u := fun _ v _ => .imm _ _ (.u v)
    have hM := hS.mem.setRow_ (e := e) (ys := xs ++ ys) hω hrow hg (by rw [List.length_append, hsz]; exact ho) (hR.append hrd.rr hown.1) hb (box' := box.map fun c => c.map (sub1F r fun _ => .u)) (by simp) (by
      intro i cs cs' h1 h2
      simp only [List.getElem?_map, Option.map_eq_some_iff] at h2
      obtain ⟨c0, hc0, rfl⟩ := h2
      rw [h1] at hc0
      cases hc0
      refine ⟨by simp, fun j u d d' e1 e2 hrs => ?_⟩
      simp only [List.getElem?_map, Option.map_eq_some_iff] at e2
      obtain ⟨d0, hd0, rfl⟩ := e2
      rw [e1] at hd0
      cases hd0
      exact hrs.sub1 (.refl V) hset hdead)
    have hshape : ∃ A' c', v' = .slice A' (xs ++ ys).length c' := by
      rw [List.length_append]
      rcases ho.2 with ⟨q, q2⟩ | ⟨g, cap, cur, q, _⟩
      · exact ⟨none, 0, by rw [q]; congr 1; omega⟩
      · exact ⟨_, cap, q⟩
    obtain ⟨A', c', hv'⟩ := hshape
    refine ⟨_, v', _, _, w', hfin, ?_, ⟨hS.tmps, hS.defers, fun t => ?_, hM⟩, ?_, ⟨fun _ _ h => h, .refl _, fun q v hq h => ?_, fun q v hc hn => hg.cell hc fun e => hn ⟨_, hω, e.symm⟩⟩⟩
    · subst hv'
      exact .own r _ A' _ c' (List.getElem?_set_self hrlω) (Nat.le_refl _)
    · show RS _ _ _ _ _ (look (env.map fun x => (x.1, subDF r (fun _ => .u) x.2)) t)
      rw [look_sub]
      exact (hS.env t).sub (.refl V) hset hdead
    · rw [hrd.val]
      exact hr
    · rw [List.getElem?_set_ne (fun e => hq (by rw [e]; rfl))]; exact h
  · exact h.elim

/-! ### A callee's own memory comes in -/
def shift1F (k : Nat) : D → D | .own r m => .own (r + k) m | d => d
def shift2F (k : Nat) : D → D | .agg cs => .agg (cs.map (shift1F k)) | d => shift1F k d
def shiftF (k : Nat) : D → D | .tup cs => .tup (cs.map (shift2F k)) | d => shift2F k d
theorem shift1_iff {k : Nat} {d : D} {K : D → Prop} (h : shift1 k d K) : K (shift1F k d) ∧ (∀ r e j o, d ≠ .op r e j o) ∧ (∀ i o, d ≠ .bp i o) ∧ (∀ cs, d ≠ .agg cs) ∧ (∀ cs, d ≠ .tup cs) ∧ ∀ f x y, d ≠ .fnh f x y := by
  cases d <;> simp only [shift1, natLit_eq, D.force_eq] at h <;> first | exact h.elim | exact ⟨h, by simp, by simp, by simp, by simp, by simp⟩
theorem RS.shift1 {sz : TypeId → Nat} {V' : Vw} {ω0 ω' : List Value} {v : Value} {d : D} (hV : VLe V V') (hω : ∀ (r : Nat) u, ω0[r]? = some u → ω'[r + ω.length]? = some u) (h : RS sz V [] ω0 v d)
    (hn : (∀ r e j o, d ≠ .op r e j o) ∧ (∀ i o, d ≠ .bp i o) ∧ (∀ cs, d ≠ .agg cs) ∧ (∀ cs, d ≠ .tup cs) ∧ ∀ f x y, d ≠ .fnh f x y) : RS sz V' μ ω' v (shift1F ω.length d) := by
  cases h with
  | imm _ _ hi =>
    have : shift1F ω.length d = d := by cases d <;> first | rfl | cases hi
    rw [this]
    exact .imm _ _ (hi.mono hV)
  | own r m A N c hq hm => exact .own _ m A N c (hω r _ hq) hm
  | op r e j o => exact absurd rfl (hn.1 _ _ _ _)
  | bp i o => exact absurd rfl (hn.2.1 _ _)
  | agg cs => exact absurd rfl (hn.2.2.1 _)
  | tup cs => exact absurd rfl (hn.2.2.2.1 _)
  | fnh => exact absurd rfl (hn.2.2.2.2 _ _ _)
theorem shiftL_iff {k : Nat} : ∀ {l : List D} {K : List D → Prop}, shiftL k l K → K (l.map (shift1F k)) ∧ ∀ d ∈ l, (∀ r e j o, d ≠ .op r e j o) ∧ (∀ i o, d ≠ .bp i o) ∧ (∀ cs, d ≠ .agg cs) ∧ (∀ cs, d ≠ .tup cs) ∧ ∀ f x y, d ≠ .fnh f x y
  | [], K, h => ⟨h, by simp⟩
  | d :: l, K, h => by
    simp only [shiftL] at h
    obtain ⟨h1, h2⟩ := shift1_iff h
    obtain ⟨h3, h4⟩ := shiftL_iff h1
    refine ⟨h3, fun x hx => ?_⟩
    rcases List.mem_cons.1 hx with rfl | hx
    · exact h2
    · exact h4 x hx
theorem shift2_sound {sz : TypeId → Nat} {V' : Vw} {ω0 ω' : List Value} {v : Value} {d : D} {K : D → Prop} (hV : VLe V V') (hω : ∀ (r : Nat) u, ω0[r]? = some u → ω'[r + ω.length]? = some u) (hr : RS sz V [] ω0 v d)
    (h : shift2 ω.length d K) : ∃ d', K d' ∧ RS sz V' μ ω' v d' := by
  unfold shift2 at h
  split at h
  · obtain ⟨h1, h2⟩ := shiftL_iff h
    obtain ⟨vs, rfl, hs, ho, hR⟩ := hr.agg_
    refine ⟨_, h1, .agg _ vs (by simpa using hs) ho fun j v d e1 e2 => ?_⟩
    simp only [List.getElem?_map, Option.map_eq_some_iff] at e2
    obtain ⟨d0, hd0, rfl⟩ := e2
    exact (hR j v d0 e1 hd0).shift1 hV hω (h2 d0 (List.mem_of_getElem? hd0))
  · obtain ⟨h1, h2⟩ := shift1_iff h
    exact ⟨_, h1, hr.shift1 hV hω h2⟩
theorem shiftT_sound {sz : TypeId → Nat} {V' : Vw} {ω0 ω' : List Value} (hV : VLe V V') (hω : ∀ (r : Nat) u, ω0[r]? = some u → ω'[r + ω.length]? = some u) : ∀ (ds : List D) (vs : List Value) (K : List D → Prop), vs.length = ds.length →
    (∀ (j : Nat) v d, vs[j]? = some v → ds[j]? = some d → RS sz V [] ω0 v d) → shiftT ω.length ds K → ∃ es, K es ∧ es.length = ds.length ∧ ∀ (j : Nat) v d, vs[j]? = some v → es[j]? = some d → RS sz V' μ ω' v d
  | [], vs, K, hl, hR, h => ⟨[], h, rfl, by simp⟩
  | d :: ds, [], K, hl, hR, h => by simp at hl
  | d :: ds, v :: vs, K, hl, hR, h => by
    simp only [shiftT] at h
    obtain ⟨d', h1, hr⟩ := shift2_sound (μ := μ) hV hω (hR 0 v d rfl rfl) h
    obtain ⟨es, h2, h3, h4⟩ := shiftT_sound hV hω ds vs _ (by simpa using hl) (fun j v d e1 e2 => hR (j + 1) v d (by simpa using e1) (by simpa using e2)) h1
    refine ⟨d' :: es, h2, by simp [h3], fun j u x e1 e2 => ?_⟩
    cases j with
    | zero => simp at e1 e2; subst e1 e2; exact hr
    | succ j => exact h4 j u x (by simpa using e1) (by simpa using e2)
theorem shiftD_sound {sz : TypeId → Nat} {V' : Vw} {ω0 ω' : List Value} {v : Value} {d : D} {K : D → Prop} (hV : VLe V V') (hω : ∀ (r : Nat) u, ω0[r]? = some u → ω'[r + ω.length]? = some u) (hr : RS sz V [] ω0 v d)
    (h : shiftD ω.length d K) : ∃ d', K d' ∧ RS sz V' μ ω' v d' := by
  unfold shiftD at h
  split at h
  · obtain ⟨vs, rfl, hs, hR⟩ := hr.tup_
    obtain ⟨es, h1, h2, h3⟩ := shiftT_sound (μ := μ) hV hω _ vs.toList _ (by simpa using hs) (fun j v d e1 e2 => hR j v d (by simpa using e1) e2) h
    exact ⟨_, h1, .tup _ vs (by rw [hs, h2]) fun j v d e1 e2 => h3 j v d (by simpa using e1) e2⟩
  · exact shift2_sound hV hω hr h

theorem expoN_sound {t : TypeId} {d : D} {v : Value} {K : D → Prop} (hv : RS (szOf T) V μ ω v d) (h : expoN T t d K) : ∃ d', K d' ∧ RI (szOf T) V v d' := by
  unfold expoN at h
  split at h
  · obtain ⟨vs, rfl, hs, ho, hR⟩ := hv.agg_
    obtain ⟨ds, hk, hds⟩ := normL_sound _ 0 vs.toList _ (by simpa using hs) ho (fun j v d h1 h2 => hR j v d (by simpa using h1) h2) h
    exact ⟨_, hk, .agg _ _ (by rw [← hds.size]; simp) ho fun j v d h1 h2 => hds.rel j v d (by simpa using h1) h2⟩
  · exact norm1_sound hv h
theorem exposN_sound : ∀ (ts : List TypeId) (ds : List D) (vs : List Value) (K : List D → Prop), Vals (szOf T) V μ ω vs ds → exposN T ts ds K →
    ∃ es, K es ∧ es.length = ds.length ∧ ∀ (j : Nat) v d, vs[j]? = some v → es[j]? = some d → RI (szOf T) V v d
  | [], [], vs, K, hv, h => ⟨[], h, rfl, fun j v d _ hd => by simp at hd⟩
  | t :: ts, [], vs, K, hv, h => h.elim
  | [], d :: ds, vs, K, hv, h => h.elim
  | t :: ts, d :: ds, [], K, hv, h => by have := hv.1; simp at this
  | t :: ts, d :: ds, v :: vs, K, hv, h => by
    simp only [exposN] at h
    obtain ⟨d', h, hd⟩ := expoN_sound (hv.2 0 v d rfl rfl) h
    obtain ⟨es, h, hes, hr⟩ := exposN_sound ts ds vs _ ⟨by simpa using hv.1, fun j v d h1 h2 => hv.2 (j + 1) v d (by simpa using h1) (by simpa using h2)⟩ h
    refine ⟨d' :: es, h, by simp [hes], fun j v' e' h1 h2 => ?_⟩
    cases j with
    | zero => simp at h1 h2; subst h1 h2; exact hd
    | succ j => exact hr j v' e' (by simpa using h1) (by simpa using h2)

theorem Mem.call (h : Mem (szOf T) w0 V0 V μ ω box row w) {V' : Vw} {ω0 : List Value} {row0 : Rows} (hres : Res (szOf T) V V' ω0 row0 w w') :
    Mem (szOf T) w0 V0 V' μ (ω ++ ω0) box (row ++ row0) w' := by
  have he : Ext w w' := hres.below
  have h' := h.ext he
  have hpre : Pre ω (ω ++ ω0) := .append _ _
  have own : ∀ l g, Own μ (ω ++ ω0) (row ++ row0) l g → Own μ ω row l g ∨ ∃ (r : Nat) (v : Value) (x : TypeId × List (List D)), l = .inr (r + ω.length) ∧ ω0[r]? = some v ∧ row0[r]? = some (some x) ∧ v.ownBlock = some g := by
    intro l g hl
    cases l with
    | inl i => exact .inl hl
    | inr q =>
      obtain ⟨u, y, h1, h2, h3⟩ := hl
      rcases Nat.lt_or_ge q ω.length with hq | hq
      · rw [List.getElem?_append_left hq] at h1
        rw [List.getElem?_append_left (by rw [← h.rl]; exact hq)] at h2
        exact .inl ⟨u, y, h1, h2, h3⟩
      · rw [List.getElem?_append_right hq] at h1
        rw [List.getElem?_append_right (by rw [← h.rl]; exact hq), ← h.rl] at h2
        exact .inr ⟨q - ω.length, u, y, by congr 1; omega, h1, h2, h3⟩
  have newer : ∀ (r : Nat) v (x : TypeId × List (List D)) g, ω0[r]? = some v → row0[r]? = some (some x) → v.ownBlock = some g → w.heap.size ≤ g ∧ g < w'.heap.size := by
    rintro r v ⟨e, xs⟩ g h1 h2 h3
    obtain ⟨vals, hown, _⟩ := hres.rows r v e xs h1 h2
    exact hown.lt g h3
  refine ⟨h'.below, hres.vok, fun p u hp => hres.le _ _ (h.vle p u hp), fun p hp => ?_, h.bl, ?_, by simp [h.rl, hres.rl], ?_, ?_, ?_, ?_⟩
  · rw [hres.vold p (Nat.lt_of_lt_of_le hp h.below.size)]
    exact h.vold p hp
  · intro i g cs h1 h2
    obtain ⟨us, t', a, b, c', d⟩ := h'.hbox i g cs h1 h2
    exact ⟨us, t', a, b, c', fun j v d' e f => (d j v d' e f).mono hres.le (.refl μ) hpre⟩
  · intro q u e ys h1 h2
    rcases Nat.lt_or_ge q ω.length with hq | hq
    · rw [List.getElem?_append_left hq] at h1
      rw [List.getElem?_append_left (by rw [← h.rl]; exact hq)] at h2
      obtain ⟨vals, a, b, c', d⟩ := h'.hrow q u e ys h1 h2
      exact ⟨vals, a, b, c', fun i rw_ j d' e1 e2 => let ⟨x, y, z⟩ := d i rw_ j d' e1 e2; ⟨x, y, z.mono hres.le⟩⟩
    · rw [List.getElem?_append_right hq] at h1
      rw [List.getElem?_append_right (by rw [← h.rl]; exact hq), ← h.rl] at h2
      obtain ⟨vals, a, b⟩ := hres.rows _ u e ys h1 h2
      exact ⟨vals, ownsRow_base a h.below.size, b⟩
  · intro l l' g h1 h2
    rcases own l g h1 with h3 | ⟨r, v, x, rfl, e2, e3, e4⟩ <;> rcases own l' g h2 with h5 | ⟨r', v', x', rfl, f2, f3, f4⟩
    · exact h.uniq l l' g h3 h5
    · have := (h.new _ _ h3).2; have := (newer r' v' x' g f2 f3 f4).1; omega
    · have := (h.new _ _ h5).2; have := (newer r v x g e2 e3 e4).1; omega
    · rw [hres.uniq r r' v v' x x' g e2 e3 f2 f3 e4 f4]
  · intro l g h1
    rcases own l g h1 with h3 | ⟨r, v, x, rfl, e2, e3, e4⟩
    · exact h'.new l g h3
    · obtain ⟨a, b⟩ := newer r v x g e2 e3 e4
      exact ⟨Nat.le_trans h.below.size a, b⟩
  · intro p u l hp h1
    rcases own l _ h1 with h3 | ⟨r, v, x, rfl, e2, e3, e4⟩
    · rw [hres.vold p (h.new _ _ h3).2] at hp
      exact h.vmut p u l hp h3
    · exact hres.vmut p u r v x hp e2 e3 e4

theorem run_buildSlice {t e : TypeId} {z : Value} {size len : Nat} (hu : P.underlying t = some (.slice e)) (hzs : (sizeOf e).run P w = .ok size w) (hz : (zeroValue e).run P w = .ok z w) (hb : len * size ≤ 16777216)
    {parts : Array (Nat × Value)} {us : Array Value}
    (hf : Instr.fill (fun i => some (i * size, size)) ((Array.range (len * size)).map (fun k => (if len * size = 0 then #[] else z.cells)[k % (if len * size = 0 then #[] else z.cells).size]!)) parts.toList = some us) :
    (Instr.buildSlice t len parts).run P w = .ok (.slice (some ⟨w.heap.size, 0, none⟩) len len) (w.alloc (.cells us e)) := by
  have hnb : ¬ len * size > 2 ^ 24 := by omega
  have hnb' : ¬ 16777216 < len * size := by omega
  by_cases h0 : len * size = 0
  · rw [if_pos h0] at hf
    simp only [Instr.buildSlice, Sem.run_bind, run_under hu, Result.andThen_ok, hzs, if_neg hnb, if_pos h0, Sem.run_pure, hf, newRow, run_newObj]
    rfl
  · rw [if_neg h0] at hf
    simp only [Instr.buildSlice, Sem.run_bind, run_under hu, Result.andThen_ok, hzs, if_neg hnb, if_neg h0, Sem.run_pure, hz, hf, newRow, run_newObj]
    rfl

/-! ### Calls that are walked through -/
def resOp (tmps : Array Value) : ResultVar → Sem Value
  | .tmp t => pure (tmps.getD t undef)
  | .cell a t => do loadVar t (← asAddr (tmps.getD a undef))
theorem results_eq (fn : Func) (tmps : Array Value) : results fn tmps = (do
    let vs ← fn.results.mapM (resOp tmps)
    pure (if h : vs.size = 1 then vs[0] else .tuple vs)) := rfl
theorem resK_sound (hT : TOk P T) (hS : Sim (szOf T) w0 V0 V μ ω s a w) : ∀ (rs : List ResultVar) (K : List D → Prop), resK T s rs K →
    ∃ vs ds, K ds ∧ Vals (szOf T) V μ ω vs ds ∧ (rs.mapM (resOp a.tmps)).run P w = .ok vs w
  | [], K, h => ⟨[], [], h, ⟨rfl, by simp⟩, by simp⟩
  | .tmp t :: rs, K, h => by
    simp only [resK, D.force_eq] at h
    obtain ⟨vs, ds, hk, hv, hr⟩ := resK_sound hT hS rs _ h
    refine ⟨a.tmps.getD t undef :: vs, _, hk, ⟨by simp [hv.1], fun j v d h1 h2 => ?_⟩, by simp only [List.mapM_cons, resOp, Sem.run_bind, Sem.run_pure, Result.andThen_ok, hr]⟩
    cases j with
    | zero => simp only [List.getElem?_cons_zero, Option.some.injEq] at h1 h2; subst h1 h2; exact hS.get (.tmp t)
    | succ j => exact hv.2 j v d (by simpa using h1) (by simpa using h2)
  | .cell p t :: rs, K, h => by
    simp only [resK] at h
    obtain ⟨ad, _, d, u, hp, hk, hr, _, hl⟩ := ptrK_sound hT hS.mem (hS.get (.tmp p)) h
    obtain ⟨vs, ds, hk, hv, hrs⟩ := resK_sound hT hS rs _ hk
    refine ⟨u :: vs, _, hk, ⟨by simp [hv.1], fun j v d h1 h2 => ?_⟩, ?_⟩
    · cases j with
      | zero => simp only [List.getElem?_cons_zero, Option.some.injEq] at h1 h2; subst h1 h2; exact hr
      | succ j => exact hv.2 j v d (by simpa using h1) (by simpa using h2)
    · rw [show a.eval (.tmp p) = a.tmps.getD p undef from rfl] at hp
      simp only [List.mapM_cons, resOp, Sem.run_bind, hp, asAddr, Sem.run_pure, Result.andThen_ok, hl w ((Ext.refl w).keepN _ _), hrs]

theorem oneD_rel {sz : TypeId → Nat} {vs : List Value} {ds : List D} (h : Vals sz V μ ω vs ds) : RS sz V μ ω (if h : vs.toArray.size = 1 then vs.toArray[0] else .tuple vs.toArray) (oneD ds) := by
  obtain ⟨hl, hR⟩ := h
  match vs, ds, hl with
  | [v], [d], _ => simpa [oneD] using hR 0 v d rfl rfl
  | [], [], _ => exact .tup _ _ (by simp) (by simp)
  | v :: v' :: vs, d :: d' :: ds, hl =>
    rw [dif_neg (by simp)]
    exact .tup _ _ (by simpa using hl) fun j v d h1 h2 => hR j v d (by simpa using h1) h2

theorem look_envOf : ∀ (ds : List D) (k t : Nat), look (envOf k ds) t = if k ≤ t then ds.getD (t - k) .u else .u
  | [], k, t => by simp [envOf, look]
  | d :: ds, k, t => by
    simp only [envOf, look]
    split
    · rename_i h
      have := beq_nat_true h
      subst this
      simp
    · rename_i h
      have hne : k ≠ t := by rintro rfl; rw [Nat.beq_refl] at h; cases h
      rw [look_envOf ds (k + 1) t]
      by_cases hk : k + 1 ≤ t
      · rw [if_pos hk, if_pos (by omega), show t - k = (t - (k + 1)) + 1 by omega]
        simp
      · rw [if_neg hk, if_neg (by omega)]

theorem look_shift (k : Nat) (env : List (Nat × D)) (t : Nat) : look (env.map fun x => (x.1 + k, x.2)) (t + k) = look env t := by
  induction env with
  | nil => rfl
  | cons x env ih =>
    obtain ⟨q, d⟩ := x
    have hb : Nat.beq (q + k) (t + k) = Nat.beq q t := by
      by_cases h : q = t
      · subst h; simp [Nat.beq_refl]
      · have h1 : Nat.beq q t = false := by
          cases hq : Nat.beq q t with
          | false => rfl
          | true => exact absurd (beq_nat_true hq) h
        have h2 : Nat.beq (q + k) (t + k) = false := by
          cases hq : Nat.beq (q + k) (t + k) with
          | false => rfl
          | true => exact absurd (Nat.add_right_cancel (beq_nat_true hq)) h
        rw [h1, h2]
    simp only [List.map_cons, look, hb, ih]
theorem look_shift_lt (k : Nat) (env : List (Nat × D)) (t : Nat) (ht : t < k) : look (env.map fun x => (x.1 + k, x.2)) t = .u := by
  induction env with
  | nil => rfl
  | cons x env ih =>
    obtain ⟨q, d⟩ := x
    have hb : Nat.beq (q + k) t = false := by
      cases hq : Nat.beq (q + k) t with
      | false => rfl
      | true => have := beq_nat_true hq; omega
    simp only [List.map_cons, look, hb, ih]
theorem look_append (l m : List (Nat × D)) (t : Nat) (h : ∀ x ∈ l, x.1 ≠ t) : look (l ++ m) t = look m t := by
  induction l with
  | nil => rfl
  | cons x l ih =>
    obtain ⟨q, d⟩ := x
    have hb : Nat.beq q t = false := by
      cases hq : Nat.beq q t with
      | false => rfl
      | true => exact absurd (beq_nat_true hq) (h (q, d) (by simp))
    simp only [List.cons_append, look, hb]
    exact ih fun x hx => h x (by simp [hx])
theorem look_append_in (l m : List (Nat × D)) (t : Nat) (h : ∃ x ∈ l, x.1 = t) : look (l ++ m) t = look l t := by
  induction l with
  | nil => obtain ⟨x, hx, _⟩ := h; cases hx
  | cons x l ih =>
    obtain ⟨q, d⟩ := x
    simp only [List.cons_append, look]
    split
    · rfl
    · rename_i hb
      refine ih ?_
      obtain ⟨y, hy, e⟩ := h
      rcases List.mem_cons.1 hy with rfl | hy
      · simp only at e; subst e; rw [Nat.beq_refl] at hb; cases hb
      · exact ⟨y, hy, e⟩
theorem envOf_mem : ∀ (ds : List D) (k : Nat) (x : Nat × D), x ∈ envOf k ds → k ≤ x.1 ∧ x.1 < k + ds.length
  | [], k, x, h => by cases h
  | d :: ds, k, x, h => by
    rcases List.mem_cons.1 h with rfl | h
    · simp
    · have := envOf_mem ds (k + 1) x h
      simp only [List.length_cons]; omega
theorem envOf_has : ∀ (ds : List D) (k t : Nat), k ≤ t → t < k + ds.length → ∃ x ∈ envOf k ds, x.1 = t
  | [], k, t, h1, h2 => by simp at h2; omega
  | d :: ds, k, t, h1, h2 => by
    by_cases h : t = k
    · subst h; exact ⟨(t, d), by simp [envOf], rfl⟩
    · obtain ⟨x, hx, e⟩ := envOf_has ds (k + 1) t (by omega) (by simp only [List.length_cons] at h2; omega)
      exact ⟨x, by simp [envOf, hx], e⟩
theorem shE_eq (k : Nat) (env : List (Nat × D)) : ∀ K : List (Nat × D) → Prop, shE k env K = K (env.map fun x => (x.1 + k, x.2)) := by
  induction env with
  | nil => intro K; rfl
  | cons x env ih => intro K; obtain ⟨t, d⟩ := x; simp only [shE, forceN_eq, ih, List.map_cons]
def unEF (k : Nat) : List (Nat × D) → List (Nat × D)
  | [] => []
  | (t, d) :: r => match Nat.ble k t with | true => (t - k, d) :: unEF k r | false => unEF k r
theorem unE_eq (k : Nat) (env : List (Nat × D)) : ∀ K : List (Nat × D) → Prop, unE k env K = K (unEF k env) := by
  induction env with
  | nil => intro K; rfl
  | cons x env ih =>
    intro K
    obtain ⟨t, d⟩ := x
    simp only [unE, unEF]
    cases Nat.ble k t with
    | true => simp only [forceN_eq, ih]
    | false => simp only [ih]
theorem look_unEF (k : Nat) (env : List (Nat × D)) (t : Nat) : look (unEF k env) t = look env (t + k) := by
  induction env with
  | nil => rfl
  | cons x env ih =>
    obtain ⟨q, d⟩ := x
    simp only [unEF]
    cases hb : Nat.ble k q with
    | true =>
      rw [Nat.ble_eq] at hb
      have e : Nat.beq (q - k) t = Nat.beq q (t + k) := by
        by_cases h : q = t + k
        · have h1 : q - k = t := by omega
          rw [h1, h]; simp [Nat.beq_refl]
        · have h1 : Nat.beq (q - k) t = false := by
            cases hq : Nat.beq (q - k) t with
            | false => rfl
            | true => have := beq_nat_true hq; omega
          have h2 : Nat.beq q (t + k) = false := by
            cases hq : Nat.beq q (t + k) with
            | false => rfl
            | true => exact absurd (beq_nat_true hq) h
          rw [h1, h2]
      simp only [look, e, ih]
    | false =>
      have hne : ¬ k ≤ q := fun h => by rw [← Nat.ble_eq] at h; rw [h] at hb; cases hb
      have h2 : Nat.beq q (t + k) = false := by
        cases hq : Nat.beq q (t + k) with
        | false => rfl
        | true => have := beq_nat_true hq; omega
      simp only [look, h2, ih]

theorem Mem.fr {sz : TypeId → Nat} {F F' : Fr} (h : Mem sz w0 F V μ ω box row w) (hF : F'.V = F.V) : Mem sz w0 F' V μ ω box row w :=
  ⟨h.below, h.vok, by rw [hF]; exact h.vle, by rw [hF]; exact h.vold, h.bl, h.hbox, h.rl, h.hrow, h.uniq, h.new, h.vmut⟩

/-- A call that is walked through. -/
theorem inlK_sound (hT : TOk P T) (hS : Sim (szOf T) w0 V0 V μ ω s a w) {f : FuncId} {ds : List D} {vs : List Value} {K : D → St → Prop} (hv : Vals (szOf T) V μ ω vs ds) (h : inlK P T s f ds K) :
    (∀ args w, (callFunc f args).run P w = .ok (.enter f args) w) ∧ Calls P f vs.toArray w fun e w' => ∃ v d s' V' μ' ω', e = .returned v ∧ K d s' ∧ RS (szOf T) V' μ' ω' v d ∧ Sim (szOf T) w0 V0 V' μ' ω' s' a w' := by
  obtain ⟨fn, c, hf, hb, hcall, h⟩ := h
  refine ⟨hcall, calls_of_wp hf hb ?_⟩
  obtain ⟨hn, h⟩ := leB_iff.1 h
  obtain ⟨env, box, row, n⟩ := s
  simp only [shE_eq, catK_eq] at h
  have hS' : Sim (szOf T) w0 ⟨V0.V, fun t => slotV V0 n a (t - fn.ntmps)⟩ V μ ω ⟨envOf 0 ds ++ env.map (fun x => (x.1 + fn.ntmps, x.2)), box, row, fn.ntmps⟩
      { tmps := vs.toArray ++ Array.replicate (fn.ntmps - vs.toArray.size) undef, defers := [] } w := by
    refine ⟨by have := hv.1; simp; omega, rfl, fun t => ?_, hS.mem.fr rfl⟩
    show RS _ _ _ _ (slotV _ fn.ntmps _ t) (look (envOf 0 ds ++ env.map (fun x => (x.1 + fn.ntmps, x.2))) t)
    unfold slotV
    split
    · rename_i htn
      show RS _ _ _ _ ((vs.toArray ++ Array.replicate (fn.ntmps - vs.toArray.size) undef).getD t undef) _
      by_cases ht : t < ds.length
      · rw [look_append_in _ _ _ (envOf_has ds 0 t (by omega) (by omega)), look_envOf, if_pos (Nat.zero_le _), Nat.sub_zero]
        have hta : t < vs.length := by rw [hv.1]; exact ht
        have hd := List.getElem?_eq_getElem ht
        have ha := List.getElem?_eq_getElem hta
        have := hv.2 t _ _ ha hd
        have e1 : (vs.toArray ++ Array.replicate (fn.ntmps - vs.toArray.size) undef).getD t undef = vs[t] := by
          have hv1 := hv.1
          simp [Array.getD, hta]
          omega
        rw [e1]
        simp only [List.getD, hd, Option.getD_some]
        exact this
      · rw [look_append _ _ _ (fun x hx => by have := envOf_mem ds 0 x hx; omega), look_shift_lt _ _ _ htn]
        exact .imm _ _ (.u _)
    · rename_i htn
      rw [look_append _ _ _ (fun x hx => by have := envOf_mem ds 0 x hx; omega)]
      have e2 : t = (t - fn.ntmps) + fn.ntmps := by omega
      rw [e2, look_shift, ← e2]
      exact hS.env (t - fn.ntmps)
  refine wp_mono (h.run w0 _ V μ ω _ w hS') ?_
  rintro e a' w' ⟨s', V', μ', ω', hq, hS2⟩
  have fin : inlE T fn n K s' → a'.defers = [] ∧ ∃ v, (results fn a'.tmps).run P w' = .ok v w' ∧ ∃ v' d s' V' μ' ω', Ending.returned v = .returned v' ∧ K d s' ∧ RS (szOf T) V' μ' ω' v' d ∧ Sim (szOf T) w0 V0 V' μ' ω' s' a w' := by
    intro hr
    obtain ⟨env', box', row', m⟩ := s'
    obtain ⟨hm, hr⟩ := eqN_iff hr
    obtain ⟨us, ds', hk, hv', hrun⟩ := resK_sound hT hS2 _ _ hr
    refine ⟨hS2.defers, if h : us.toArray.size = 1 then us.toArray[0] else .tuple us.toArray, ?_, ?_⟩
    · rw [results_eq, Array.mapM_eq_mapM_toList]
      simp only [Sem.run_bind, Sem.run_map, hrun, Result.andThen_ok, Sem.run_pure]
    · rw [unE_eq] at hk
      refine ⟨_, _, _, V', μ', ω', rfl, hk, oneD_rel hv', hS.tmps, hS.defers, fun t => ?_, hS2.mem.fr rfl⟩
      have := hS2.env (t + fn.ntmps)
      unfold slotV at this
      rw [if_neg (by show ¬ t + fn.ntmps < m; omega)] at this
      show RS _ _ _ _ (slotV V0 n a t) (look (unEF fn.ntmps env') t)
      rw [look_unEF]
      have e3 : t + fn.ntmps - fn.ntmps = t := by omega
      simp only [e3] at this
      exact this
  cases e <;> simp only [inlQ] at hq
  · exact fin hq
  · exact fin hq

/-- Every operation. -/
theorem RI.ground {sz : TypeId → Nat} {V V' : Vw} {v : Value} {d : D} (h : RI sz V v d) (hg : d.ground = true) : RI sz V' v d := by
  have h2 := toV1_ri (sz := sz) (V := V') hg
  rwa [← h.uniq (toV1_ri (sz := sz) (V := V') hg) hg] at h2
theorem RS.ownOrG {sz : TypeId → Nat} {V V' : Vw} {μ : List Nat} {ω : List Value} {v : Value} {d : D} (h : RS sz V μ ω v d) (hg : d.ownOrG = true) : RS sz V' μ ω v d := by
  cases h with
  | imm _ _ hi => cases d <;> first | exact .imm _ _ (hi.ground hg) | cases hi
  | own r n A N c h1 h2 => exact .own r n A N c h1 h2
  | op => cases hg
  | bp => cases hg
  | agg => cases hg
  | tup => cases hg
  | fnh => cases hg
theorem ownOrGs_at : ∀ {l : List D}, ownOrGs l = true → ∀ (j : Nat) d, l[j]? = some d → d.ownOrG = true
  | [], _, j, d, h => by simp at h
  | c :: l, hf, j, d, h => by
    simp only [ownOrGs, Bool.and_eq_true] at hf
    cases j with
    | zero => simp at h; subst h; exact hf.1
    | succ j => exact ownOrGs_at hf.2 j d (by simpa using h)
theorem ownOrGt_at : ∀ {l : List D}, ownOrGt l = true → ∀ (j : Nat) d, l[j]? = some d → d.ownOrG1 = true
  | [], _, j, d, h => by simp at h
  | c :: l, hf, j, d, h => by
    simp only [ownOrGt, Bool.and_eq_true] at hf
    cases j with
    | zero => simp at h; subst h; exact hf.1
    | succ j => exact ownOrGt_at hf.2 j d (by simpa using h)
theorem RS.ownOrG1 {sz : TypeId → Nat} {V V' : Vw} {μ : List Nat} {ω : List Value} {v : Value} {d : D} (h : RS sz V μ ω v d) (hg : d.ownOrG1 = true) : RS sz V' μ ω v d := by
  by_cases hd : ∃ cs, d = .agg cs
  · obtain ⟨cs, rfl⟩ := hd
    obtain ⟨vs, rfl, hs, ho, hR⟩ := h.agg_
    exact .agg _ vs hs ho fun j v d h1 h2 => (hR j v d h1 h2).ownOrG (ownOrGs_at hg j d h2)
  · refine h.ownOrG ?_
    cases d <;> first | exact hg | exact absurd ⟨_, rfl⟩ hd
theorem RS.ownOrG2 {sz : TypeId → Nat} {V V' : Vw} {μ : List Nat} {ω : List Value} {v : Value} {d : D} (h : RS sz V μ ω v d) (hg : d.ownOrG2 = true) : RS sz V' μ ω v d := by
  by_cases hd : ∃ cs, d = .tup cs
  · obtain ⟨cs, rfl⟩ := hd
    obtain ⟨vs, rfl, hs, hR⟩ := h.tup_
    exact .tup _ vs hs fun j v d h1 h2 => (hR j v d h1 h2).ownOrG1 (ownOrGt_at hg j d h2)
  · refine h.ownOrG1 ?_
    cases d <;> first | exact hg | exact absurd ⟨_, rfl⟩ hd
theorem gRowsP_at : ∀ {rows : Rows}, gRowsP rows → ∀ (r : Nat) (e : TypeId) (xs : List (List D)), rows[r]? = some (some (e, xs)) → ∀ x ∈ xs, grounds x = true
  | [], _, r, e, xs, h => by simp at h
  | none :: l, hf, r, e, xs, h => by
    cases r with
    | zero => simp at h
    | succ r => exact gRowsP_at (rows := l) hf r e xs (by simpa using h)
  | some (e', xs') :: l, hf, r, e, xs, h => by
    cases r with
    | zero => simp at h; obtain ⟨_, rfl⟩ := h; exact hf.1
    | succ r => exact gRowsP_at (rows := l) hf.2 r e xs (by simpa using h)
/-- What comes back, seen from a memory that knows less of what was there. -/
theorem Res.less {sz : TypeId → Nat} {V V' : Vw} {ω0 : List Value} {row0 : Rows} (hV : VOk V w) (h : Res sz (heapV w) V' ω0 row0 w w') (hg : gRowsP row0) :
    Res sz V (fun p => if p.block < w.heap.size then V p else V' p) ω0 row0 w w' := by
  have hin : ∀ p u, V p = some u → p.block < w.heap.size := fun p u hp => by
    have hc := hV p u hp
    apply Classical.byContradiction
    intro hn
    have : w.heap[p.block]? = none := by simp; omega
    simp [World.cell?, this] at hc
  refine ⟨h.below, fun p u hp => by simp only [if_pos (hin p u hp)]; exact hp, fun p u hp => ?_, fun p hp => by simp only [if_pos hp], h.rl, fun r v e xs h1 h2 => ?_, h.uniq, fun p u r v x hp h1 h2 => ?_⟩
  · by_cases hb : p.block < w.heap.size
    · simp only [if_pos hb] at hp
      exact (show Ext w w' from h.below).cell (hV p u hp)
    · simp only [if_neg hb] at hp
      exact h.vok p u hp
  · obtain ⟨vals, a, b, c, d⟩ := h.rows r v e xs h1 h2
    refine ⟨vals, a, b, c, fun i rw_ j d' e1 e2 => ?_⟩
    obtain ⟨u, hu, hr⟩ := d i rw_ j d' e1 e2
    exact ⟨u, hu, hr.ground (grounds_at (gRowsP_at hg r e xs h2 rw_ (List.mem_of_getElem? e1)) j d' e2)⟩
  · by_cases hb : p.block < w.heap.size
    · intro he
      obtain ⟨e, xs⟩ := x
      obtain ⟨vals, hown, _⟩ := h.rows r v e xs h1 h2
      have := (hown.lt _ he).1
      omega
    · simp only [if_neg hb] at hp
      exact h.vmut p u r v x hp h1 h2
theorem exposeK_sound {s : St} (hS : Sim (szOf T) w0 V0 V μ ω s a w) {dst : Option Nat} {type : TypeId} {pos : String} {after : Array Edge} {guard : Option (Nat × Bool)} {f : FuncId} {args : Array Operand} {argTypes : Array TypeId} {K : D → St → Prop}
    (h : exposeK P T s f argTypes.toList (s.gets args.toList) K) :
    (execOp a.eval ⟨dst, .call ⟨.value (.func f), args, argTypes⟩, type, pos, after, guard⟩).run P w = .ok (.enter f (args.map a.eval)) w ∧
    Calls P f (args.map a.eval) w fun e w' => ∃ v d s' V' ω', e = .returned v ∧ K d s' ∧ RS (szOf T) V' μ ω' v d ∧ Sim (szOf T) w0 V0 V' μ ω' s' a w' ∧ VLe V V' ∧ Pre ω ω' ∧ Ext w w' := by
  obtain ⟨es, ⟨R, hf, h⟩, hes, hri⟩ := expos_sound hS.mem argTypes.toList (s.gets args.toList) (args.toList.map a.eval) _ (by simp [St.gets]) (hS.gets args.toList).2 h
  refine ⟨?_, ?_⟩
  · simp only [execOp, resolve, Act.eval, Deferred.ofValue, invoke, Sem.run_bind, Sem.run_pure, Result.andThen_ok]
    rw [show (#[] ++ args.map a.eval) ++ #[] = args.map a.eval by simp, hf.call]
  have hcalls := hf.run (heapV w) w (args.map a.eval) (fun _ _ h => h) (by simp [hes, St.gets]) (fun j v d h1 h2 => hri j v d (by simpa using h1) h2)
  refine hcalls.mono ?_
  rintro e w'' ⟨V', ω0, row0, v, d, rfl, hR, hrs, hres⟩
  obtain ⟨hg, hk⟩ := h d row0 hR
  obtain ⟨hd, hk⟩ := boolP_iff.1 hk
  have hres2 := hres.less hS.mem.vok hg
  have hrs2 := hrs.ownOrG2 (V' := fun p => if p.block < w.heap.size then V p else V' p) hd
  obtain ⟨env, box, row, n⟩ := s
  have hM := hS.mem.call hres2
  have hl : row.length = ω.length := hS.mem.rl.symm
  dsimp only at hk
  rw [hl] at hk
  obtain ⟨d', hk, hr⟩ := shiftD_sound (μ := μ) (ω' := ω ++ ω0) (VLe.refl _) (fun r u hu => by rw [List.getElem?_append_right (by omega), Nat.add_sub_cancel]; exact hu) hrs2 hk
  rw [catK_eq] at hk
  exact ⟨v, d', _, _, ω ++ ω0, rfl, hk, hr, ⟨hS.tmps, hS.defers, fun t => (hS.env t).mono hres2.le (.refl μ) (.append _ _), hM⟩, hres2.le, .append _ _, hres2.below⟩
theorem vop_sound (hT : TOk P T) (hS : Sim (szOf T) w0 V0 V μ ω s a w) {o : Oper} {K : D → St → Prop} (h : vop P T s o K) : Vok P T w0 V0 (effOf s o) V μ ω a w o K := by
  obtain ⟨dst, op, type, pos, after, guard⟩ := o
  cases op
  case alloc t =>
    simp only [vop] at h
    split at h
    case h_2 => exact h.elim
    rename_i ti hti
    obtain ⟨i, z, h1, h2, h3, h4, h5, h6, h7⟩ := (hT _ _ hti).info
    obtain ⟨d, s', μ', hk, hr, hS', hpre⟩ := newBox_sound (t := t) hS (AggR.zero h5 h7) h
    refine .value (v := .pointer (some ⟨w.heap.size, 0, none⟩)) (w' := w.alloc (.cells z.cells t)) ?_ hk hr hS' (.ext (fun _ _ h => h) hpre (.refl _) (Ext.alloc _ _))
    simp [execOp, Instr.alloc, zeroValue, typeInfo, h1, h4, newVar, newRow]
  case box t x =>
    simp only [vop, forceL_eq] at h
    obtain ⟨cs, hag, h⟩ := cellsK_sound (hS.get x) h
    obtain ⟨d, s', μ', hk, hr, hS', hpre⟩ := newBox_sound (t := t) hS hag h
    refine .value (v := .pointer (some ⟨w.heap.size, 0, none⟩)) (w' := w.alloc (.cells (a.eval x).cells t)) ?_ hk hr hS' (.ext (fun _ _ h => h) hpre (.refl _) (Ext.alloc _ _))
    simp [execOp, Instr.box, newVar, newRow]
  case store t x y =>
    simp only [vop] at h
    obtain ⟨ds, hag, h⟩ := cellsK_sound (hS.get y) h
    split at h
    · exact h.elim
    rename_i ti hti
    obtain ⟨hsz, h⟩ := eqN_iff h
    have hrun : ∀ p w', a.eval x = .pointer (some p) → (storeCells p (a.eval y).cells.toList).run P w = .ok () w' → (execOp a.eval ⟨dst, .store t x y, type, pos, after, guard⟩).run P w = .ok .skip w' := by
      intro p w' hp hst
      have hz : ¬ (a.eval y).cells.size ≠ ti.size := by rw [hag.size, hsz]; simp
      simp [execOp, Instr.storeAt, hp, Instr.sureAddr, storeVar, (hT _ _ hti).size, hag.size, ← hsz, hst]
    split at h
    · rename_i i off hx
      obtain ⟨env, box, row, n⟩ := s
      dsimp only at h
      split at h
      case h_2 => exact h.elim
      rename_i cs hcs
      simp only [leB_iff, forceL_eq] at h
      obtain ⟨hle, h⟩ := h
      obtain ⟨_, h⟩ := setK_iff _ _ _ _ h
      have hxv := hS.get x
      rw [hx] at hxv
      obtain ⟨p, w', hp, hst, hS', hstep⟩ := store_bp_sound (P := P) hS hxv hag hcs hle
      exact .skip (hrun p w' hp hst) h hS' (by simp only [effOf, hx, srcOf]; exact hstep)
    · rename_i r e j off hx
      have hxv := hS.get x
      rw [hx] at hxv
      split at h
      case h_2 => exact h.elim
      rename_i e' xs0 hr0
      obtain ⟨he, h20⟩ := eqN_iff h
      subst he
      obtain ⟨_, h21⟩ := elemK_iff h20
      obtain ⟨V1, ds1, s1, h22, hv1, hS1, hle1⟩ := pubsK_sound 8 hS (vs := (a.eval y).cells.toList) ⟨by rw [Array.length_toList]; exact hag.size, fun j v d h1 h2 => hag.rel j v d (by simpa using h1) h2⟩ h21
      obtain ⟨env, box, row, n⟩ := s1
      obtain ⟨ds2, h23, hds⟩ := normL_sound ds1 off _ _ hv1.1 hag.one hv1.2 h22
      split at h23
      case h_2 => exact h23.elim
      rename_i e2 xs hr
      obtain ⟨he, h24⟩ := eqN_iff h23
      subst he
      obtain ⟨rw_, hj, hle, xs', rfl, h1⟩ := h24
      obtain ⟨_, hk⟩ := setK_iff _ _ _ _ h1
      have hxv1 : RS (szOf T) V1 μ ω (a.eval x) (.op r e j off) := by
        obtain ⟨g, N, c, h5, h6⟩ := hxv.op_
        rw [h6]
        exact .op r e j off g N c h5
      obtain ⟨p, w', hp, hst, hS', hstep⟩ := store_op_sound (P := P) hS1 hxv1 hds hr hj hle
      exact .skip (hrun p w' hp hst) hk hS' (by simp only [effOf, hx, srcOf]; exact ⟨hle1, hstep.pre, hstep.row, hstep.foot⟩)
    · exact h.elim
  case buildSlice t len ps =>
    simp only [vop] at h
    split at h
    case h_2 => exact h.elim
    rename_i e zz hti
    obtain ⟨⟨ti, hte, hs1, hby⟩, h⟩ := elemK_iff h
    obtain ⟨hseq, h⟩ := seqK_iff h
    obtain ⟨hlen, h⟩ := eqN_iff h
    rw [leB_iff] at h
    obtain ⟨hbig, h⟩ := h
    obtain ⟨V1, ds1, s1, h, hv1, hS1, hle1⟩ := pubsK_sound 8 hS (hS.gets _) h
    obtain ⟨env, box, row, n⟩ := s1
    dsimp only at h
    obtain ⟨rows, h, h1, h2, h3⟩ := partsK_sound ds1 0 _ _ hv1.1 hv1.2 h
    have hu : P.underlying t = some (.slice e) := (hT _ _ hti).kind
    obtain ⟨i, z, g1, g2, g3, g4, g5, g6, g7⟩ := (hT _ _ hte).info
    have hsz := szOf_eq hte
    have hl : len = ps.toList.length := by simpa using hlen
    have hzip : (ps.map fun x => (x.1, a.eval x.2)).toList = (List.range' 0 (ps.toList.map fun x => a.eval x.2).length).zip (ps.toList.map fun x => a.eval x.2) := by
      have hq : ps.toList.map (·.1) = List.range' 0 ps.toList.length := by simpa using hseq
      rw [Array.toList_map, List.length_map, ← hq]
      apply List.ext_getElem?
      intro j
      simp only [List.getElem?_map, List.zip_map']
    obtain ⟨us, f1, f2, _, f4⟩ := fill_rows (size := szOf T e) (len := len) (ps.toList.map fun x => a.eval x.2) 0 ((Array.range (len * szOf T e)).map (fun k => (if len * szOf T e = 0 then #[] else z.cells)[k % (if len * szOf T e = 0 then #[] else z.cells).size]!)) (by simp) (by simp [hl]) (by simpa using h2)
    have hrr := rowR_cells (T := T) (V := V1) (e := e) (us := us) (vs := ps.toList.map fun x => a.eval x.2) (rows := rows) rfl (by rw [f2, hl]; simp) (by simpa using h1) (by simpa using h2) f4 (by simpa using h3)
    have hrl : rows.length = len := by rw [h1, hl]; simp
    have hm : len ≤ maxLen := by
      have : len * 1 ≤ len * szOf T e := Nat.mul_le_mul_left _ (by rw [hsz]; exact hs1)
      unfold maxLen; omega
    have hown := World.ownsRow_lit (e := e) (size := szOf T e) w us len (base := w0.heap.size) hS1.mem.below.size hm f2
    obtain ⟨d, s', ω', hk, hr', hS', hpre⟩ := newRow_sound (e := e) (xs := rows) (vals := us.toList) (m := len) (c := len) (A := some ⟨w.heap.size, 0, none⟩) (v := .slice (some ⟨w.heap.size, 0, none⟩) len len) (w' := w.alloc (.cells us e)) hS1 (Ext.alloc _ _) (by rw [hrl]) (by rw [hrl]; exact hown) hrr
      (fun g hg => by simp [Value.ownBlock] at hg; omega) hrl.symm h
    refine .value (v := .slice (some ⟨w.heap.size, 0, none⟩) len len) (w' := w.alloc (.cells us e)) ?_ hk hr' hS' (.ext hle1 (.refl _) hpre (Ext.alloc _ _))
    have hzs : (sizeOf e).run P w = .ok (szOf T e) w := by rw [(hT _ _ hte).size, hsz]
    have hz : (zeroValue e).run P w = .ok z w := by simp [zeroValue, typeInfo, g1, g4]
    have hb := run_buildSlice (t := t) (parts := ps.map fun x => (x.1, a.eval x.2)) hu hzs hz hbig (by rw [hzip]; exact f1)
    simp [execOp, hb]
  case makeSlice t x y =>
    simp only [vop] at h
    split at h
    case h_2 => exact h.elim
    rename_i k1 l0 k2 c0 _ _ e zz e1 e2 hti
    split at h
    case h_2 => exact h.elim
    rename_i ti hte
    simp only [leB_iff] at h
    obtain ⟨hs1, hby, l, c, rfl, rfl, hlc, hc, h⟩ := h
    have hx := hS.get x
    have hy := hS.get y
    rw [e1] at hx
    rw [e2] at hy
    have hu := (hT _ _ hti).kind
    obtain ⟨i, z, g1, g2, g3, g4, g5, g6, g7⟩ := (hT _ _ hte).info
    have hsz := szOf_eq hte
    have haz := AggR.zero (sz := szOf T) (V := V) (μ := μ) (ω := ω) g5 g7
    obtain ⟨zd, h, hzd⟩ := normL_sound (T := T) (e := e) ti.zero 0 z.cells.toList _ (by rw [Array.length_toList]; exact haz.size) g7 (fun j v d h1 h2 => haz.rel j v d (by simpa using h1) h2) h
    obtain ⟨zs, rfl, h⟩ := h
    have hzl : z.cells.toList.length = szOf T e := by rw [hsz, ← g6]; simp
    have hm : c ≤ maxLen := by unfold maxLen; omega
    have hbytes : (i.bytes : Int) * (c : Int) ≤ 281474976710656 := by
      have h1 : i.bytes * c ≤ 65536 * 2147483648 := Nat.mul_le_mul (by rw [g3]; exact hby) hc
      have h2 : ((i.bytes * c : Nat) : Int) = (i.bytes : Int) * (c : Int) := Int.natCast_mul _ _
      omega
    have hrun := run_make (P := P) w t e i z hu g1 g4 k1 k2 (l : Int) (c : Int) (by omega) (by omega) hbytes (by omega)
    simp only [Int.toNat_natCast] at hrun
    have hlsz : l * szOf T e ≤ c * szOf T e := Nat.mul_le_mul_right _ hlc
    have hcell : ∀ k, k < c * szOf T e → (madeCells z.cells (c * i.size))[k]? = z.cells.toList[k % szOf T e]? := by
      intro k hk
      have hz0 : 0 < szOf T e := by omega
      have hkm : k % szOf T e < z.cells.size := by rw [g6, ← hsz]; exact Nat.mod_lt _ hz0
      have hzz : z.cells.size = szOf T e := by rw [g6, hsz]
      rw [Array.getElem?_toList]
      simp only [madeCells, Array.getElem?_map, Array.getElem?_range]
      rw [if_pos (by rw [g2, ← hsz]; exact hk)]
      simp only [Option.map_some, hzz]
      rw [Array.getElem?_eq_getElem hkm, getElem!_pos z.cells _ hkm]
    have hmade : (madeCells z.cells (c * i.size)).size = c * szOf T e := by rw [size_madeCells, g2, hsz]
    have hown : (w.alloc (.cells (madeCells z.cells (c * i.size)) e)).ownsRow w0.heap.size e (szOf T e) (.slice (some ⟨w.heap.size, 0, none⟩) l c) l ((madeCells z.cells (c * i.size)).toList.take (l * szOf T e)) :=
      ⟨by rw [List.length_take, Array.length_toList, hmade]; omega, .inr ⟨w.heap.size, c, _, rfl, hS.mem.below.size, heap_alloc_new w _, hlc, hm, hmade, rfl⟩⟩
    have hrr : RowR (szOf T) V e ((madeCells z.cells (c * i.size)).toList.take (l * szOf T e)) (List.replicate l zd) := by
      have hzdl : zd.length = szOf T e := by rw [← hzd.size]; exact hzl
      refine ⟨fun u hu' => ?_, fun q rw_ hq => ?_, fun q rw_ j d hq hj => ?_⟩
      · obtain ⟨k, hk⟩ := List.getElem?_of_mem hu'
        have hkl : k < l * szOf T e := by
          have := (List.getElem?_eq_some_iff.1 hk).1
          rw [List.length_take] at this; omega
        rw [List.getElem?_take_of_lt hkl, Array.getElem?_toList, hcell k (by omega)] at hk
        exact g7 u (List.mem_of_getElem? hk)
      · rw [List.getElem?_replicate] at hq
        split at hq
        · cases hq; exact hzdl
        · cases hq
      · rw [List.getElem?_replicate] at hq
        split at hq
        case isFalse => cases hq
        rename_i hql
        cases hq
        have hjl : j < szOf T e := by rw [← hzdl]; exact (List.getElem?_eq_some_iff.1 hj).1
        have hlt : q * szOf T e + j < l * szOf T e := by
          have : (q + 1) * szOf T e ≤ l * szOf T e := Nat.mul_le_mul_right _ hql
          rw [Nat.add_mul] at this; omega
        have hjz : j < z.cells.toList.length := by omega
        refine ⟨z.cells.toList[j], ?_, hzd.rel j _ d (List.getElem?_eq_getElem hjz) hj⟩
        rw [List.getElem?_take_of_lt hlt, Array.getElem?_toList, hcell _ (by omega), show (q * szOf T e + j) % szOf T e = j by rw [Nat.mul_comm, Nat.mul_add_mod]; exact Nat.mod_eq_of_lt hjl]
        exact List.getElem?_eq_getElem hjz
    have hrl : (List.replicate l zd).length = l := List.length_replicate
    obtain ⟨d, s', ω', hk, hr', hS', hpre⟩ := newRow_sound (e := e) (xs := List.replicate l zd) (m := l) (c := c) (A := some ⟨w.heap.size, 0, none⟩) (v := .slice (some ⟨w.heap.size, 0, none⟩) l c) hS (Ext.alloc _ _) (by rw [hrl]) (by rw [hrl]; exact hown) hrr
      (fun g hg => by simp [Value.ownBlock] at hg; omega) hrl.symm h
    refine .value (v := .slice (some ⟨w.heap.size, 0, none⟩) l c) (w' := w.alloc (.cells (madeCells z.cells (c * i.size)) e)) ?_ hk hr' hS' (.ext (fun _ _ h => h) (.refl _) hpre (Ext.alloc _ _))
    simp [execOp, hx.int_, hy.int_, hrun]
  case call c =>
    obtain ⟨callee, args, argTypes⟩ := c
    cases callee with
    | invoke r m => exact .of_qop hT hS h
    | builtin b =>
      cases b <;> first | exact .of_qop hT hS h | skip
      simp only [vop] at h
      split at h
      case h_2 => exact h.elim
      rename_i x y t t' ha ht
      obtain ⟨htt, h30⟩ := eqN_iff h
      subst htt
      obtain ⟨args⟩ := args
      obtain ⟨argTypes⟩ := argTypes
      dsimp only at ha ht
      subst ha ht
      obtain ⟨d, v, s', ω', w', hk, hr, hS', hrun, hstep⟩ := appK_sound (P := P) (ty := type) hT hS (hS.get x) (hS.get y) h30
      refine .value (v := v) (w' := w') ?_ hk hr hS' hstep
      simp [execOp, resolve, invoke, builtin, hrun]
    | value f =>
      cases f <;> first | exact .of_qop hT hS h | skip
      · rename_i t
        simp only [vop] at h
        rcases h with h | h
        · exact .of_qop hT hS h
        obtain ⟨f, first, cap, vs, us, hv, hs1, hs2, hr1, hr2, h⟩ := fnK_sound (hS.get (.tmp t)) h
        rw [forceL_eq] at h
        have hg := hS.gets args.toList
        have hvals : Vals (szOf T) V μ ω (vs.toList ++ args.toList.map a.eval ++ us.toList) (first ++ s.gets args.toList ++ cap) :=
          ⟨by have := hg.1; simp at this ⊢; omega, cat3 (fun j v d h1 h2 => hr1 j v d (by simpa using h1) h2) hg.2 (fun j v d h1 h2 => hr2 j v d (by simpa using h1) h2) (by simpa using hs1) hg.1⟩
        obtain ⟨hcall, hcalls⟩ := inlK_sound hT hS hvals h
        intro next Q hn
        unfold Oper.wp
        have hrun : (execOp a.eval ⟨dst, .call ⟨.value (.tmp t), args, argTypes⟩, type, pos, after, guard⟩).run P w = .ok (.enter f (vs.toList ++ args.toList.map a.eval ++ us.toList).toArray) w := by
          simp only [execOp, resolve, hv, Deferred.ofValue, invoke, Sem.run_bind, Sem.run_pure, Result.andThen_ok]
          rw [hcall]
          congr 2
          apply Array.ext'
          simp
        rw [hrun]
        show Calls P f _ w _
        refine hcalls.mono ?_
        rintro e w'' ⟨v, d, s', V', μ', ω', rfl, hk, hr, hS'⟩
        exact hn d v s' V' μ' ω' w'' hk hr hS' (fun h => by cases h)
      rename_i f
      simp only [vop] at h
      rcases h with h | h | h | h
      · exact .of_qop hT hS h
      case inr.inr.inr =>
        obtain ⟨hrun, h⟩ := exposeK_sound (dst := dst) (type := type) (pos := pos) (after := after) (guard := guard) hS h
        intro next Q hn
        unfold Oper.wp
        rw [hrun]
        show Calls P f (args.map a.eval) w _
        refine h.mono ?_
        rintro e w'' ⟨v, d, s', V', ω', rfl, hk, hr, hS', _⟩
        exact hn d v s' V' μ ω' w'' hk hr hS' (fun h => by cases h)
      case inr.inr.inl =>
        rw [forceL_eq] at h
        obtain ⟨hcall, hcalls⟩ := inlK_sound hT hS (hS.gets args.toList) h
        intro next Q hn
        unfold Oper.wp
        have hrun : (execOp a.eval ⟨dst, .call ⟨.value (.func f), args, argTypes⟩, type, pos, after, guard⟩).run P w = .ok (.enter f (args.toList.map a.eval).toArray) w := by
          simp only [execOp, resolve, Act.eval, Deferred.ofValue, invoke, Sem.run_bind, Sem.run_pure, Result.andThen_ok]
          rw [hcall]
          congr 2
          apply Array.ext'
          simp
        rw [hrun]
        show Calls P f _ w _
        refine hcalls.mono ?_
        rintro e w'' ⟨v, d, s', V', μ', ω', rfl, hk, hr, hS'⟩
        exact hn d v s' V' μ' ω' w'' hk hr hS' (fun h => by cases h)
      obtain ⟨V1, ds1, s1, h, hv1, hS1, _⟩ := pubsK_sound 8 hS (hS.gets _) h
      obtain ⟨es, ⟨R, hf, h⟩, hes, hri⟩ := exposN_sound argTypes.toList ds1 _ _ hv1 h
      obtain ⟨env, box, row, n⟩ := s1
      intro next Q hn
      have hcalls := hf.run V1 w (args.map a.eval) hS1.mem.vok (by have := hv1.1; simp at this ⊢; omega) (fun j v d h1 h2 => hri j v d (by simpa using h1) h2)
      unfold Oper.wp
      have hrun : (execOp a.eval ⟨dst, .call ⟨.value (.func f), args, argTypes⟩, type, pos, after, guard⟩).run P w = .ok (.enter f (args.map a.eval)) w := by
        simp only [execOp, resolve, Act.eval, Deferred.ofValue, invoke, Sem.run_bind, Sem.run_pure, Result.andThen_ok]
        rw [show (#[] ++ args.map a.eval) ++ #[] = args.map a.eval by simp, hf.call]
      rw [hrun]
      show Calls P f (args.map a.eval) w _
      refine hcalls.mono ?_
      rintro e w'' ⟨V', ω0, row0, v, d, rfl, hR, hrs, hres⟩
      have hM := hS1.mem.call hres
      have hk := h d row0 hR
      have hl : row.length = ω.length := hS1.mem.rl.symm
      dsimp only at hk
      rw [hl] at hk
      obtain ⟨d', hk, hr⟩ := shiftD_sound (μ := μ) (V' := V') (ω' := ω ++ ω0) (VLe.refl V') (fun r u hu => by rw [List.getElem?_append_right (by omega), Nat.add_sub_cancel]; exact hu) hrs hk
      rw [catK_eq] at hk
      exact hn d' v _ V' μ (ω ++ ω0) w'' hk hr ⟨hS1.tmps, hS1.defers, fun t => (hS1.env t).mono hres.le (.refl μ) (.append _ _), hM⟩ (fun h => by cases h)
  all_goals exact .of_qop hT hS h

/-- A region, in the order of the text. -/
theorem vops_sound (hT : TOk P T) {ops : List Oper} {Q : Exit → Act → World → Prop} : ∀ (rest : List Oper) (s : St) (V : Vw) (μ : List Nat) (ω : List Value) (a : Act) (w : World) (K : St → Prop), Sim (szOf T) w0 V0 V μ ω s a w →
    vops P T ops rest s K → (∀ s V μ ω a w, K s → Sim (szOf T) w0 V0 V μ ω s a w → Q .normal a w) → wpList P ops.toArray Q rest a w
  | [], s, V, μ, ω, a, w, K, hS, h, hq => hq s V μ ω a w h hS
  | o :: rest, s, V, μ, ω, a, w, K, hS, h, hq => by
    simp only [vops] at h
    unfold wpList
    rcases wantK_sound hS h with ⟨hw, s1, h, hS⟩ | ⟨hw, s1, h, hS⟩
    · rw [if_pos hw]
      refine .inl (vop_sound hT hS h _ _ fun d v s2 V2 μ2 ω2 w2 hk hr hS2 _ => ?_)
      obtain ⟨s3, h, hS3⟩ := putK_sound hS2 hr hk
      exact vops_sound hT rest s3 _ _ _ _ _ K hS3 h hq
    · rw [if_neg (by rw [hw]; simp)]
      obtain ⟨s3, h, hS3⟩ := putK_sound hS (v := undef) (d := .tup []) (RS.tup [] #[] rfl (fun j v d h => by simp at h)) h
      exact vops_sound hT rest s3 _ _ _ _ _ K hS3 h hq

theorem Ok.region (hT : TOk P T) {s : St} {Q : Exit → St → Prop} {id : Nat} {l : List Oper} (h : vops P T l l s (Q .normal)) : Ok P T (.region id l.toArray false) Q s := by
  refine ⟨fun w0 V0 V μ ω a w hS => ?_⟩
  refine wp_region_lit ?_
  exact vops_sound hT l s V μ ω a w _ hS h fun s' V' μ' ω' a' w' hk hS' => ⟨s', V', μ', ω', hk, hS'⟩
end
end Go.Vx
