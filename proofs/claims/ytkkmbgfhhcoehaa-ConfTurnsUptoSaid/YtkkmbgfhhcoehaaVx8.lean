/- The plain-data machine, part 8: every operation does what it is said to do; regions in the order of the text. Nothing here speaks of one program. -/
import Derived.Test.YtkkmbgfhhcoehaaVx7
namespace Go.Vx
open Go.RowKit

section
variable {w0 w w' : World} {V0 : Fr} {V : Vw} {μ : List Nat} {ω : List Value} {box : List (List D)} {row : Rows} {s : St} {a : Act} {P : Program} {T : Tab}

theorem splice_get {α : Type} {l us : List α} {p : Nat} (h : p + us.length ≤ l.length) (q : Nat) : (l.take p ++ us ++ l.drop (p + us.length))[q]? = if p ≤ q ∧ q < p + us.length then us[q - p]? else l[q]? := by
  rw [List.append_assoc]
  by_cases hj : q < p
  · rw [List.getElem?_append_left (by rw [List.length_take]; omega), List.getElem?_take_of_lt hj, if_neg (by omega)]
  · rw [List.getElem?_append_right (by rw [List.length_take]; omega), List.length_take, Nat.min_eq_left (by omega)]
    by_cases hj2 : q < p + us.length
    · rw [List.getElem?_append_left (by omega), if_pos (by omega)]
    · rw [List.getElem?_append_right (by omega), if_neg (by omega), List.getElem?_drop]
      congr 1; omega
theorem splice_len {α : Type} {l us : List α} {p : Nat} (h : p + us.length ≤ l.length) : (l.take p ++ us ++ l.drop (p + us.length)).length = l.length := by simp; omega
theorem setCells_get {cs ds : List D} {off : Nat} (h : off + ds.length ≤ cs.length) (q : Nat) : (setCells cs off ds)[q]? = if off ≤ q ∧ q < off + ds.length then ds[q - off]? else cs[q]? := by
  unfold setCells
  rw [← List.append_assoc]
  exact splice_get h q
theorem setCells_len {cs ds : List D} {off : Nat} (h : off + ds.length ≤ cs.length) : (setCells cs off ds).length = cs.length := by simp [setCells]; omega

theorem AggR.splice {sz : TypeId → Nat} {vs us : Array Value} {cs ds : List D} (h : AggR sz V μ ω vs cs) (h' : AggR sz V μ ω us ds) {off : Nat} (hle : off + ds.length ≤ cs.length) :
    AggR sz V μ ω (vs.toList.take off ++ us.toList ++ vs.toList.drop (off + us.toList.length)).toArray (setCells cs off ds) := by
  have hu : us.toList.length = ds.length := by rw [Array.length_toList]; exact h'.size
  have hv : vs.toList.length = cs.length := by rw [Array.length_toList]; exact h.size
  refine ⟨by rw [List.size_toArray, splice_len (by omega), setCells_len hle, hv], ?_, ?_⟩
  · intro v hv
    simp only [List.mem_append] at hv
    rcases hv with (hv | hv) | hv
    · exact h.one v (List.mem_of_mem_take hv)
    · exact h'.one v hv
    · exact h.one v (List.mem_of_mem_drop hv)
  · intro j v d h1 h2
    rw [List.getElem?_toArray, splice_get (by omega), hu] at h1
    rw [setCells_get hle] at h2
    by_cases hc : off ≤ j ∧ j < off + ds.length
    · rw [if_pos hc] at h1 h2
      exact h'.rel _ v d (by simpa using h1) h2
    · rw [if_neg hc] at h1 h2
      exact h.rel _ v d (by simpa using h1) h2

theorem Step.setRow {E : Src} {g : Nat} {vs : Array Value} (hE : True → Hit μ ω E g) : Step E V μ ω w V μ ω (w.setRow g vs) := by
  have hg : w.grownBy (w.setRow g vs) (some g) := ⟨rfl, rfl, rfl, by simp, fun k _ hk => setRow_other w g k _ (fun e => hk (by simp [e]))⟩
  refine ⟨fun _ _ h => h, .refl _, fun r v _ h => h, fun q v hc hn => hg.cell hc fun e => hn ?_⟩
  have : q.block = g := by simpa using e
  rw [this]
  exact hE trivial

theorem Ext.alloc (w : World) (o : Obj) : Ext w (w.alloc o) := (Below.refl _ _).alloc (Nat.le_refl _) _

theorem newBox_sound (hS : Sim (szOf T) w0 V0 V μ ω s a w) {vs : Array Value} {cs : List D} {t : TypeId} (ha : AggR (szOf T) V μ ω vs cs) {K : D → St → Prop}
    (h : match s with | ⟨env, box, row, n⟩ => snocK box cs fun box' => natLit box.length fun i => K (.bp i 0) ⟨env, box', row, n⟩) :
    ∃ d s' μ', K d s' ∧ RS (szOf T) V μ' ω (.pointer (some ⟨w.heap.size, 0, none⟩)) d ∧ Sim (szOf T) w0 V0 V μ' ω s' a (w.alloc (.cells vs t)) ∧ Pre μ μ' := by
  obtain ⟨env, box, row, n⟩ := s
  simp only [snocK_eq, natLit_eq] at h
  have hM := hS.mem.newBox (t := t) ha
  refine ⟨_, _, _, h, .bp box.length 0 w.heap.size ?_, ⟨hS.tmps, hS.defers, fun t => (hS.env t).mono (.refl V) (.append _ _) (.refl ω), hM⟩, .append _ _⟩
  have := hS.mem.bl
  dsimp only at this
  rw [← this, List.getElem?_append_right (Nat.le_refl _)]
  simp

theorem AggR.zero {sz : TypeId → Nat} {ti : TI} {z : Value} (h5 : z.cells.toList.map ofVal = ti.zero) (h7 : ∀ v ∈ z.cells.toList, v.oneCell' = true) : AggR sz V μ ω z.cells ti.zero := by
  refine ⟨by rw [← h5]; simp, h7, fun j v d hv hd => ?_⟩
  rw [← h5] at hd
  simp only [List.getElem?_map, Array.getElem?_toList, hv, Option.map_some, Option.some.injEq] at hd
  subst hd
  exact .imm _ _ (RI_ofVal v)

theorem store_bp_sound (hS : Sim (szOf T) w0 V0 V μ ω s a w) {i off : Nat} {v : Value} {us : Array Value} {ds cs : List D} (hv : RS (szOf T) V μ ω v (.bp i off)) (hu : AggR (szOf T) V μ ω us ds) (hcs : s.box[i]? = some cs)
    (hle : off + ds.length ≤ cs.length) : ∃ p w', v = .pointer (some p) ∧ (storeCells p us.toList).run P w = .ok () w' ∧ Sim (szOf T) w0 V0 V μ ω ⟨s.env, s.box.set i (setCells cs off ds), s.row, s.n⟩ a w' ∧ Step (.box i) V μ ω w V μ ω w' := by
  obtain ⟨g, hg, rfl⟩ := hv.bp_
  obtain ⟨vs, t, hh, hs, ho, hR⟩ := hS.mem.hbox i g cs hg hcs
  have hA : AggR (szOf T) V μ ω vs cs := ⟨hs, ho, hR⟩
  have hst := run_storeCells_at P g off t us.toList 0 vs w hh (by rw [Nat.add_zero, Array.length_toList, hu.size, hs]; exact hle) hu.one
  rw [Nat.add_zero] at hst
  refine ⟨_, _, rfl, hst, ⟨hS.tmps, hS.defers, hS.env, ?_⟩, Step.setRow fun e => hg⟩
  exact hS.mem.setBox hg (List.getElem?_eq_some_iff.1 hcs).1 (hA.splice hu hle)

theorem store_op_sound (hS : Sim (szOf T) w0 V0 V μ ω s a w) {r j off : Nat} {e : TypeId} {v : Value} {us : List Value} {ds rw_ : List D} {xs : List (List D)} (hv : RS (szOf T) V μ ω v (.op r e j off)) (hu : AggI (szOf T) V us ds)
    (hr : s.row[r]? = some (some (e, xs))) (hj : xs[j]? = some rw_) (hle : off + ds.length ≤ rw_.length) :
    ∃ p w', v = .pointer (some p) ∧ (storeCells p us).run P w = .ok () w' ∧ Sim (szOf T) w0 V0 V μ ω ⟨s.env, s.box, s.row.set r (some (e, xs.set j (setCells rw_ off ds))), s.n⟩ a w' ∧ Step (.row r) V μ ω w V μ ω w' := by
  obtain ⟨g, N, c, hω, rfl⟩ := hv.op_
  obtain ⟨A, c', vals, he, hc, hm, hA, hA2, hown, hR⟩ := hS.mem.rowShape hω hr
  have hjl : j < xs.length := (List.getElem?_eq_some_iff.1 hj).1
  have hrl := hR.len j rw_ hj
  cases he
  rcases hown.2 with ⟨hnil, _⟩ | ⟨g', cap, cur, he, hbase, hh, h5, h6, h7, h8⟩
  · cases hnil
  cases he
  have hj1 : (j + 1) * szOf T e ≤ xs.length * szOf T e := Nat.mul_le_mul_right _ hjl
  rw [Nat.add_mul, Nat.one_mul] at hj1
  have hcapl : xs.length * szOf T e ≤ c * szOf T e := Nat.mul_le_mul_right _ h5
  have hvl : vals.length = xs.length * szOf T e := hown.1
  have hus := hu.size
  have hfit : j * szOf T e + off + us.length ≤ cur.size := by rw [h7]; omega
  have hfit2 : j * szOf T e + off + us.length ≤ vals.length := by omega
  have hst := run_storeCells_at P g (j * szOf T e + off) e us 0 cur w hh (by omega) hu.one
  rw [Nat.add_zero] at hst
  refine ⟨_, _, rfl, hst, ⟨hS.tmps, hS.defers, hS.env, ?_⟩, Step.setRow fun e => ⟨_, hω, rfl⟩⟩
  have hωs : ω.set r (.slice (some ⟨g, 0, none⟩) xs.length c) = ω := by
    apply List.ext_getElem?
    intro q
    by_cases hq : q = r
    · subst hq; rw [List.getElem?_set_self (List.getElem?_eq_some_iff.1 hω).1, hω]
    · rw [List.getElem?_set_ne (Ne.symm hq)]
  -- the cells, after
  have hM := hS.mem.setRow_ (w' := w.setRow g (cur.toList.take (j * szOf T e + off) ++ us ++ cur.toList.drop (j * szOf T e + off + us.length)).toArray) (v' := .slice (some ⟨g, 0, none⟩) xs.length c) (e := e) (ys := xs.set j (setCells rw_ off ds))
    (vals := vals.take (j * szOf T e + off) ++ us ++ vals.drop (j * szOf T e + off + us.length)) hω hr
    ⟨rfl, rfl, rfl, by simp, fun k _ hk => setRow_other w g k _ (fun e => hk (by simp [Value.ownBlock, e]))⟩ ?_ ?_ (.inl rfl) (box' := s.box) rfl ?_
  · rw [hωs] at hM
    exact hM
  · refine ⟨by rw [splice_len hfit2, List.length_set, hvl], .inr ⟨g, c, _, by rw [List.length_set], hbase, setRow_heap w g cur _ e _ hh, by rw [List.length_set]; exact h5, h6, by rw [List.size_toArray, splice_len (by rw [Array.length_toList]; exact hfit), Array.length_toList, h7], ?_⟩⟩
    rw [List.length_set]
    apply List.ext_getElem?
    intro q
    rw [splice_get hfit2, List.getElem?_take]
    by_cases hq0 : q < xs.length * szOf T e
    · rw [if_pos hq0, splice_get (by rw [Array.length_toList]; exact hfit)]
      split
      · rfl
      · rw [← h8, List.getElem?_take_of_lt hq0]
    · rw [if_neg hq0, if_neg (by omega), List.getElem?_eq_none (by omega)]
  · refine ⟨fun u hu' => ?_, fun i rw2 h => ?_, fun i rw2 k d h1 h2 => ?_⟩
    · simp only [List.mem_append] at hu'
      rcases hu' with (h | h) | h
      · exact hR.one u (List.mem_of_mem_take h)
      · exact hu.one u h
      · exact hR.one u (List.mem_of_mem_drop h)
    · by_cases hi : i = j
      · subst hi
        rw [List.getElem?_set_self hjl] at h
        cases h
        rw [setCells_len hle]
        exact hrl
      · rw [List.getElem?_set_ne (Ne.symm hi)] at h
        exact hR.len i rw2 h
    · by_cases hi : i = j
      · subst hi
        rw [List.getElem?_set_self hjl] at h1
        cases h1
        rw [setCells_get hle] at h2
        split at h2
        · rename_i hc
          have hlt : k - off < us.length := by omega
          refine ⟨us[k - off], ?_, hu.rel _ _ d (List.getElem?_eq_getElem hlt) h2⟩
          rw [splice_get hfit2, if_pos (by omega), show i * szOf T e + k - (i * szOf T e + off) = k - off by omega]
          exact List.getElem?_eq_getElem hlt
        · rename_i hc
          obtain ⟨u, h3, h4⟩ := hR.rel i rw_ k d hj h2
          exact ⟨u, by rw [splice_get hfit2, if_neg (by omega)]; exact h3, h4⟩
      · rw [List.getElem?_set_ne (Ne.symm hi)] at h1
        obtain ⟨u, h3, h4⟩ := hR.rel i rw2 k d h1 h2
        refine ⟨u, ?_, h4⟩
        have hk : k < szOf T e := by rw [← hR.len i rw2 h1]; exact (List.getElem?_eq_some_iff.1 h2).1
        rw [splice_get hfit2, if_neg]
        · exact h3
        · rcases Nat.lt_or_gt_of_ne hi with hlt | hgt
          · have : (i + 1) * szOf T e ≤ j * szOf T e := Nat.mul_le_mul_right _ hlt
            rw [Nat.add_mul, Nat.one_mul] at this
            omega
          · have : (j + 1) * szOf T e ≤ i * szOf T e := Nat.mul_le_mul_right _ hgt
            rw [Nat.add_mul, Nat.one_mul] at this
            omega
  · intro i cs cs' h1 h2
    rw [h1] at h2
    cases h2
    refine ⟨rfl, fun k u d d' e1 e2 h => ?_⟩
    rw [e1] at e2
    cases e2
    rw [hωs]
    exact h
end
end Go.Vx
