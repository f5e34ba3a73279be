/- The plain-data machine, part 2: states in memory; each operation that leaves memory alone does what it is said to do. Nothing here speaks of one program. -/
import Derived.Test.YtkkmbgfhhcoehaaVx1
namespace Go.Vx
open Go.RowKit

section
variable {sz : TypeId → Nat} {V V' : Vw} {μ μ' : List Nat} {ω ω' : List Value}

theorem RI.mono {v : Value} {d : D} (h : RI sz V v d) (hV : VLe V V') : RI sz V' v d := by
  induction h with
  | i k n => exact .i k n
  | b x p h => exact .b x p h
  | tt => exact .tt
  | ff => exact .ff
  | s l => exact .s l
  | nilS => exact .nilS
  | lst e rows room A ad c val hc hm hA hn hl hV1 _ ih => exact .lst e rows room A ad c val hc hm hA hn hl (fun i row j d h1 h2 => ⟨hV _ _ (hV1 i row j d h1 h2).1, (hV1 i row j d h1 h2).2⟩) ih
  | ep cells ad val hV1 _ ih => exact .ep cells ad val (fun j d h => ⟨hV _ _ (hV1 j d h).1, (hV1 j d h).2⟩) ih
  | agg cs vs hs ho _ ih => exact .agg cs vs hs ho ih
  | tup cs vs hs _ ih => exact .tup cs vs hs ih
  | nilP => exact .nilP
  | fn f first cap vs us h1 h2 _ _ ih1 ih2 => exact .fn f first cap vs us h1 h2 ih1 ih2
  | u v => exact .u v

def Pre {α : Type} (l l' : List α) : Prop := ∀ (i : Nat) x, l[i]? = some x → l'[i]? = some x
theorem Pre.refl {α : Type} (l : List α) : Pre l l := fun _ _ h => h
theorem Pre.append {α : Type} (l m : List α) : Pre l (l ++ m) := fun i x h => by
  rw [List.getElem?_append_left (by have := List.getElem?_eq_some_iff.1 h; exact this.1)]; exact h

theorem RS.mono {v : Value} {d : D} (h : RS sz V μ ω v d) (hV : VLe V V') (hm : Pre μ μ') (hw : Pre ω ω') : RS sz V' μ' ω' v d := by
  induction h with
  | imm v d h => exact .imm v d (h.mono hV)
  | own r n A N c h hn => exact .own r n A N c (hw _ _ h) hn
  | op r e j off g N c h => exact .op r e j off g N c (hw _ _ h)
  | bp i off g h => exact .bp i off g (hm _ _ h)
  | agg cs vs hs ho _ ih => exact .agg cs vs hs ho ih
  | tup cs vs hs _ ih => exact .tup cs vs hs ih
  | fnh f first cap vs us h1 h2 _ _ ih1 ih2 => exact .fnh f first cap vs us h1 h2 ih1 ih2

theorem bstr_inj {l l' : List UInt8} (h : bstr l = bstr l') : l = l' := by
  have := congrArg (fun b : ByteArray => b.data.toList) h
  simpa [bstr] using this
theorem bstr_data (s : ByteArray) : bstr s.data.toList = s := by cases s; simp [bstr]
theorem bstr_size (l : List UInt8) : (bstr l).size = l.length := by simp [bstr, ByteArray.size]
theorem bstr_toList (l : List UInt8) : (bstr l).toList = l := by
  simp [bstr]

/-- Data whose value is told by it alone. -/
theorem RI.uniq {v v' : Value} {d : D} (h : RI sz V v d) (h' : RI sz V' v' d) (hg : d.ground = true) : v = v' := by
  cases d <;> simp only [D.ground] at hg <;> try contradiction
  all_goals cases h
  all_goals cases h'
  all_goals try rfl
  rename_i p x h1 y h2
  congr 1
  cases x <;> cases y <;> simp_all

theorem grounds_at : ∀ {cs : List D}, grounds cs = true → ∀ (j : Nat) d, cs[j]? = some d → d.ground = true
  | [], _, j, d, h => by simp at h
  | c :: cs, hg, j, d, h => by
    simp only [grounds, Bool.and_eq_true] at hg
    cases j with
    | zero => simp at h; subst h; exact hg.1
    | succ j => exact grounds_at hg.2 j d (by simpa using h)

theorem RS.ri {v : Value} {d : D} (h : RS sz V μ ω v d) (hg : d.ground' = true) : RI sz V v d := by
  cases h with
  | imm _ _ h => exact h
  | own r n A N c h hn => simp [D.ground', D.ground] at hg
  | op => simp [D.ground', D.ground] at hg
  | bp => simp [D.ground', D.ground] at hg
  | fnh => simp [D.ground', D.ground] at hg
  | agg cs vs hs ho hR =>
    refine .agg cs vs hs ho fun j v d h1 h2 => ?_
    have hgd := grounds_at (by simpa [D.ground'] using hg) j d h2
    have := hR j v d h1 h2
    cases this with
    | imm _ _ h => exact h
    | _ => simp [D.ground] at hgd
  | tup cs vs hs hR =>
    refine .tup cs vs hs fun j v d h1 h2 => ?_
    have hgd := grounds_at (by simpa [D.ground'] using hg) j d h2
    have := hR j v d h1 h2
    cases this with
    | imm _ _ h => exact h
    | _ => simp [D.ground] at hgd

theorem arr_ext {vs us : Array Value} {n : Nat} (h1 : vs.size = n) (h2 : us.size = n) (h : ∀ (j : Nat) v u, vs[j]? = some v → us[j]? = some u → v = u) : vs = us := by
  apply Array.ext (h1.trans h2.symm)
  intro j hj hj'
  exact h j _ _ (Array.getElem?_eq_getElem hj) (Array.getElem?_eq_getElem hj')

theorem RI.uniq' {v v' : Value} {d : D} (h : RI sz V v d) (h' : RI sz V' v' d) (hg : d.ground' = true) : v = v' := by
  by_cases hd : d.ground = true
  · exact h.uniq h' hd
  · cases d <;> simp only [D.ground'] at hg <;> first | contradiction | skip
    case agg cs =>
      cases h with
      | agg _ vs hs ho hR =>
        cases h' with
        | agg _ us hs' ho' hR' =>
          congr 1
          refine arr_ext hs hs' fun j v u h1 h2 => ?_
          have hj : j < cs.length := by rw [← hs]; exact (Array.getElem?_eq_some_iff.1 h1).1
          exact (hR j v _ h1 (List.getElem?_eq_getElem hj)).uniq (hR' j u _ h2 (List.getElem?_eq_getElem hj)) (grounds_at hg j _ (List.getElem?_eq_getElem hj))
    case tup cs =>
      cases h with
      | tup _ vs hs hR =>
        cases h' with
        | tup _ us hs' hR' =>
          congr 1
          refine arr_ext hs hs' fun j v u h1 h2 => ?_
          have hj : j < cs.length := by rw [← hs]; exact (Array.getElem?_eq_some_iff.1 h1).1
          exact (hR j v _ h1 (List.getElem?_eq_getElem hj)).uniq (hR' j u _ h2 (List.getElem?_eq_getElem hj)) (grounds_at hg j _ (List.getElem?_eq_getElem hj))
    all_goals exact absurd hg (by simpa [D.ground] using hd)

theorem RI_ofVal (v : Value) : RI sz V v (ofVal v) := by
  unfold ofVal
  split
  · exact .tt
  · exact .ff
  · exact .i _ _
  · rename_i s
    have := RI.s (sz := sz) (V := V) s.data.toList
    rwa [bstr_data] at this
  · exact .nilS
  · exact .nilP
  · exact .u _
end

/-! ### Types -/
structure Good (P : Program) (t : TypeId) (ti : TI) : Prop where
  info : ∃ i z, P.info? t = some i ∧ i.size = ti.size ∧ i.bytes = ti.bytes ∧ i.zero = some z ∧ z.cells.toList.map ofVal = ti.zero ∧ z.cells.size = ti.size ∧ ∀ v ∈ z.cells.toList, v.oneCell' = true
  kind : match ti.kind with
    | .bool => P.underlying t = some .bool
    | .int k => P.underlying t = some (.int k)
    | .str => P.underlying t = some .string
    | .slice e => P.underlying t = some (.slice e)
    | .array n e => P.underlying t = some (.array n e)
    | .struct fs => ∃ fa, P.underlying t = some (.struct fa) ∧ fa.toList.map (fun f => (f.offset, f.type)) = fs
    | .ptr e => P.underlying t = some (.pointer e)
    | .other => True
  agg : ∀ w, (isAgg t).run P w = .ok ti.agg w
def TOk (P : Program) (T : Tab) : Prop := ∀ t ti, T t = some ti → Good P t ti
theorem Good.size {P : Program} {t : TypeId} {ti : TI} (h : Good P t ti) (w : World) : (sizeOf t).run P w = .ok ti.size w := by
  obtain ⟨i, z, h1, h2, _⟩ := h.info
  simp [sizeOf, typeInfo, h1, h2]
theorem run_under {P : Program} {t : TypeId} {d : TypeDesc} (h : P.underlying t = some d) (w : World) : (underlying t).run P w = .ok d w := by
  simp [underlying, h]
theorem szOf_eq {T : Tab} {t : TypeId} {ti : TI} (h : T t = some ti) : szOf T t = ti.size := by simp [szOf, h]
theorem szOf_run {P : Program} {T : Tab} (hT : TOk P T) {t : TypeId} {n : Nat} (h : szOf T t = n + 1) (w : World) : (sizeOf t).run P w = .ok (n + 1) w := by
  unfold szOf at h
  split at h
  · rename_i ti hti
    rw [(hT t ti hti).size, h]
  · cases h

/-! ### States in memory -/
def Own (μ : List Nat) (ω : List Value) (row : Rows) : Nat ⊕ Nat → Nat → Prop
  | .inl i, g => μ[i]? = some g
  | .inr r, g => ∃ v x, ω[r]? = some v ∧ row[r]? = some (some x) ∧ v.ownBlock = some g

/-- What stays while a function runs: the memory that it was given, and the values of the frames behind it. -/
structure Fr where
  V : Vw
  gv : Nat → Value
/-- The value of a slot: from n on, of the frames behind. -/
def slotV (F : Fr) (n : Nat) (a : Act) (t : Nat) : Value := if t < n then a.tmps.getD t undef else F.gv t

structure Mem (sz : TypeId → Nat) (w0 : World) (V0 : Fr) (V : Vw) (μ : List Nat) (ω : List Value) (box : List (List D)) (row : Rows) (w : World) : Prop where
  below : Below w0.heap.size w0 w
  vok : VOk V w
  vle : VLe V0.V V
  vold : ∀ p, p.block < w0.heap.size → V p = V0.V p
  bl : μ.length = box.length
  hbox : ∀ (i : Nat) (g : Nat) (cs : List D), μ[i]? = some g → box[i]? = some cs → ∃ (vs : Array Value) (t : TypeId), w.heap[g]? = some (.cells vs t (0, 0)) ∧ vs.size = cs.length ∧ (∀ v ∈ vs.toList, v.oneCell' = true) ∧
    ∀ (j : Nat) v d, vs[j]? = some v → cs[j]? = some d → RS sz V μ ω v d
  rl : ω.length = row.length
  hrow : ∀ (r : Nat) (v : Value) (e : TypeId) (xs : List (List D)), ω[r]? = some v → row[r]? = some (some (e, xs)) → ∃ vals : List Value, w.ownsRow w0.heap.size e (sz e) v xs.length vals ∧ (∀ u ∈ vals, u.oneCell' = true) ∧
    (∀ (i : Nat) rw, xs[i]? = some rw → rw.length = sz e) ∧ (∀ (i : Nat) rw (j : Nat) d, xs[i]? = some rw → rw[j]? = some d → ∃ u, vals[i * sz e + j]? = some u ∧ RI sz V u d)
  uniq : ∀ l l' g, Own μ ω row l g → Own μ ω row l' g → l = l'
  new : ∀ l g, Own μ ω row l g → w0.heap.size ≤ g ∧ g < w.heap.size
  vmut : ∀ p u l, V p = some u → ¬ Own μ ω row l p.block

structure Sim (sz : TypeId → Nat) (w0 : World) (V0 : Fr) (V : Vw) (μ : List Nat) (ω : List Value) (s : St) (a : Act) (w : World) : Prop where
  tmps : a.tmps.size = s.n
  defers : a.defers = []
  env : ∀ t, RS sz V μ ω (slotV V0 s.n a t) (look s.env t)
  mem : Mem sz w0 V0 V μ ω s.box s.row w

def Ext (w w' : World) : Prop := Below w.heap.size w w'
theorem Ext.refl (w : World) : Ext w w := Below.refl _ _
theorem Ext.trans {a b c : World} (h : Ext a b) (k : Ext b c) : Ext a c := Below.trans h (Below.mono k h.size)
theorem Ext.cell {w w' : World} (h : Ext w w') {p : Addr} {v : Value} (hc : w.cell? p = some v) : w'.cell? p = some v := by
  rw [Below.cell h (World.block_lt_of_cell? w p hc)]; exact hc
theorem Ext.heap {w w' : World} (h : Ext w w') {g : Nat} {o : Obj} (hg : w.heap[g]? = some o) : w'.heap[g]? = some o := by
  rw [h.block g (Array.getElem?_eq_some_iff.1 hg).1]; exact hg
theorem VOk.ext {V : Vw} {w w' : World} (h : VOk V w) (he : Ext w w') : VOk V w' := fun p v hp => he.cell (h p v hp)
theorem ownsRow_ext {w w' : World} {B : Nat} {e : TypeId} {z : Nat} {v : Value} {n : Nat} {xs : List Value} (h : w.ownsRow B e z v n xs) (he : Ext w w') : w'.ownsRow B e z v n xs := by
  refine ⟨h.1, ?_⟩
  rcases h.2 with hn | ⟨g, cap, cur, hv, hb, hg, r⟩
  · exact .inl hn
  · exact .inr ⟨g, cap, cur, hv, hb, he.heap hg, r⟩
theorem ownsRow_base {w : World} {B B' : Nat} {e : TypeId} {z : Nat} {v : Value} {n : Nat} {xs : List Value} (h : w.ownsRow B e z v n xs) (hb : B' ≤ B) : w.ownsRow B' e z v n xs := by
  refine ⟨h.1, ?_⟩
  rcases h.2 with hn | ⟨g, cap, cur, hv, hg, r⟩
  · exact .inl hn
  · exact .inr ⟨g, cap, cur, hv, Nat.le_trans hb hg, r⟩

section
variable {sz : TypeId → Nat} {w0 w w' : World} {V0 : Fr} {V V' : Vw} {μ μ' : List Nat} {ω ω' : List Value} {box : List (List D)} {row : Rows} {s : St} {a : Act}
theorem Mem.ext (h : Mem sz w0 V0 V μ ω box row w) (he : Ext w w') : Mem sz w0 V0 V μ ω box row w' where
  below := h.below.trans (he.mono h.below.size)
  vok := h.vok.ext he
  vle := h.vle
  vold := h.vold
  bl := h.bl
  hbox := fun i g cs h1 h2 => let ⟨vs, t, a, b, c, d⟩ := h.hbox i g cs h1 h2; ⟨vs, t, he.heap a, b, c, d⟩
  rl := h.rl
  hrow := fun r v e xs h1 h2 => let ⟨vals, a, b, c, d⟩ := h.hrow r v e xs h1 h2; ⟨vals, ownsRow_ext a he, b, c, d⟩
  uniq := h.uniq
  new := fun l g hl => let ⟨a, b⟩ := h.new l g hl; ⟨a, Nat.lt_of_lt_of_le b he.size⟩
  vmut := h.vmut
theorem Sim.ext (h : Sim sz w0 V0 V μ ω s a w) (he : Ext w w') : Sim sz w0 V0 V μ ω s a w' := ⟨h.tmps, h.defers, h.env, h.mem.ext he⟩

theorem look_put {sz : TypeId → Nat} {t x : Nat} {d : D} {env : List (Nat × D)} {a : Act} {v : Value} {n : Nat} (hn : a.tmps.size = n) (ht : t < n)
    (hv : RS sz V μ ω v d) (he : ∀ t, RS sz V μ ω (slotV V0 n a t) (look env t)) :
    RS sz V μ ω (slotV V0 n (a.put (some t) v) x) (look ((t, d) :: env) x) := by
  unfold look
  by_cases hx : t = x
  · subst hx
    have : Nat.beq t t = true := Nat.beq_refl t
    rw [this]
    have hts : t < a.tmps.size := by omega
    simpa [slotV, ht, Act.put, Array.getD, hts] using hv
  · have hb : Nat.beq t x = false := by
      cases hq : Nat.beq t x with
      | false => rfl
      | true => exact absurd (Nat.eq_of_beq_eq_true hq) hx
    rw [hb]
    have := he x
    unfold slotV at this ⊢
    split
    · rename_i hxn
      rw [if_pos hxn] at this
      have hxs : x < a.tmps.size := by omega
      simp only [Act.put, Array.getD, Array.size_setIfInBounds, hxs, dif_pos, Array.getInternal_eq_getElem] at this ⊢
      rwa [Array.getElem_setIfInBounds hxs, if_neg hx]
    · rename_i hxn
      rwa [if_neg hxn] at this

theorem Sim.put (h : Sim sz w0 V0 V μ ω s a w) {t : Nat} {d : D} {v : Value} (ht : t < s.n) (hv : RS sz V μ ω v d) :
    Sim sz w0 V0 V μ ω ⟨(t, d) :: s.env, s.box, s.row, s.n⟩ (a.put (some t) v) w :=
  ⟨by simpa [Act.put] using h.tmps, h.defers, fun x => look_put h.tmps ht hv h.env, h.mem⟩

theorem blt_true {a b : Nat} (h : Nat.blt a b = true) : a < b := by
  unfold Nat.blt at h
  rw [Nat.ble_eq] at h
  exact h
theorem Sim.slot (h : Sim sz w0 V0 V μ ω s a w) {t : Nat} (ht : t < s.n) : RS sz V μ ω (a.tmps.getD t undef) (look s.env t) := by
  have := h.env t
  unfold slotV at this
  rwa [if_pos ht] at this
theorem Sim.get (h : Sim sz w0 V0 V μ ω s a w) (x : Operand) : RS sz V μ ω (a.eval x) (s.get x) := by
  cases x with
  | tmp t =>
    simp only [St.get]
    split
    · rename_i hb; exact h.slot (blt_true hb)
    · exact .imm _ _ (.u _)
  | const v =>
    refine .imm _ _ ?_
    show RI sz V v (ofC v)
    unfold ofC
    split
    · rename_i cs
      split
      · rename_i ho
        refine .agg _ _ (by simp) (fun v hv => List.all_eq_true.1 ho v hv) fun j v d h1 h2 => ?_
        simp only [List.getElem?_map, Array.getElem?_toList, h1, Option.map_some, Option.some.injEq] at h2
        subst h2
        exact RI_ofVal v
      · exact .u _
    · exact RI_ofVal v
  | global g => exact .imm _ _ (.u _)
  | func f => exact .imm _ _ (.fn f [] [] #[] #[] rfl rfl (fun j v d h => by simp at h) (fun j v d h => by simp at h))

/-! ### Loads -/
def Cells (sz : TypeId → Nat) (V : Vw) (μ : List Nat) (ω : List Value) (w : World) (p : Addr) (ds : List D) (val : Nat → Value) : Prop :=
  ∀ (j : Nat) d, ds[j]? = some d → w.cell? (p.add j) = some (val j) ∧ (val j).oneCell' = true ∧ RS sz V μ ω (val j) d
theorem add_add (a : Addr) (i j : Nat) : (a.add i).add j = a.add (i + j) := by
  unfold Addr.add
  by_cases hi : i = 0 <;> by_cases hj : j = 0 <;> simp [hi, hj, Nat.add_assoc]
theorem add_lit (g o j : Nat) : (⟨g, o, none⟩ : Addr).add j = ⟨g, o + j, none⟩ := by
  unfold Addr.add; split <;> simp_all
theorem Cells.drop {p : Addr} {ds : List D} {val : Nat → Value} (h : Cells sz V μ ω w p ds val) (off : Nat) : Cells sz V μ ω w (p.add off) (ds.drop off) (fun j => val (off + j)) := by
  intro j d hd
  rw [add_add]
  exact h (off + j) d (by simpa using hd)
theorem Cells.ext {p : Addr} {ds : List D} {val : Nat → Value} (h : Cells sz V μ ω w p ds val) (he : Ext w w') : Cells sz V μ ω w' p ds val :=
  fun j d hd => let ⟨a, b⟩ := h j d hd; ⟨he.cell a, b⟩
theorem leB_iff {a b : Nat} {p : Prop} : leB a b p ↔ a ≤ b ∧ p := by
  unfold leB
  by_cases h : a ≤ b
  · have : Nat.ble a b = true := by rw [Nat.ble_eq]; exact h
    rw [this]; simp [h]
  · have : Nat.ble a b = false := by
      cases hq : Nat.ble a b with
      | false => rfl
      | true => exact absurd (by rwa [Nat.ble_eq] at hq) h
    rw [this]; simp [h]

/-- n cells from p on read as they did. -/
def KeepN (p : Addr) (n : Nat) (w w' : World) : Prop := ∀ (j : Nat) v, j < n → w.cell? (p.add j) = some v → w'.cell? (p.add j) = some v
theorem Ext.keepN (h : Ext w w') (p : Addr) (n : Nat) : KeepN p n w w' := fun _ _ _ hc => h.cell hc
theorem add_block (p : Addr) (j : Nat) : (p.add j).block = p.block := by unfold Addr.add; split <;> rfl
/-- Where what a load reads lies. -/
def SrcP (V : Vw) (μ : List Nat) (ω : List Value) : Src → Addr → Nat → Prop
  | .none, p, n => ∀ j, j < n → ∃ v, V (p.add j) = some v
  | .box i, p, _ => μ[i]? = some p.block
  | .row r, p, _ => ∃ v, ω[r]? = some v ∧ v.ownBlock = some p.block
theorem SrcP.zero (p : Addr) : SrcP V μ ω .none p 0 := fun j hj => absurd hj (by omega)

theorem loadK_sound {P : Program} {T : Tab} (hT : TOk P T) {t : TypeId} {p : Addr} {ds : List D} {val : Nat → Value} {K : D → Prop} (h : Cells sz V μ ω w p ds val)
    (hk : loadK T t ds K) : ∃ d u, K d ∧ RS sz V μ ω u d ∧ ∀ w', KeepN p ds.length w w' → (loadVar t p).run P w' = .ok u w' := by
  unfold loadK at hk
  split at hk
  case h_2 => exact hk.elim
  rename_i ti hti
  have hg := hT t ti hti
  cases hag : ti.agg with
  | true =>
    rw [hag] at hk
    simp only [leB_iff, forceL_eq] at hk
    obtain ⟨hle, hk⟩ := hk
    refine ⟨_, .agg ((List.range ti.size).map val).toArray, hk, ?_, ?_⟩
    · refine .agg _ _ (by simp; omega) ?_ ?_
      · intro v hv
        simp only [List.mem_map, List.mem_range] at hv
        obtain ⟨j, hj, rfl⟩ := hv
        exact (h j _ (List.getElem?_eq_getElem (by omega))).2.1
      · intro j v d h1 h2
        simp only [List.getElem?_toArray, List.getElem?_map] at h1
        by_cases hj : j < ti.size
        · rw [List.getElem?_range hj] at h1
          simp only [Option.map_some, Option.some.injEq] at h1
          subst h1
          rw [List.getElem?_take_of_lt hj] at h2
          exact (h j d h2).2.2
        · rw [List.getElem?_eq_none (by simp; omega)] at h2
          cases h2
    · intro w' he
      have hl := run_loadCells (P := P) w' p ti.size val (fun j hj => he j _ (by omega) (h j _ (List.getElem?_eq_getElem (by omega))).1)
      simp [loadVar, hg.agg, hag, hg.size, hl]
  | false =>
    rw [hag] at hk
    cases ds with
    | nil => exact hk.elim
    | cons c r =>
      simp only [D.force_eq] at hk
      obtain ⟨h1, h2, h3⟩ := h 0 c rfl
      refine ⟨c, val 0, hk, h3, fun w' he => ?_⟩
      have hc := he 0 _ (by simp) h1
      have hz : p.add 0 = p := by simp [Addr.add]
      rw [hz] at hc
      simp [loadVar, hg.agg, hag, run_load, hc]

theorem Mem.boxCells (h : Mem sz w0 V0 V μ ω box row w) {i g : Nat} {cs : List D} (h1 : μ[i]? = some g) (h2 : box[i]? = some cs) :
    ∃ val, Cells sz V μ ω w ⟨g, 0, none⟩ cs val := by
  obtain ⟨vs, t, hh, hs, ho, hR⟩ := h.hbox i g cs h1 h2
  refine ⟨fun j => vs.getD j undef, fun j d hd => ?_⟩
  have hj : j < vs.size := by rw [hs]; exact (List.getElem?_eq_some_iff.1 hd).1
  have hv : vs[j]? = some vs[j] := Array.getElem?_eq_getElem hj
  have hg : vs.getD j undef = vs[j] := by simp [Array.getD, hj]
  rw [add_lit, Nat.zero_add]
  show _ = some (vs.getD j undef) ∧ (vs.getD j undef).oneCell' = true ∧ RS sz V μ ω (vs.getD j undef) d
  rw [hg]
  refine ⟨by rw [cell_of_row w g j vs t (0, 0) hh]; exact hv, ho _ (by simp), hR j _ d hv hd⟩

theorem Mem.rowCells (h : Mem sz w0 V0 V μ ω box row w) {r : Nat} {A : Option Addr} {N c : Nat} {e : TypeId} {xs : List (List D)} (h1 : ω[r]? = some (.slice A N c)) (h2 : row[r]? = some (some (e, xs)))
    {j : Nat} {rw_ : List D} (hj : xs[j]? = some rw_) : ∃ g val, A = some ⟨g, 0, none⟩ ∧ Cells sz V μ ω w ⟨g, j * sz e, none⟩ rw_ val := by
  obtain ⟨vals, hown, ho, hl, hR⟩ := h.hrow r _ e xs h1 h2
  have hjl : j < xs.length := (List.getElem?_eq_some_iff.1 hj).1
  have hA : ∃ g, A = some ⟨g, 0, none⟩ := by
    rcases hown.2 with ⟨hv, hn⟩ | ⟨g, cap, cur, hv, _⟩
    · omega
    · injection hv with hv; exact ⟨g, hv⟩
  obtain ⟨g, rfl⟩ := hA
  refine ⟨g, fun k => vals.getD (j * sz e + k) undef, rfl, fun k d hd => ?_⟩
  obtain ⟨u, hu, hr⟩ := hR j rw_ k d hj hd
  have hc := hown.cells (g := g) rfl _ _ hu
  rw [add_lit, Nat.zero_add] at hc
  rw [add_lit]
  have hgd : vals.getD (j * sz e + k) undef = u := by simp [List.getD, hu]
  show _ = some (vals.getD (j * sz e + k) undef) ∧ (vals.getD (j * sz e + k) undef).oneCell' = true ∧ RS sz V μ ω (vals.getD (j * sz e + k) undef) d
  rw [hgd]
  exact ⟨hc, ho u (List.mem_of_getElem? hu), .imm _ _ hr⟩

theorem ptrK_sound {P : Program} {T : Tab} (hT : TOk P T) (hS : Mem (szOf T) w0 V0 V μ ω s.box s.row w) {t : TypeId} {x : D} {v : Value} {K : D → Prop} (hv : RS (szOf T) V μ ω v x)
    (hk : ptrK T s t x K) : ∃ p n d u, v = .pointer (some p) ∧ K d ∧ RS (szOf T) V μ ω u d ∧ SrcP V μ ω (srcOf x) p n ∧ ∀ w', KeepN p n w w' → (loadVar t p).run P w' = .ok u w' := by
  unfold ptrK at hk
  split at hk
  · rename_i cells
    cases hv with
    | imm _ _ h =>
      cases h with
      | ep _ ad val hV hR =>
        obtain ⟨d, u, h1, h2, h3⟩ := loadK_sound (sz := szOf T) (μ := μ) (ω := ω) hT (fun j d hd => ⟨hS.vok _ _ (hV j d hd).1, (hV j d hd).2, .imm _ _ (hR j d hd)⟩) hk
        exact ⟨ad, cells.length, d, u, rfl, h1, h2, fun j hj => ⟨_, (hV j _ (List.getElem?_eq_getElem hj)).1⟩, h3⟩
  · rename_i i off
    split at hk
    case h_2 => exact hk.elim
    rename_i cs hcs
    cases hv with
    | imm _ _ h => cases h
    | bp _ _ g hg =>
      obtain ⟨val, hc⟩ := hS.boxCells hg hcs
      have := hc.drop off
      rw [add_lit, Nat.zero_add] at this
      obtain ⟨d, u, h1, h2, h3⟩ := loadK_sound hT this hk
      exact ⟨_, _, d, u, rfl, h1, h2, hg, h3⟩
  · rename_i r e j off
    split at hk
    case h_2 => exact hk.elim
    rename_i e' xs hxs
    obtain ⟨rfl, rw_, hj, hk⟩ := hk
    cases hv with
    | imm _ _ h => cases h
    | op _ _ _ _ g N c hg =>
      obtain ⟨g', val, hgg, hc⟩ := hS.rowCells hg hxs hj
      simp only [Option.some.injEq, Addr.mk.injEq, and_true] at hgg
      subst hgg
      have := hc.drop off
      rw [add_lit] at this
      obtain ⟨d, u, h1, h2, h3⟩ := loadK_sound hT this hk
      exact ⟨_, _, d, u, rfl, h1, h2, ⟨_, hg, rfl⟩, h3⟩
  · exact hk.elim
end
end Go.Vx
