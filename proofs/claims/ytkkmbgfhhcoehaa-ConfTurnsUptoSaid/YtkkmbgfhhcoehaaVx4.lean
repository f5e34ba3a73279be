/- The plain-data machine, part 4: the operations that leave memory alone, all together, and a region of them in whatever order. Nothing here speaks of one program. -/
import Derived.Test.YtkkmbgfhhcoehaaVx3
namespace Go.Vx
open Go.RowKit

section
variable {w0 w w' : World} {V0 : Fr} {V : Vw} {μ : List Nat} {ω : List Value} {s : St} {a : Act} {P : Program} {T : Tab}

theorem RI.lst_slice {sz : TypeId → Nat} {e : TypeId} {rows room : List (List D)} {A : Option Addr} {ad : Addr} {c : Nat} {val : Nat → Nat → Value} (hc : rows.length + room.length ≤ c) (hm : c ≤ maxLen)
    (hA : rows ++ room ≠ [] → A = some ad) (hn : A = none → c = 0) (hl : ∀ (i : Nat) row, (rows ++ room)[i]? = some row → row.length = sz e)
    (hV : ∀ (i : Nat) row (j : Nat) d, (rows ++ room)[i]? = some row → row[j]? = some d → V (ad.add (i * sz e + j)) = some (val i j) ∧ (val i j).oneCell' = true)
    (hR : ∀ (i : Nat) row (j : Nat) d, (rows ++ room)[i]? = some row → row[j]? = some d → RI sz V (val i j) d) {x y : Nat} (hxy : x ≤ y) (hy : y ≤ rows.length + room.length) :
    RI sz V (.slice (if c = x then A else A.map (·.add (x * sz e))) (y - x) (c - x)) (.lst e (((rows ++ room).take y).drop x) ((rows ++ room).drop y)) := by
  have hlen : (((rows ++ room).take y).drop x).length = y - x := by simp; omega
  have hcat : ((rows ++ room).take y).drop x ++ (rows ++ room).drop y = (rows ++ room).drop x := by
    have h1 : rows ++ room = (rows ++ room).take y ++ (rows ++ room).drop y := (List.take_append_drop y _).symm
    have h2 : x ≤ ((rows ++ room).take y).length := by rw [List.length_take, List.length_append]; omega
    calc ((rows ++ room).take y).drop x ++ (rows ++ room).drop y = ((rows ++ room).take y ++ (rows ++ room).drop y).drop x := (List.drop_append_of_le_length h2).symm
      _ = (rows ++ room).drop x := by rw [← h1]
  have := RI.lst (sz := sz) (V := V) e (((rows ++ room).take y).drop x) ((rows ++ room).drop y) (if c = x then A else A.map (·.add (x * sz e))) (ad.add (x * sz e)) (c - x) (fun i j => val (x + i) j)
    (by simp; omega) (by omega) (fun hne => by
      rw [hcat] at hne
      have hlt : x < (rows ++ room).length := by
        rcases Nat.lt_or_ge x (rows ++ room).length with h | h
        · exact h
        · exact absurd (List.drop_eq_nil_of_le h) hne
      have hcx : c ≠ x := by simp at hlt; omega
      rw [if_neg hcx, hA (by intro h0; rw [h0] at hlt; simp at hlt)]
      rfl)
    (fun hno => by
      split at hno
      · omega
      · rw [Option.map_eq_none_iff] at hno
        have := hn hno
        omega)
    (fun i row h => hl (x + i) row (by rw [hcat] at h; simpa using h))
    (fun i row j d h1 h2 => by
      rw [hcat] at h1
      have := hV (x + i) row j d (by simpa using h1) h2
      rw [add_add, show x * sz e + (i * sz e + j) = (x + i) * sz e + j by rw [Nat.add_mul]; omega]
      exact this)
    (fun i row j d h1 h2 => by rw [hcat] at h1; exact hR (x + i) row j d (by simpa using h1) h2)
  rwa [hlen] at this

theorem run_bound {k : IntKind} {x : Int} {n y : Nat} {c : BoundsCode} (hx : x = n) (hn : n ≤ y) : (Instr.sliceBound (.int k x) y c).run P w = .ok n w := by
  subst hx
  simp [Instr.sliceBound, asIntOf, hn]

def optRS (sz : TypeId → Nat) (V : Vw) (μ : List Nat) (ω : List Value) : Option D → Option Value → Prop
  | some d, some v => RS sz V μ ω v d
  | none, none => True
  | _, _ => False
theorem lo_cases {sz : TypeId → Nat} {lo : Option D} {vlo : Option Value} {x : Nat} (hlo : optRS sz V μ ω lo vlo) (h : loP lo x) : (vlo = none ∧ x = 0) ∨ ∃ k n, vlo = some (.int k n) ∧ n = (x : Int) := by
  unfold loP at h
  cases lo with
  | none => cases vlo with
    | none => exact .inl ⟨rfl, h.symm⟩
    | some v => exact hlo.elim
  | some d => cases vlo with
    | none => exact hlo.elim
    | some v =>
      cases d <;> first | exact h.elim | skip
      exact .inr ⟨_, _, congrArg some (RS.int_ hlo), h⟩
theorem hi_cases {sz : TypeId → Nat} {hi : Option D} {vhi : Option Value} {x m : Nat} (hhi : optRS sz V μ ω hi vhi) (h : hiP hi m x) : (vhi = none ∧ m = x) ∨ ∃ k n, vhi = some (.int k n) ∧ n = (x : Int) := by
  unfold hiP at h
  cases hi with
  | none => cases vhi with
    | none => exact .inl ⟨rfl, h⟩
    | some v => exact hhi.elim
  | some d => cases vhi with
    | none => exact hhi.elim
    | some v =>
      cases d <;> first | exact h.elim | skip
      exact .inr ⟨_, _, congrArg some (RS.int_ hhi), h⟩

theorem run_bounds {isSlice : Bool} {len cap x y : Nat} {vlo vhi : Option Value} (h1 : (vlo = none ∧ x = 0) ∨ ∃ k n, vlo = some (.int k n) ∧ n = (x : Int)) (h2 : (vhi = none ∧ len = y) ∨ ∃ k n, vhi = some (.int k n) ∧ n = (y : Int))
    (hxy : x ≤ y) (hy : y ≤ cap) : (Instr.sliceBounds isSlice len cap vlo vhi none).run P w = .ok (x, y, cap) w := by
  rcases h1 with ⟨rfl, rfl⟩ | ⟨k, n, rfl, hn⟩ <;> rcases h2 with ⟨rfl, rfl⟩ | ⟨k', n', rfl, hn'⟩
  · simp [Instr.sliceBounds]
  · simp [Instr.sliceBounds, run_bound hn' hy]
  · simp [Instr.sliceBounds, run_bound hn hxy]
  · simp [Instr.sliceBounds, run_bound hn' hy, run_bound hn hxy]

theorem bstr_extract (l : List UInt8) (x y : Nat) : (bstr l).extract x y = bstr ((l.take y).drop x) := by
  apply ByteArray.ext
  apply Array.ext'
  simp [bstr, ByteArray.data_extract, List.drop_take]

theorem sliceK_sound (hT : TOk P T) (hS : Mem (szOf T) w0 V0 V μ ω s.box s.row w) {t : TypeId} {x : D} {v : Value} {lo hi : Option D} {vlo vhi : Option Value} {K : D → Prop} (hx : RS (szOf T) V μ ω v x)
    (hlo : optRS (szOf T) V μ ω lo vlo) (hhi : optRS (szOf T) V μ ω hi vhi) (h : sliceK T s t x lo hi K) : Qok P (szOf T) V μ ω w (Instr.sliceAt t v vlo vhi none) K := by
  unfold sliceK at h
  split at h
  · rename_i l
    obtain ⟨hu, x, y, h1, h2, h3, h4, l', rfl, hk⟩ := stK_iff hT h
    rw [hx.str_]
    refine ⟨_, _, hk, .imm _ _ (.s _), fun w' _ => ?_⟩
    have hb := run_bounds (P := P) (w := w') (isSlice := false) (len := (bstr l).size) (cap := (bstr l).size) (lo_cases hlo h1) (hi_cases hhi (by rw [bstr_size]; exact h2)) h3 (by rw [bstr_size]; exact h4)
    simp [Instr.sliceAt, Instr.slice, run_under hu, hb, bstr_extract]
  · rename_i e rows room
    obtain ⟨hu, hz, _, x, y, h1, h2, h3, h4, r1, r2, rfl, rfl, hk⟩ := slK_iff hT h
    obtain ⟨A, ad, c, val, rfl, hc, hm, hA, hnA, hl, hV, hR⟩ := hx.lst_
    refine ⟨_, _, hk, .imm _ _ (RI.lst_slice hc hm hA hnA hl hV hR h3 h4), fun w' _ => ?_⟩
    have hb := run_bounds (P := P) (w := w') (isSlice := true) (len := rows.length) (cap := c) (lo_cases hlo h1) (hi_cases hhi h2) h3 (by omega)
    simp [Instr.sliceAt, Instr.slice, run_under hu, hb, hz]
  · rename_i r n
    split at h
    case h_2 => exact h.elim
    rename_i e xs hr
    obtain ⟨hu, hz, _, m, h1, h2, h3, hk⟩ := slK_iff hT h
    obtain ⟨A, N, c, hω, hn, rfl⟩ := hx.own_
    obtain ⟨vals, hown, _⟩ := hS.hrow r _ e xs hω hr
    have hN : N = xs.length ∧ xs.length ≤ c := by
      rcases hown.2 with ⟨hv, h0⟩ | ⟨g, cap, cur, hv, _, _, h5, _⟩
      · injection hv with _ h5 h6; omega
      · injection hv with _ h5' h6; omega
    have hadd : (if c = 0 then A else A.map (·.add (0 * szOf T e))) = A := by
      split
      · rfl
      · cases A <;> simp [Addr.add]
    have hb : ∀ w', (Instr.sliceBounds true n c vlo vhi none).run P w' = .ok (0, m, c) w' := fun w' =>
      run_bounds (P := P) (w := w') (isSlice := true) (len := n) (cap := c) (lo_cases hlo h1) (hi_cases hhi h2) (Nat.zero_le _) (by omega)
    refine ⟨_, _, hk, .own r m A N c hω (by omega), fun w' _ => ?_⟩
    simp only [Instr.sliceAt, Instr.slice, Sem.run_bind, run_under hu, Result.andThen_ok, hb, hz, Sem.run_pure, hadd, Nat.sub_zero]
  · exact h.elim

theorem add_zero (p : Addr) : p.add 0 = p := by simp [Addr.add]

theorem idxK_sound (hT : TOk P T) (hS : Mem (szOf T) w0 V0 V μ ω s.box s.row w) {t : TypeId} {x i : D} {v vi : Value} {K : D → Prop} (hx : RS (szOf T) V μ ω v x) (hi : RS (szOf T) V μ ω vi i)
    (h : idxK T s t x i K) : Qok P (szOf T) V μ ω w (Instr.indexAt t v vi) K := by
  unfold idxK at h
  split at h
  · rename_i e rows room k n
    obtain ⟨hu, hz, _, h0, row, hr, hk⟩ := slK_iff hT h
    rw [forceL_eq] at hk
    obtain ⟨A, ad, c, val, rfl, hc, hm, hA, hnA, hl, hV, hR⟩ := hx.lst_
    rw [hi.int_]
    have hlt := (List.getElem?_eq_some_iff.1 hr).1
    have hr' : (rows ++ room)[n.toNat]? = some row := by rw [List.getElem?_append_left hlt]; exact hr
    have hAe := hA (by intro hn; rw [hn] at hr'; simp at hr')
    refine ⟨_, .pointer (some (ad.add (n.toNat * szOf T e))), hk, .imm _ _ (.ep row _ (fun j => val n.toNat j) (fun j d hd => by rw [add_add]; exact hV _ row j d hr' hd) (fun j d hd => hR _ row j d hr' hd)), fun w' _ => ?_⟩
    have hb : 0 ≤ n ∧ n < (rows.length : Int) := ⟨h0, by omega⟩
    simp [Instr.indexAt, asIntOf, run_under hu, hAe, hb, hz]
  · rename_i r m k n
    split at h
    case h_2 => exact h.elim
    rename_i e xs hr
    obtain ⟨hu, hz, _, h0, h1, h2, hk⟩ := slK_iff hT h
    obtain ⟨A, N, c, hω, hn, rfl⟩ := hx.own_
    rw [hi.int_]
    obtain ⟨g, val, hA, _⟩ := hS.rowCells hω hr (j := 0) (List.getElem?_eq_getElem (by omega))
    subst hA
    refine ⟨_, .pointer (some ⟨g, n.toNat * szOf T e + 0, none⟩), hk, .op r e n.toNat 0 g N c hω, fun w' _ => ?_⟩
    have hb : 0 ≤ n ∧ n < (m : Int) := ⟨h0, h1⟩
    simp [Instr.indexAt, asIntOf, run_under hu, hb, hz, add_lit]
  · rename_i b off k n
    split at h
    case h_2 => exact h.elim
    rename_i len e z hti
    split at h
    case h_2 => exact h.elim
    rename_i ti hte
    obtain ⟨h0, h1, m, rfl, hk⟩ := h
    have hu := (hT _ _ hti).kind
    obtain ⟨g, hg, rfl⟩ := hx.bp_
    rw [hi.int_]
    refine ⟨_, .pointer (some ⟨g, off + n.toNat * ti.size, none⟩), hk, .bp _ _ g hg, fun w' _ => ?_⟩
    simp [Instr.indexAt, asIntOf, run_under hu, Instr.sureAddr, h0, h1, (hT _ _ hte).size, add_lit]
  · rename_i cells k n
    split at h
    case h_2 => exact h.elim
    rename_i len e z hti
    split at h
    case h_2 => exact h.elim
    rename_i ti hte
    obtain ⟨h0, h1, cs, rfl, hk⟩ := h
    rw [forceL_eq] at hk
    have hu := (hT _ _ hti).kind
    obtain ⟨ad, val, rfl, hV, hR⟩ := hx.ep_
    rw [hi.int_]
    refine ⟨_, .pointer (some (ad.add (n.toNat * ti.size))), hk, .imm _ _ (.ep _ _ (fun j => val (n.toNat * ti.size + j)) (fun j d hd => by rw [add_add]; exact hV _ d (by simpa using hd)) (fun j d hd => hR _ d (by simpa using hd))), fun w' _ => ?_⟩
    simp [Instr.indexAt, asIntOf, run_under hu, Instr.sureAddr, h0, h1, (hT _ _ hte).size]
  · exact h.elim

/-- A part of a value that is not in memory. -/
theorem partK_sound (hT : TOk P T) {t : TypeId} {vs : Array Value} {cs : List D} {off : Nat} {K : D → Prop} (hs : vs.size = cs.length) (ho : ∀ v ∈ vs.toList, v.oneCell' = true)
    (hR : ∀ (j : Nat) v d, vs[j]? = some v → cs[j]? = some d → RS (szOf T) V μ ω v d) (h : loadK T t (cs.drop off) K) : Qok P (szOf T) V μ ω w (part t vs off) K := by
  unfold loadK at h
  split at h
  case h_2 => exact h.elim
  rename_i ti hti
  have hg := hT t ti hti
  cases hag : ti.agg with
  | true =>
    rw [hag] at h
    simp only [leB_iff, forceL_eq, List.length_drop] at h
    obtain ⟨hle, hk⟩ := h
    refine ⟨_, .agg (vs.extract off (off + ti.size)), hk, .agg _ _ ?_ ?_ ?_, fun w' _ => ?_⟩
    · simp only [Array.size_extract, List.length_take, List.length_drop, hs]; omega
    · intro v hv
      rw [Array.toList_extract] at hv
      exact ho v (List.mem_of_mem_drop (List.mem_of_mem_take hv))
    · intro j v d h1 h2
      rw [List.getElem?_take] at h2
      split at h2
      · rw [List.getElem?_drop] at h2
        rw [Array.getElem?_extract] at h1
        split at h1
        · exact hR _ v d h1 h2
        · cases h1
      · cases h2
    · simp [part, hg.agg, hag, hg.size]
  | false =>
    rw [hag] at h
    cases hd : cs.drop off with
    | nil => rw [hd] at h; exact h.elim
    | cons c r =>
      rw [hd] at h
      simp only [D.force_eq] at h
      have hc : cs[off]? = some c := by
        have := congrArg (fun l => l[0]?) hd
        simpa using this
      have hlt : off < vs.size := by rw [hs]; exact (List.getElem?_eq_some_iff.1 hc).1
      have hv := Array.getElem?_eq_getElem hlt
      exact ⟨c, vs[off], h, hR off _ c hv hc, fun w' _ => by simp [part, hg.agg, hag, hv]⟩

theorem bstr_get (l : List UInt8) (n : Nat) : (bstr l)[n]? = l[n]? := by
  rw [getElem?_def]
  split
  · rename_i h
    have hl : n < l.length := by rw [← bstr_size]; exact h
    rw [List.getElem?_eq_getElem hl]
    rfl
  · rename_i h
    rw [List.getElem?_eq_none]
    rw [← bstr_size]
    exact Nat.le_of_not_lt h

theorem idxVK_sound (hT : TOk P T) {t : TypeId} {x i : D} {v vi : Value} {K : D → Prop} (hx : RS (szOf T) V μ ω v x) (hi : RS (szOf T) V μ ω vi i)
    (h : idxVK T t x i K) : Qok P (szOf T) V μ ω w (Instr.index t v vi) K := by
  unfold idxVK at h
  split at h
  · rename_i l k n
    obtain ⟨hu, h0, c, hc, m, rfl, hk⟩ := stK_iff hT h
    rw [hx.str_, hi.int_]
    refine ⟨_, _, hk, .imm _ _ (.i _ _), fun w' _ => ?_⟩
    simp [Instr.index, asIntOf, run_under hu, h0, bstr_get, hc]
  · rename_i cs k n
    split at h
    case h_2 => exact h.elim
    rename_i len e z hti
    obtain ⟨h0, h1, hk⟩ := h
    have hu := (hT _ _ hti).kind
    obtain ⟨vs, rfl, hs, ho, hR⟩ := hx.agg_
    rw [hi.int_]
    obtain ⟨d, u, h2, h3, h4⟩ := partK_sound (w := w) hT hs ho hR hk
    refine ⟨d, u, h2, h3, fun w' he => ?_⟩
    have hz : (sizeOf e).run P w' = .ok (szOf T e) w' := by
      unfold loadK at hk
      split at hk
      case h_2 => exact hk.elim
      rename_i ti hte
      rw [(hT _ _ hte).size, szOf_eq hte]
    simp [Instr.index, asIntOf, run_under hu, h0, h1, hz, h4 w' he]
  · exact h.elim

/-- Cells and what they hold. -/
structure AggR (sz : TypeId → Nat) (V : Vw) (μ : List Nat) (ω : List Value) (vs : Array Value) (cs : List D) : Prop where
  size : vs.size = cs.length
  one : ∀ v ∈ vs.toList, v.oneCell' = true
  rel : ∀ (j : Nat) v d, vs[j]? = some v → cs[j]? = some d → RS sz V μ ω v d
theorem cellsK_sound {sz : TypeId → Nat} {v : Value} {d : D} {K : List D → Prop} (hv : RS sz V μ ω v d) (h : d.cellsK K) : ∃ cs, AggR sz V μ ω v.cells cs ∧ K cs := by
  have one : ∀ (v : Value) (d : D), RS sz V μ ω v d → v.oneCell' = true → v.cells = #[v] → AggR sz V μ ω v.cells [d] := by
    intro v d h ho he
    rw [he]
    refine ⟨rfl, by simpa using ho, fun j u c h1 h2 => ?_⟩
    cases j with
    | zero => simp at h1 h2; subst h1 h2; exact h
    | succ j => simp at h1
  cases d <;> simp only [D.cellsK] at h
  case agg cs =>
    obtain ⟨vs, rfl, a, b, c⟩ := hv.agg_
    exact ⟨cs, ⟨a, b, c⟩, h⟩
  case i k n => exact ⟨_, one v _ hv (by rw [hv.int_]; rfl) (by rw [hv.int_]; rfl), h⟩
  case b p => obtain ⟨x, rfl, _⟩ := hv.bool; exact ⟨_, one _ _ hv rfl rfl, h⟩
  case tt => exact ⟨_, one v _ hv (by rw [hv.tt_]; rfl) (by rw [hv.tt_]; rfl), h⟩
  case ff => exact ⟨_, one v _ hv (by rw [hv.ff_]; rfl) (by rw [hv.ff_]; rfl), h⟩
  case s l => exact ⟨_, one v _ hv (by rw [hv.str_]; rfl) (by rw [hv.str_]; rfl), h⟩
  case nilS => exact ⟨_, one v _ hv (by rw [hv.nilS_]; rfl) (by rw [hv.nilS_]; rfl), h⟩
  case lst e a b => obtain ⟨_, _, _, _, rfl, _⟩ := hv.lst_; exact ⟨_, one _ _ hv rfl rfl, h⟩
  case own r n => obtain ⟨_, _, _, _, _, rfl⟩ := hv.own_; exact ⟨_, one _ _ hv rfl rfl, h⟩
  case ep c => obtain ⟨_, _, rfl, _⟩ := hv.ep_; exact ⟨_, one _ _ hv rfl rfl, h⟩
  case op r e j o => obtain ⟨_, _, _, _, rfl⟩ := hv.op_; exact ⟨_, one _ _ hv rfl rfl, h⟩
  case bp i o => obtain ⟨_, _, rfl⟩ := hv.bp_; exact ⟨_, one _ _ hv rfl rfl, h⟩
  case nilP =>
    have : v = .pointer none := by cases hv with | imm _ _ h => cases h; rfl
    subst this
    exact ⟨_, one _ _ hv rfl rfl, h⟩
  case fn f x y =>
    have : ∃ vs us, v = .func (.func f) vs us := by cases hv with | imm _ _ h => cases h; exact ⟨_, _, rfl⟩
    obtain ⟨vs, us, rfl⟩ := this
    exact ⟨_, one _ _ hv rfl rfl, h⟩
  case fnh f x y =>
    have : ∃ vs us, v = .func (.func f) vs us := by
      cases hv with
      | imm _ _ h => cases h
      | fnh => exact ⟨_, _, rfl⟩
    obtain ⟨vs, us, rfl⟩ := this
    exact ⟨_, one _ _ hv rfl rfl, h⟩

theorem setMany_get (news : List Value) : ∀ (off k : Nat) (cs : Array Value), (((news.zipIdx k).foldl (fun cs (x : Value × Nat) => cs.setIfInBounds (off + x.2) x.1) cs).size = cs.size) ∧
    ∀ j, ((news.zipIdx k).foldl (fun cs (x : Value × Nat) => cs.setIfInBounds (off + x.2) x.1) cs)[j]? = if off + k ≤ j ∧ j < off + k + news.length ∧ j < cs.size then news[j - (off + k)]? else cs[j]? := by
  induction news with
  | nil => intro off k cs; refine ⟨rfl, fun j => ?_⟩; rw [if_neg (by simp; omega)]; rfl
  | cons v r ih =>
    intro off k cs
    simp only [List.zipIdx_cons, List.foldl_cons]
    obtain ⟨h1, h2⟩ := ih off (k + 1) (cs.setIfInBounds (off + k) v)
    refine ⟨by rw [h1]; simp, fun j => ?_⟩
    rw [h2 j, Array.getElem?_setIfInBounds]
    simp only [Array.size_setIfInBounds, List.length_cons]
    by_cases hj : off + k = j
    · subst hj
      rw [if_neg (by omega), if_pos rfl]
      by_cases hs : off + k < cs.size
      · rw [if_pos hs, if_pos ⟨by omega, by omega, hs⟩]
        simp
      · rw [if_neg hs, if_neg (by omega), Array.getElem?_eq_none (by omega)]
    · rw [if_neg hj]
      by_cases hc : off + (k + 1) ≤ j ∧ j < off + (k + 1) + r.length ∧ j < cs.size
      · rw [if_pos hc, if_pos ⟨by omega, by omega, hc.2.2⟩]
        rw [show j - (off + k) = (j - (off + (k + 1))) + 1 by omega, List.getElem?_cons_succ]
      · rw [if_neg hc, if_neg (by omega)]

theorem AggR.set {sz : TypeId → Nat} {vs us : Array Value} {cs ds : List D} (h : AggR sz V μ ω vs cs) (h' : AggR sz V μ ω us ds) {off : Nat} (hle : off + ds.length ≤ cs.length) :
    AggR sz V μ ω (us.zipIdx.foldl (fun cs (x : Value × Nat) => cs.setIfInBounds (off + x.2) x.1) vs) (setCells cs off ds) := by
  have e : us.zipIdx.foldl (fun cs (x : Value × Nat) => cs.setIfInBounds (off + x.2) x.1) vs = ((us.toList.zipIdx 0).foldl (fun cs (x : Value × Nat) => cs.setIfInBounds (off + x.2) x.1) vs) := by
    rw [← Array.foldl_toList, Array.toList_zipIdx]
  obtain ⟨h1, h2⟩ := setMany_get us.toList off 0 vs
  rw [e]
  have hg : ∀ j v, ((us.toList.zipIdx 0).foldl (fun cs (x : Value × Nat) => cs.setIfInBounds (off + x.2) x.1) vs)[j]? = some v →
      (off ≤ j ∧ j < off + ds.length ∧ us[j - off]? = some v) ∨ (¬(off ≤ j ∧ j < off + ds.length) ∧ vs[j]? = some v) := by
    intro j v hv
    rw [h2 j] at hv
    split at hv
    · rename_i hc
      refine .inl ⟨by omega, by have := h'.size; simp at hc; omega, by simpa using hv⟩
    · rename_i hc
      refine .inr ⟨fun hc' => hc ⟨by omega, by have := h'.size; simp; omega, by rw [h.size]; omega⟩, hv⟩
  refine ⟨?_, fun v hv => ?_, fun j v d hv hd => ?_⟩
  · rw [h1, h.size]; simp [setCells]; omega
  · obtain ⟨j, hj⟩ := List.getElem?_of_mem hv
    rw [Array.getElem?_toList] at hj
    rcases hg j v hj with ⟨_, _, hu⟩ | ⟨_, hu⟩
    · exact h'.one v (by have := Array.mem_of_getElem? hu; simpa using this)
    · exact h.one v (by have := Array.mem_of_getElem? hu; simpa using this)
  · have hcd : (setCells cs off ds)[j]? = if off ≤ j ∧ j < off + ds.length then ds[j - off]? else cs[j]? := by
      unfold setCells
      by_cases hj : j < off
      · rw [List.getElem?_append_left (by simp; omega), List.getElem?_take_of_lt hj, if_neg (by omega)]
      · rw [List.getElem?_append_right (by simp; omega), List.length_take, Nat.min_eq_left (by omega)]
        by_cases hj2 : j < off + ds.length
        · rw [List.getElem?_append_left (by omega), if_pos (by omega)]
        · rw [List.getElem?_append_right (by omega), if_neg (by omega), List.getElem?_drop]
          congr 1; omega
    rw [hcd] at hd
    rcases hg j v hv with ⟨ha, hb, hu⟩ | ⟨hn, hu⟩
    · rw [if_pos ⟨ha, hb⟩] at hd; exact h'.rel _ v d hu hd
    · rw [if_neg hn] at hd; exact h.rel j v d hu hd

theorem fillD_sound {sz : TypeId → Nat} {fs : Nat → Option (Nat × Nat)} (ps : List (Nat × D)) : ∀ (vps : List (Nat × Value)) (zs : List D) (vz : Array Value) (K : List D → Prop),
    AggR sz V μ ω vz zs → vps.length = ps.length → (∀ (j : Nat) i v i' d, vps[j]? = some (i, v) → ps[j]? = some (i', d) → i = i' ∧ RS sz V μ ω v d) → fillD fs zs ps K →
    ∃ vs cs, Instr.fill fs vz vps = some vs ∧ AggR sz V μ ω vs cs ∧ K cs := by
  induction ps with
  | nil =>
    intro vps zs vz K hz hl _ h
    have : vps = [] := List.eq_nil_of_length_eq_zero hl
    subst this
    rw [fillD, forceL_eq] at h
    exact ⟨vz, zs, rfl, hz, h⟩
  | cons p r ih =>
    intro vps zs vz K hz hl hr h
    obtain ⟨i, d⟩ := p
    cases vps with
    | nil => simp at hl
    | cons q vr =>
      obtain ⟨i', v⟩ := q
      obtain ⟨rfl, hv⟩ := hr 0 i' v i d rfl rfl
      simp only [fillD] at h
      split at h
      case h_2 => exact h.elim
      rename_i off size hfs
      obtain ⟨ds, hd, h⟩ := cellsK_sound hv h
      simp only [leB_iff, forceL_eq] at h
      obtain ⟨h1, h2, h3, h⟩ := h
      have hsz : v.cells.size = size := by rw [hd.size]; omega
      obtain ⟨vs, cs, h4, h5, h6⟩ := ih vr _ _ K (hz.set hd h3) (by simpa using hl) (fun j a b c d e f => hr (j + 1) a b c d (by simpa using e) (by simpa using f)) h
      refine ⟨vs, cs, ?_, h5, h6⟩
      simp only [Instr.fill, hfs]
      rw [if_neg (by simp [hsz, hz.size]; omega)]
      exact h4

/-! ### Calls that hand back a plain value -/
def heapV (w : World) : Vw := fun p => w.cell? p
theorem VOk.le {V : Vw} {w : World} (h : VOk V w) : VLe V (heapV w) := h

theorem expo1_sound (hS : Mem (szOf T) w0 V0 V μ ω s.box s.row w) {ti : Option TI} {d : D} {v : Value} {K : D → Prop} (hv : RS (szOf T) V μ ω v d) (h : expo1 ti s.row d K) :
    ∃ d', K d' ∧ RI (szOf T) (heapV w) v d' := by
  have imm : ∀ d, K d → RI (szOf T) V v d → ∃ d', K d' ∧ RI (szOf T) (heapV w) v d' := fun d hk hr => ⟨d, hk, hr.mono hS.vok.le⟩
  unfold expo1 at h
  split at h
  · rw [hv.nilS_]
    split at h
    · refine ⟨_, h, ?_⟩
      exact RI.lst _ [] [] none ⟨0, 0, none⟩ 0 (fun _ _ => undef) (by simp) (by unfold maxLen; omega) (by simp) (by simp) (by simp) (by simp) (by simp)
    · exact ⟨_, h, .nilS⟩
  · rw [hv.tt_]; exact ⟨_, h, .b _ _ (by simp)⟩
  · rw [hv.ff_]; exact ⟨_, h, .b _ _ (by simp)⟩
  · rename_i r n
    split at h
    case h_2 => exact h.elim
    rename_i e xs hr
    obtain ⟨hn, h⟩ := h
    obtain ⟨A, N, c, hω, hnN, rfl⟩ := hv.own_
    obtain ⟨vals, hown, ho, hl, hR⟩ := hS.hrow r _ e xs hω hr
    refine ⟨_, h, ?_⟩
    have hcap : xs.length ≤ c ∧ c ≤ maxLen ∧ (xs ≠ [] → ∃ g, A = some ⟨g, 0, none⟩) ∧ (A = none → c = 0) := by
      rcases hown.2 with ⟨hv, h0⟩ | ⟨g, cap, cur, hv, _, _, h5, h6, _⟩
      · injection hv with _ h5 h6
        subst h6
        exact ⟨by omega, by unfold maxLen; omega, fun hx => absurd (List.eq_nil_of_length_eq_zero h0) hx, fun _ => rfl⟩
      · injection hv with h7 h8 h9
        subst h9
        exact ⟨h5, h6, fun _ => ⟨g, h7⟩, fun hno => by rw [h7] at hno; cases hno⟩
    obtain ⟨hc1, hc2, hc3, hc4⟩ := hcap
    by_cases hx : xs = []
    · subst hx
      have : n = 0 := by simpa using hn
      subst this
      exact RI.lst e [] [] A ⟨0, 0, none⟩ c (fun _ _ => undef) (by simp) hc2 (by simp) hc4 (by simp) (by simp) (by simp)
    · obtain ⟨g, rfl⟩ := hc3 hx
      have hcat : xs.take n ++ xs.drop n = xs := List.take_append_drop n xs
      have := RI.lst (sz := szOf T) (V := heapV w) e (xs.take n) (xs.drop n) (some ⟨g, 0, none⟩) ⟨g, 0, none⟩ c (fun i j => vals.getD (i * szOf T e + j) undef) (by simp; omega) hc2 (fun _ => rfl) (fun hno => by cases hno)
        (fun i row h => hl i row (by rwa [hcat] at h))
        (fun i row j d h1 h2 => by
          rw [hcat] at h1
          obtain ⟨u, hu, _⟩ := hR i row j d h1 h2
          have hg : vals.getD (i * szOf T e + j) undef = u := by simp [List.getD, hu]
          show w.cell? _ = some (vals.getD (i * szOf T e + j) undef) ∧ (vals.getD (i * szOf T e + j) undef).oneCell' = true
          rw [hg]
          exact ⟨hown.cells (g := g) rfl _ _ hu, ho u (List.mem_of_getElem? hu)⟩)
        (fun i row j d h1 h2 => by
          rw [hcat] at h1
          obtain ⟨u, hu, hr⟩ := hR i row j d h1 h2
          have hg : vals.getD (i * szOf T e + j) undef = u := by simp [List.getD, hu]
          show RI _ _ (vals.getD (i * szOf T e + j) undef) d
          rw [hg]
          exact hr.mono hS.vok.le)
      rwa [List.length_take, Nat.min_eq_left hn] at this
  · exact h.elim
  · exact h.elim
  · exact h.elim
  · exact h.elim
  · exact h.elim
  · rename_i h1 h2 h3 h4 h5 h6 h7 h8 h9
    rw [D.force_eq] at h
    refine imm d h ?_
    cases hv with
    | imm _ _ hr => exact hr
    | own => exact absurd rfl (h4 _ _)
    | op => exact absurd rfl (h5 _ _ _ _)
    | bp => exact absurd rfl (h6 _ _)
    | agg => exact absurd rfl (h7 _)
    | tup => exact absurd rfl (h8 _)
    | fnh => exact absurd rfl (h9 _ _ _)

theorem expoL_sound (hS : Mem (szOf T) w0 V0 V μ ω s.box s.row w) {fs : List (Nat × TypeId)} : ∀ (cs : List D) (i : Nat) (vs : List Value) (K : List D → Prop), vs.length = cs.length →
    (∀ (j : Nat) v d, vs[j]? = some v → cs[j]? = some d → RS (szOf T) V μ ω v d) → expoL T fs s.row i cs K →
    ∃ ds, K ds ∧ ds.length = cs.length ∧ ∀ (j : Nat) v d, vs[j]? = some v → ds[j]? = some d → RI (szOf T) (heapV w) v d
  | [], i, vs, K, hl, hR, h => ⟨[], h, rfl, fun j v d _ hd => by simp at hd⟩
  | c :: cs, i, [], K, hl, hR, h => by simp at hl
  | c :: cs, i, v :: vs, K, hl, hR, h => by
    simp only [expoL] at h
    obtain ⟨d, h, hd⟩ := expo1_sound hS (hR 0 v c rfl rfl) h
    obtain ⟨ds, h, hds, hr⟩ := expoL_sound hS cs (i + 1) vs _ (by simpa using hl) (fun j v d h1 h2 => hR (j + 1) v d (by simpa using h1) (by simpa using h2)) h
    refine ⟨d :: ds, h, by simp [hds], fun j v' d' h1 h2 => ?_⟩
    cases j with
    | zero => simp at h1 h2; subst h1 h2; exact hd
    | succ j => exact hr j v' d' (by simpa using h1) (by simpa using h2)

theorem expo_sound (hS : Mem (szOf T) w0 V0 V μ ω s.box s.row w) {t : TypeId} {d : D} {v : Value} {K : D → Prop} (hv : RS (szOf T) V μ ω v d) (h : expo T t s.row d K) :
    ∃ d', K d' ∧ RI (szOf T) (heapV w) v d' := by
  have agg : ∀ (fs : List (Nat × TypeId)) (cs : List D), RS (szOf T) V μ ω v (.agg cs) → (expoL T fs s.row 0 cs fun cs => K (.agg cs)) → ∃ d', K d' ∧ RI (szOf T) (heapV w) v d' := by
    intro fs cs hv h
    obtain ⟨vs, rfl, hs, ho, hR⟩ := hv.agg_
    obtain ⟨ds, hk, hl, hr⟩ := expoL_sound hS cs 0 vs.toList _ (by simpa using hs) (fun j v d h1 h2 => hR j v d (by simpa using h1) h2) h
    exact ⟨_, hk, .agg _ _ (by rw [hs, hl]) ho fun j v d h1 h2 => hr j v d (by simpa using h1) h2⟩
  unfold expo at h
  split at h
  · rename_i cs
    split at h
    · exact agg _ cs hv h
    · exact agg _ cs hv h
  · exact expo1_sound hS hv h

theorem expos_sound (hS : Mem (szOf T) w0 V0 V μ ω s.box s.row w) : ∀ (ts : List TypeId) (ds : List D) (vs : List Value) (K : List D → Prop), vs.length = ds.length →
    (∀ (j : Nat) v d, vs[j]? = some v → ds[j]? = some d → RS (szOf T) V μ ω v d) → expos T s.row ts ds K →
    ∃ es, K es ∧ es.length = ds.length ∧ ∀ (j : Nat) v d, vs[j]? = some v → es[j]? = some d → RI (szOf T) (heapV w) v d
  | [], [], vs, K, hl, hR, h => ⟨[], h, rfl, fun j v d _ hd => by simp at hd⟩
  | t :: ts, [], vs, K, hl, hR, h => h.elim
  | [], d :: ds, vs, K, hl, hR, h => h.elim
  | t :: ts, d :: ds, [], K, hl, hR, h => by simp at hl
  | t :: ts, d :: ds, v :: vs, K, hl, hR, h => by
    simp only [expos] at h
    obtain ⟨d', h, hd⟩ := expo_sound hS (hR 0 v d rfl rfl) h
    obtain ⟨es, h, hes, hr⟩ := expos_sound hS ts ds vs _ (by simpa using hl) (fun j v d h1 h2 => hR (j + 1) v d (by simpa using h1) (by simpa using h2)) h
    refine ⟨d' :: es, h, by simp [hes], fun j v' e' h1 h2 => ?_⟩
    cases j with
    | zero => simp at h1 h2; subst h1 h2; exact hd
    | succ j => exact hr j v' e' (by simpa using h1) (by simpa using h2)

theorem exposU_sound (hS : Mem (szOf T) w0 V0 V μ ω s.box s.row w) : ∀ (ds : List D) (vs : List Value) (K : List D → Prop), vs.length = ds.length →
    (∀ (j : Nat) v d, vs[j]? = some v → ds[j]? = some d → RS (szOf T) V μ ω v d) → exposU T s.row s.box ds K →
    ∃ es, K es ∧ es.length = ds.length ∧ ∀ (j : Nat) v d, vs[j]? = some v → es[j]? = some d → RI (szOf T) (heapV w) v d
  | [], vs, K, hl, hR, h => ⟨[], h, rfl, fun j v d _ hd => by simp at hd⟩
  | d :: ds, [], K, hl, hR, h => by simp at hl
  | d :: ds, v :: vs, K, hl, hR, h => by
    have go : (∃ d', (exposU T s.row s.box ds fun ds => K (d' :: ds)) ∧ RI (szOf T) (heapV w) v d') → ∃ es, K es ∧ es.length = (d :: ds).length ∧ ∀ (j : Nat) v' d, (v :: vs)[j]? = some v' → es[j]? = some d → RI (szOf T) (heapV w) v' d := by
      rintro ⟨d', h, hd⟩
      obtain ⟨es, h, hes, hr⟩ := exposU_sound hS ds vs _ (by simpa using hl) (fun j v d h1 h2 => hR (j + 1) v d (by simpa using h1) (by simpa using h2)) h
      refine ⟨d' :: es, h, by simp [hes], fun j v' e' h1 h2 => ?_⟩
      cases j with
      | zero => simp at h1 h2; subst h1 h2; exact hd
      | succ j => exact hr j v' e' (by simpa using h1) (by simpa using h2)
    apply go
    have hv := hR 0 v d rfl rfl
    unfold exposU at h
    split at h
    · cases ‹_ = _›
    · rename_i cs ds' heq
      cases heq
      obtain ⟨us, rfl, hs, ho, hR'⟩ := hv.agg_
      obtain ⟨es, hk, hl', hr⟩ := expoL_sound hS cs 0 us.toList _ (by simpa using hs) (fun j v d h1 h2 => hR' j v d (by simpa using h1) h2) h
      exact ⟨_, hk, .agg _ _ (by rw [hs, hl']) ho fun j v d h1 h2 => hr j v d (by simpa using h1) h2⟩
    · rename_i i ds' heq
      cases heq
      split at h
      case h_2 => exact h.elim
      rename_i cs hcs
      obtain ⟨g, rfl, hμ⟩ : ∃ g, v = .pointer (some ⟨g, 0, none⟩) ∧ μ[i]? = some g := by
        cases hv with
        | imm _ _ hr => cases hr
        | bp _ _ g h => exact ⟨g, rfl, h⟩
      obtain ⟨us, t, hu, hs, ho, hR'⟩ := hS.hbox i g cs hμ hcs
      obtain ⟨es, hk, hl', hr⟩ := expoL_sound hS cs 0 us.toList _ (by simpa using hs) (fun j v d h1 h2 => hR' j v d (by simpa using h1) h2) h
      refine ⟨_, hk, .ep es ⟨g, 0, none⟩ (fun j => us.getD j undef) (fun j d hj => ?_) (fun j d hj => ?_)⟩
      · have hjl : j < us.size := by rw [hs, ← hl']; exact (List.getElem?_eq_some_iff.1 hj).1
        have hgd : us.getD j undef = us[j] := by simp [Array.getD, hjl]
        rw [hgd]
        refine ⟨?_, ho _ (by simp)⟩
        have ha : (⟨g, 0, none⟩ : Addr).add j = ⟨g, j, none⟩ := by cases j <;> simp [Addr.add]
        show w.cell? _ = _
        rw [ha]
        simp [World.cell?, hu, hjl]
      · have hjl : j < us.size := by rw [hs, ← hl']; exact (List.getElem?_eq_some_iff.1 hj).1
        have hgd : us.getD j undef = us[j] := by simp [Array.getD, hjl]
        rw [hgd]
        exact hr j _ d (by simp [hjl]) hj
    · rename_i d' ds' _ _ heq
      cases heq
      exact expo1_sound hS hv h

theorem imm1_ri {sz : TypeId → Nat} {d : D} {v : Value} (hv : RS sz V μ ω v d) (h : imm1 d = true) : RI sz V v d := by
  cases hv with
  | imm _ _ hr => exact hr
  | _ => simp [imm1] at h
theorem immL_at : ∀ {cs : List D}, immL cs = true → ∀ (j : Nat) d, cs[j]? = some d → imm1 d = true
  | [], _, j, d, h => by simp at h
  | c :: cs, hg, j, d, h => by
    simp only [immL, Bool.and_eq_true] at hg
    cases j with
    | zero => simp at h; subst h; exact hg.1
    | succ j => exact immL_at hg.2 j d (by simpa using h)
theorem immD_ri {sz : TypeId → Nat} {d : D} {v : Value} (hv : RS sz V μ ω v d) (h : immD d = true) : RI sz V v d := by
  by_cases ha : ∃ cs, d = .agg cs
  · obtain ⟨cs, rfl⟩ := ha
    obtain ⟨vs, rfl, hs, ho, hR⟩ := hv.agg_
    exact .agg _ _ hs ho fun j v d h1 h2 => imm1_ri (hR j v d h1 h2) (immL_at h j d h2)
  · refine imm1_ri hv ?_
    cases d <;> first | exact h | exact absurd ⟨_, rfl⟩ ha
theorem imms_at : ∀ {cs : List D}, imms cs = true → ∀ (j : Nat) d, cs[j]? = some d → immD d = true
  | [], _, j, d, h => by simp at h
  | c :: cs, hg, j, d, h => by
    simp only [imms, Bool.and_eq_true] at hg
    cases j with
    | zero => simp at h; subst h; exact hg.1
    | succ j => exact imms_at hg.2 j d (by simpa using h)

open Classical in
/-- The value of a datum that is told by it alone. -/
noncomputable def toV1 : D → Value
  | .i k n => .int k n | .b p => .bool (decide p) | .tt => .bool true | .ff => .bool false | .s l => .string (bstr l) | .nilS => .slice none 0 0 | .nilP => .pointer none | _ => undef
noncomputable def toV : D → Value
  | .agg cs => .agg (cs.map toV1).toArray
  | .tup cs => .tuple (cs.map toV1).toArray
  | d => toV1 d
theorem toV1_ri {sz : TypeId → Nat} {d : D} (hg : d.ground = true) : RI sz V (toV1 d) d := by
  cases d <;> simp only [D.ground] at hg <;> try contradiction
  · exact .i _ _
  · exact .b _ _ (by simp)
  · exact .tt
  · exact .ff
  · exact .s _
  · exact .nilS
  · exact .nilP
theorem toV1_one {d : D} (hg : d.ground = true) : (toV1 d).oneCell' = true := by
  cases d <;> simp only [D.ground] at hg <;> first | contradiction | rfl
theorem toV_ri {sz : TypeId → Nat} {d : D} (hg : d.ground' = true) : RI sz V (toV d) d := by
  cases d
  case agg cs =>
    refine .agg _ _ (by simp) ?_ ?_
    · intro v hv
      simp only [List.mem_map] at hv
      obtain ⟨c, hc, rfl⟩ := hv
      obtain ⟨j, hj⟩ := List.getElem?_of_mem hc
      exact toV1_one (grounds_at hg j c hj)
    · intro j v d h1 h2
      simp only [List.getElem?_toArray, List.getElem?_map, h2, Option.map_some, Option.some.injEq] at h1
      subst h1
      exact toV1_ri (grounds_at hg j d h2)
  case tup cs =>
    refine .tup _ _ (by simp) ?_
    intro j v d h1 h2
    simp only [List.getElem?_toArray, List.getElem?_map, h2, Option.map_some, Option.some.injEq] at h1
    subst h1
    exact toV1_ri (grounds_at hg j d h2)
  all_goals (first | exact toV1_ri (by simpa [D.ground'] using hg) | (simp [D.ground', D.ground] at hg))

/-- A call at plain data, from whatever world that has grown out of w: what it hands back, if that is told by the contract alone. -/
theorem FSpec.quiet {f : FuncId} {es : List D} {d : D} {args : Array Value} (hf : FSpec P T f es (fun d' _ => d' = d)) (hg : d.ground' = true) (hl : args.size = es.length)
    (hr : ∀ (j : Nat) v d, args[j]? = some v → es[j]? = some d → RI (szOf T) (heapV w) v d) :
    ∀ w', Ext w w' → Calls P f args w' fun e w'' => e = .returned (toV d) ∧ Ext w w'' := by
  intro w' he
  refine (hf.run (heapV w') w' args (fun p v h => h) hl (fun j v d h1 h2 => (hr j v d h1 h2).mono fun p u hp => he.cell hp)).mono ?_
  rintro e w'' ⟨V', ω', row, v, d', rfl, rfl, hrs, hres⟩
  exact ⟨by rw [(hrs.ri hg).uniq' (toV_ri (V := V') hg) hg], he.trans hres.below⟩

theorem fnK_sound {sz : TypeId → Nat} {v : Value} {d : D} {K : FuncId → List D → List D → Prop} (hv : RS sz V μ ω v d) (h : fnK d K) :
    ∃ f first cap vs us, v = .func (.func f) vs us ∧ vs.size = first.length ∧ us.size = cap.length ∧ (∀ (j : Nat) v d, vs[j]? = some v → first[j]? = some d → RS sz V μ ω v d) ∧
      (∀ (j : Nat) v d, us[j]? = some v → cap[j]? = some d → RS sz V μ ω v d) ∧ K f first cap := by
  cases d <;> try exact h.elim
  case fn f first cap =>
    cases hv with | imm _ _ hr => cases hr with | fn _ _ _ vs us h1 h2 hR1 hR2 => exact ⟨f, first, cap, vs, us, rfl, h1, h2, fun j v d a b => .imm _ _ (hR1 j v d a b), fun j v d a b => .imm _ _ (hR2 j v d a b), h⟩
  case fnh f first cap =>
    cases hv with
    | imm _ _ hr => cases hr
    | fnh _ _ _ vs us h1 h2 hR1 hR2 => exact ⟨f, first, cap, vs, us, rfl, h1, h2, hR1, hR2, h⟩

theorem cat2 {R : Value → D → Prop} {v1 v2 : List Value} {d1 d2 : List D} (h1 : ∀ (j : Nat) v d, v1[j]? = some v → d1[j]? = some d → R v d) (h2 : ∀ (j : Nat) v d, v2[j]? = some v → d2[j]? = some d → R v d)
    (hl : v1.length = d1.length) : ∀ (j : Nat) v d, (v1 ++ v2)[j]? = some v → (d1 ++ d2)[j]? = some d → R v d := by
  intro j v d hv hd
  by_cases hj : j < v1.length
  · rw [List.getElem?_append_left hj] at hv
    rw [List.getElem?_append_left (by omega)] at hd
    exact h1 j v d hv hd
  · rw [List.getElem?_append_right (by omega)] at hv
    rw [List.getElem?_append_right (by omega), ← hl] at hd
    exact h2 _ v d hv hd
theorem cat3 {R : Value → D → Prop} {v1 v2 v3 : List Value} {d1 d2 d3 : List D} (h1 : ∀ (j : Nat) v d, v1[j]? = some v → d1[j]? = some d → R v d) (h2 : ∀ (j : Nat) v d, v2[j]? = some v → d2[j]? = some d → R v d)
    (h3 : ∀ (j : Nat) v d, v3[j]? = some v → d3[j]? = some d → R v d) (hl : v1.length = d1.length) (hl2 : v2.length = d2.length) :
    ∀ (j : Nat) v d, (v1 ++ v2 ++ v3)[j]? = some v → (d1 ++ d2 ++ d3)[j]? = some d → R v d :=
  cat2 (cat2 h1 h2 hl) h3 (by simp [hl, hl2])

/-! ### One operation -/
/-- The worlds in which it yields the same. -/
def QR (o : Oper) (p : Addr) (n : Nat) (w w' : World) : Prop := match o.op with | .load _ _ => KeepN p n w w' | .call { callee := .value _, args := _, argTypes := _ } => Ext w w' | _ => True
theorem QR.ext {o : Oper} {p : Addr} {n : Nat} (h : Ext w w') : QR o p n w w' := by
  unfold QR
  split
  · exact h.keepN p n
  · exact h
  · trivial
/-- What is shown of one operation that leaves memory alone. -/
def Qop (P : Program) (T : Tab) (w0 : World) (V0 : Fr) (V : Vw) (μ : List Nat) (ω : List Value) (s : St) (a : Act) (w : World) (o : Oper) (K : D → St → Prop) : Prop :=
  ∃ d v s', K d s' ∧ RS (szOf T) V μ ω v d ∧ Sim (szOf T) w0 V0 V μ ω s' a w ∧ ∃ p n, SrcP V μ ω (srcQ s o) p n ∧ ∀ w', QR o p n w w' → o.quietAt P a (Ext w) w' v

theorem Qop.of_ok {s : St} (hS : Sim (szOf T) w0 V0 V μ ω s a w) {o : Oper} {x : Sem Value} {K : D → St → Prop} (hx : execOp a.eval o = (do pure (.value (← x)))) (h : Qok P (szOf T) V μ ω w x fun d => K d s)
    (hsrc : srcQ s o = .none := by rfl) : Qop P T w0 V0 V μ ω s a w o K := by
  obtain ⟨d, v, h1, h2, h3⟩ := h
  refine ⟨d, v, s, h1, h2, hS, ⟨0, 0, none⟩, 0, by rw [hsrc]; exact SrcP.zero _, fun w' _ => ?_⟩
  unfold Oper.quietAt
  rw [hx]
  simp only [Sem.run_bind, h3 w' trivial, Result.andThen_ok, Sem.run_pure]
  exact ⟨rfl, rfl⟩

theorem optRS_map {s : St} (hS : Sim (szOf T) w0 V0 V μ ω s a w) (x : Option Operand) : optRS (szOf T) V μ ω (x.map s.get) (x.map a.eval) := by
  cases x with
  | none => trivial
  | some x => exact hS.get x

theorem allK_iff : ∀ {fs : List (Nat × TypeId)} {p : Prop}, allK T fs p → (∀ x ∈ fs, ∃ ti, T x.2 = some ti) ∧ p
  | [], p, h => ⟨by simp, h⟩
  | (o, t) :: r, p, h => by
    unfold allK at h
    split at h
    case h_2 => exact h.elim
    rename_i ti hti
    obtain ⟨h1, h2⟩ := allK_iff h
    refine ⟨fun x hx => ?_, h2⟩
    rcases List.mem_cons.1 hx with rfl | hx
    · exact ⟨ti, hti⟩
    · exact h1 x hx

theorem run_placesL (hT : TOk P T) : ∀ (fa : List Field) (w : World), (∀ x ∈ fa.map (fun f => (f.offset, f.type)), ∃ ti, T x.2 = some ti) →
    (fa.mapM (fun f => do pure (f.offset, ← sizeOf f.type) : Field → Sem (Nat × Nat))).run P w = .ok (fa.map fun f => (f.offset, szOf T f.type)) w
  | [], w, _ => by simp
  | f :: fa, w, h => by
    obtain ⟨ti, hti⟩ := h (f.offset, f.type) (by simp)
    have hz : (sizeOf f.type).run P w = .ok (szOf T f.type) w := by rw [(hT _ _ hti).size, szOf_eq hti]
    have ih := run_placesL hT fa w (fun x hx => h x (by simp only [List.map_cons, List.mem_cons]; exact .inr hx))
    simp only [List.mapM_cons, Sem.run_bind, hz, Result.andThen_ok, Sem.run_pure, ih, List.map_cons]
theorem run_places (hT : TOk P T) (fa : Array Field) (w : World) (h : ∀ x ∈ fa.toList.map (fun f => (f.offset, f.type)), ∃ ti, T x.2 = some ti) :
    (fa.mapM (fun f => do pure (f.offset, ← sizeOf f.type) : Field → Sem (Nat × Nat))).run P w = .ok (fa.map fun f => (f.offset, szOf T f.type)) w := by
  have := run_placesL hT fa.toList w h
  rw [Array.mapM_eq_mapM_toList, Sem.run_map, this]
  simp only [Result.andThen_ok]
  congr 1
  apply Array.ext'
  simp

/-- An operation that leaves memory alone. -/
theorem qop_sound (hT : TOk P T) (hS : Sim (szOf T) w0 V0 V μ ω s a w) {o : Oper} {K : D → St → Prop} (h : qop P T s o K) : Qop P T w0 V0 V μ ω s a w o K := by
  obtain ⟨dst, op, type, pos, after, guard⟩ := o
  cases op
  case move x =>
    simp only [qop, D.force_eq] at h
    exact .of_ok hS (x := pure (a.eval _)) (by simp [execOp]) ⟨_, _, h, hS.get _, fun w' _ => rfl⟩
  case assign x =>
    simp only [qop, D.force_eq] at h
    exact .of_ok hS (x := pure (a.eval _)) (by simp [execOp]) ⟨_, _, h, hS.get _, fun w' _ => rfl⟩
  case pick c x y =>
    simp only [qop] at h
    have hc := hS.get c
    split at h
    · rename_i hcc
      rw [hcc] at hc
      rw [D.force_eq] at h
      refine ⟨_, _, s, h, hS.get x, hS, ⟨0, 0, none⟩, 0, SrcP.zero _, fun w' he => ?_⟩
      simp [Oper.quietAt, execOp, hc.tt_, asBool, Oper.quietUpon]
    · rename_i hcc
      rw [hcc] at hc
      rw [D.force_eq] at h
      refine ⟨_, _, s, h, hS.get y, hS, ⟨0, 0, none⟩, 0, SrcP.zero _, fun w' he => ?_⟩
      simp [Oper.quietAt, execOp, hc.ff_, asBool, Oper.quietUpon]
    · rename_i p hcc
      rw [hcc] at hc
      obtain ⟨b, hb, hbp⟩ := hc.bool
      simp only [D.force_eq] at h
      cases b with
      | true =>
        refine ⟨_, _, _, h.1 (hbp.1 rfl), hS.get x, hS.know c (d := .tt) (by rw [hb]; exact .imm _ _ .tt), ⟨0, 0, none⟩, 0, SrcP.zero _, fun w' he => ?_⟩
        simp [Oper.quietAt, execOp, hb, asBool, Oper.quietUpon]
      | false =>
        refine ⟨_, _, _, h.2 (fun hp => by simpa using hbp.2 hp), hS.get y, hS.know c (d := .ff) (by rw [hb]; exact .imm _ _ .ff), ⟨0, 0, none⟩, 0, SrcP.zero _, fun w' he => ?_⟩
        simp [Oper.quietAt, execOp, hb, asBool, Oper.quietUpon]
    · exact h.elim
  case load t x =>
    simp only [qop] at h
    obtain ⟨p, n, d, u, hv, hk, hr, hsp, hl⟩ := ptrK_sound hT hS.mem (hS.get x) h
    refine ⟨d, u, s, hk, hr, hS, p, n, hsp, fun w' he => ?_⟩
    have hl' := hl w' he
    simp [Oper.quietAt, execOp, Instr.loadAt, hv, Instr.sureAddr, hl', Oper.quietUpon]
  case nilCheck x =>
    simp only [qop] at h
    have hx := hS.get x
    split at h
    · rename_i hc
      rw [hc] at hx
      obtain ⟨ad, val, hv, _⟩ := hx.ep_
      refine ⟨_, _, s, h, hx, hS, ⟨0, 0, none⟩, 0, SrcP.zero _, fun w' he => ?_⟩
      simp [Oper.quietAt, execOp, hv, Oper.quietUpon]
    · rename_i hc
      rw [hc] at hx
      obtain ⟨g, _, hv⟩ := hx.bp_
      refine ⟨_, _, s, h, hx, hS, ⟨0, 0, none⟩, 0, SrcP.zero _, fun w' he => ?_⟩
      simp [Oper.quietAt, execOp, hv, Oper.quietUpon]
    · rename_i hc
      rw [hc] at hx
      obtain ⟨g, _, _, _, hv⟩ := hx.op_
      refine ⟨_, _, s, h, hx, hS, ⟨0, 0, none⟩, 0, SrcP.zero _, fun w' he => ?_⟩
      simp [Oper.quietAt, execOp, hv, Oper.quietUpon]
    · exact h.elim
  case binOp bo t x y t' =>
    simp only [qop] at h
    exact .of_ok hS (x := do eqGuard bo t x y (a.eval x) (a.eval y); binOp bo t (a.eval x) (a.eval y)) (by simp [execOp]) (binK_sound hT (hS.get x) (hS.get y) h)
  case unOp uo t x =>
    simp only [qop] at h
    exact .of_ok hS (x := Op.unary uo (a.eval x)) (by simp [execOp]) (unK_sound (hS.get x) h)
  case convert t1 t2 x =>
    simp only [qop] at h
    have hx := hS.get x
    split at h
    · rename_i k n h1 h2 k2 h3 h4 h5 h6
      have u1 := (hT _ _ h5).kind
      have u2 := (hT _ _ h6).kind
      rw [h4] at hx
      refine .of_ok hS (x := convert t1 t2 (a.eval x)) (by simp [execOp]) (Qok.num h fun w' => ?_)
      simp [hx.int_, convert, run_under u1, run_under u2, Conv.intToInt]
    · rename_i l h1 h2 h3 h4 h5 h6 h7
      have u1 : P.underlying t1 = some .string := (hT _ _ h6).kind
      have u2 : P.underlying t2 = some .string := (hT _ _ h7).kind
      rw [h5] at hx
      refine .of_ok hS (x := convert t1 t2 (a.eval x)) (by simp [execOp]) ⟨_, _, h, hx, fun w' _ => ?_⟩
      simp [hx.str_, convert, run_under u1, run_under u2]
    · exact h.elim
  case slice t x lo hi mx =>
    cases mx with
    | some m => simp only [qop] at h
    | none =>
    simp only [qop] at h
    exact .of_ok hS (x := Instr.sliceAt t (a.eval x) (lo.map a.eval) (hi.map a.eval) none) (by simp [execOp]) (sliceK_sound hT hS.mem (hS.get x) (optRS_map hS lo) (optRS_map hS hi) h)
  case fieldAddr t x f =>
    simp only [qop] at h
    obtain ⟨fa, fd, hu, hf, h⟩ := fieldOff_sound hT h
    split at h
    · exact h.elim
    rename_i m hm
    have hx := hS.get x
    have hfp : ∀ (p : Addr) w', (Instr.fieldAt t (.pointer (some p)) f).run P w' = .ok (.pointer (some (p.add fd.offset))) w' := by
      intro p w'
      have hz := szOf_run hT hm w'
      simp [Instr.fieldAt, run_under hu, hf, Instr.sureAddr, fieldPlace, hz]
    split at h
    · rename_i cs hc
      rw [hc] at hx
      obtain ⟨ad, val, hv, hV, hR⟩ := hx.ep_
      exact .of_ok hS (x := Instr.fieldAt t (a.eval x) f) (by simp [execOp]) ⟨_, .pointer (some (ad.add fd.offset)), h, .imm _ _ (.ep _ _ (fun j => val (fd.offset + j)) (fun j d hd => by rw [add_add]; exact hV _ d (by simpa using hd)) (fun j d hd => hR _ d (by simpa using hd))), fun w' _ => by rw [hv, hfp]⟩
    · rename_i i off hc
      rw [hc] at hx
      obtain ⟨g, hg, hv⟩ := hx.bp_
      exact .of_ok hS (x := Instr.fieldAt t (a.eval x) f) (by simp [execOp]) ⟨_, .pointer (some ⟨g, off + fd.offset, none⟩), h, .bp _ _ g hg, fun w' _ => by rw [hv, hfp, add_lit]⟩
    · rename_i r e j off hc
      rw [hc] at hx
      obtain ⟨g, N, c, hg, hv⟩ := hx.op_
      refine .of_ok hS (x := Instr.fieldAt t (a.eval x) f) (by simp [execOp]) ⟨_, .pointer (some ⟨g, j * szOf T e + (off + fd.offset), none⟩), h, .op _ _ _ _ g N c hg, fun w' _ => ?_⟩
      rw [hv, hfp, add_lit, Nat.add_assoc]
    · exact h.elim
  case field t x f =>
    simp only [qop] at h
    obtain ⟨fa, fd, hu, hf, h⟩ := fieldOff_sound hT h
    have hx := hS.get x
    split at h
    case h_2 => exact h.elim
    rename_i cs hc
    rw [hc] at hx
    obtain ⟨vs, hv, hs, ho, hR⟩ := hx.agg_
    obtain ⟨d, u, h1, h2, h3⟩ := partK_sound (w := w) hT hs ho hR h
    exact .of_ok hS (x := Instr.field t (a.eval x) f) (by simp [execOp]) ⟨d, u, h1, h2, fun w' he => by simp [Instr.field, run_under hu, hf, hv, asAgg, h3 w' he]⟩
  case indexAddr t x i =>
    simp only [qop] at h
    exact .of_ok hS (x := Instr.indexAt t (a.eval x) (a.eval i)) (by simp [execOp]) (idxK_sound hT hS.mem (hS.get x) (hS.get i) h)
  case index t x i =>
    simp only [qop] at h
    exact .of_ok hS (x := Instr.index t (a.eval x) (a.eval i)) (by simp [execOp]) (idxVK_sound hT (hS.get x) (hS.get i) h)
  case extract x i =>
    simp only [qop] at h
    have hx := hS.get x
    split at h
    case h_2 => exact h.elim
    rename_i ds hc
    rw [hc] at hx
    split at h
    case h_2 => exact h.elim
    rename_i d hd
    rw [D.force_eq] at h
    obtain ⟨vs, hv, hs, hR⟩ := hx.tup_
    have hi : i < vs.size := by rw [hs]; exact (List.getElem?_eq_some_iff.1 hd).1
    have hvi := Array.getElem?_eq_getElem hi
    exact .of_ok hS (x := Instr.extract (a.eval x) i) (by simp [execOp]) ⟨d, vs[i], h, hR i _ d hvi hd, fun w' _ => by simp [Instr.extract, hv, hvi]⟩
  case build t ps =>
    simp only [qop] at h
    have hps : ∀ (j : Nat) i v i' d, (ps.toList.map fun x => (x.1, a.eval x.2))[j]? = some (i, v) → (ps.toList.map fun x => (x.1, s.get x.2))[j]? = some (i', d) → i = i' ∧ RS (szOf T) V μ ω v d := by
      intro j i v i' d h1 h2
      simp only [List.getElem?_map, Option.map_eq_some_iff, Prod.mk.injEq] at h1 h2
      obtain ⟨x, hx, rfl, rfl⟩ := h1
      obtain ⟨y, hy, rfl, rfl⟩ := h2
      rw [hx] at hy
      cases hy
      exact ⟨rfl, hS.get _⟩
    have hzero : ∀ ti, T t = some ti → ∃ z, (∀ w', (zeroValue t).run P w' = .ok z w') ∧ AggR (szOf T) V μ ω z.cells ti.zero := by
      intro ti hti
      obtain ⟨i, z, h1, h2, h3, h4, h5, h6, h7⟩ := (hT _ _ hti).info
      refine ⟨z, fun w' => by simp [zeroValue, typeInfo, h1, h4], ⟨by rw [← h5]; simp, h7, fun j v d hv hd => ?_⟩⟩
      rw [← h5] at hd
      simp only [List.getElem?_map, Array.getElem?_toList, hv, Option.map_some, Option.some.injEq] at hd
      subst hd
      exact .imm _ _ (RI_ofVal v)
    split at h
    · rename_i fs z hti
      obtain ⟨z', hz, hag⟩ := hzero _ hti
      obtain ⟨fa, hu, hfa⟩ := (hT _ _ hti).kind
      obtain ⟨hall, h⟩ := allK_iff h
      obtain ⟨vs, cs, hfill, hag', hk⟩ := fillD_sound _ _ _ _ _ hag (by simp) hps h
      refine .of_ok hS (x := Instr.build t (ps.map fun x => (x.1, a.eval x.2))) (by simp [execOp]) ⟨_, .agg vs, hk, .agg _ _ hag'.size hag'.one hag'.rel, fun w' _ => ?_⟩
      have hpl := run_places (P := P) hT fa w' (by rw [hfa]; exact hall)
      have hfe : (fun (i : Nat) => (fa.map fun f => (f.offset, szOf T f.type))[i]?) = fun (i : Nat) => (fs[i]?).map fun (x : Nat × TypeId) => (x.1, szOf T x.2) := by
        funext i
        rw [← hfa]
        simp [Function.comp_def]
      simp only [Instr.build, Sem.run_bind, hz, Result.andThen_ok, run_under hu, hpl]
      rw [hfe]
      simp [hfill]
    · rename_i n e z hti
      obtain ⟨z', hz, hag⟩ := hzero _ hti
      have hu := (hT _ _ hti).kind
      obtain ⟨hall, h⟩ := allK_iff h
      obtain ⟨vs, cs, hfill, hag', hk⟩ := fillD_sound _ _ _ _ _ hag (by simp) hps h
      refine .of_ok hS (x := Instr.build t (ps.map fun x => (x.1, a.eval x.2))) (by simp [execOp]) ⟨_, .agg vs, hk, .agg _ _ hag'.size hag'.one hag'.rel, fun w' _ => ?_⟩
      obtain ⟨te, hte⟩ := hall (0, e) (by simp)
      have hze : (sizeOf e).run P w' = .ok (szOf T e) w' := by rw [(hT _ _ hte).size, szOf_eq hte]
      simp [Instr.build, hz, run_under hu, hze, hfill]
    · exact h.elim
  case makeFunc fn first cap =>
    cases fn <;> first | exact h.elim | skip
    rename_i f
    simp only [qop] at h
    have hgets : ∀ (xs : Array Operand) (j : Nat) v d, (xs.map a.eval)[j]? = some v → (s.gets xs.toList)[j]? = some d → RS (szOf T) V μ ω v d := fun xs j v d h1 h2 => by
      simp only [St.gets, List.getElem?_map, Array.getElem?_map, Option.map_eq_some_iff, Array.getElem?_toList] at h1 h2
      obtain ⟨x, hx, rfl⟩ := h1
      obtain ⟨y, hy, rfl⟩ := h2
      rw [hx] at hy
      cases hy
      exact hS.get x
    rcases h with h | h
    · unfold boolP at h
      split at h
      case h_2 => exact h.elim
      rename_i hi
      simp only [Bool.and_eq_true] at hi
      simp only [forceL_eq] at h
      exact ⟨_, _, s, h, .imm _ _ (.fn f _ _ (first.map a.eval) (cap.map a.eval) (by simp [St.gets]) (by simp [St.gets])
        (fun j v d h1 h2 => immD_ri (hgets first j v d h1 h2) (imms_at hi.1 j d h2)) (fun j v d h1 h2 => immD_ri (hgets cap j v d h1 h2) (imms_at hi.2 j d h2))), hS, ⟨0, 0, none⟩, 0, SrcP.zero _, fun w' he => by
          simp [Oper.quietAt, execOp, Instr.makeFunc, Oper.quietUpon]⟩
    · simp only [forceL_eq] at h
      exact ⟨_, _, s, h, .fnh f _ _ (first.map a.eval) (cap.map a.eval) (by simp [St.gets]) (by simp [St.gets]) (hgets first) (hgets cap), hS, ⟨0, 0, none⟩, 0, SrcP.zero _, fun w' he => by
          simp [Oper.quietAt, execOp, Instr.makeFunc, Oper.quietUpon]⟩
  case call c =>
    obtain ⟨callee, args, argTypes⟩ := c
    cases callee with
    | invoke r m => exact h.elim
    | builtin b =>
      cases b <;> first | exact h.elim | skip
      simp only [qop] at h
      split at h
      case h_2 => exact h.elim
      rename_i x t ha ht
      obtain ⟨args⟩ := args
      obtain ⟨argTypes⟩ := argTypes
      dsimp only at ha ht
      subst ha ht
      exact .of_ok hS (x := Builtin.len_ #[t] type #[a.eval x]) (by simp [execOp, resolve, invoke, builtin]) (lenK_sound hT (hS.get x) h)
    | value f =>
      cases f <;> first | exact h.elim | skip
      · rename_i t
        simp only [qop] at h
        have ht := hS.get (.tmp t)
        have hgets : ∀ (j : Nat) v d, (args.toList.map a.eval)[j]? = some v → (s.gets args.toList)[j]? = some d → RS (szOf T) V μ ω v d := fun j v d h1 h2 => by
          simp only [St.gets, List.getElem?_map, Option.map_eq_some_iff] at h1 h2
          obtain ⟨x, hx, rfl⟩ := h1
          obtain ⟨y, hy, rfl⟩ := h2
          rw [hx] at hy
          cases hy
          exact hS.get x
        obtain ⟨f, first, cap, vs, us, hv, hs1, hs2, hr1, hr2, h⟩ := fnK_sound ht h
        obtain ⟨es1, h, hl1, hq1⟩ := exposU_sound hS.mem first vs.toList _ (by simpa using hs1) (fun j v d h1 h2 => hr1 j v d (by simpa using h1) h2) h
        obtain ⟨es2, h, hl2, hq2⟩ := expos_sound hS.mem argTypes.toList (s.gets args.toList) (args.toList.map a.eval) _ (by simp [St.gets]) hgets h
        obtain ⟨es3, ⟨d, hf, hg, hk⟩, hl3, hq3⟩ := exposU_sound hS.mem cap us.toList _ (by simpa using hs2) (fun j v d h1 h2 => hr2 j v d (by simpa using h1) h2) h
        refine ⟨d, toV d, s, hk, .imm _ _ (toV_ri hg), hS, ⟨0, 0, none⟩, 0, SrcP.zero _, fun w' he => ?_⟩
        have hlen1 : es1.length = vs.size := by rw [hl1, hs1]
        have hlen2 : es2.length = args.size := by rw [hl2]; simp [St.gets]
        have hlen3 : es3.length = us.size := by rw [hl3, hs2]
        have hq := hf.quiet (args := (vs ++ args.map a.eval) ++ us) hg (by simp; omega) (fun j v d h1 h2 => by
          have h1' : (vs.toList ++ args.toList.map a.eval ++ us.toList)[j]? = some v := by
            rw [← h1]; simp [← Array.getElem?_toList]
          refine cat3 (fun i v d => hq1 i v d) (fun i v d => hq2 i v d) (fun i v d => hq3 i v d) (by simp [hlen1]) (by simp [hlen2]) j v d h1' h2) w' he
        simp only [Oper.quietAt, execOp, resolve, hv, Deferred.ofValue, invoke, Sem.run_bind, Sem.run_pure, Result.andThen_ok]
        rw [hf.call]
        exact ⟨rfl, hq⟩
      rename_i f
      simp only [qop] at h
      obtain ⟨es, ⟨d, hf, hg, hk⟩, hes, hr⟩ := expos_sound hS.mem argTypes.toList (s.gets args.toList) (args.toList.map a.eval) _ (by simp [St.gets]) (fun j v d h1 h2 => by
        simp only [St.gets, List.getElem?_map, Option.map_eq_some_iff] at h1 h2
        obtain ⟨x, hx, rfl⟩ := h1
        obtain ⟨y, hy, rfl⟩ := h2
        rw [hx] at hy
        cases hy
        exact hS.get x) h
      refine ⟨d, toV d, s, hk, .imm _ _ (toV_ri hg), hS, ⟨0, 0, none⟩, 0, SrcP.zero _, fun w' he => ?_⟩
      have hq := hf.quiet (args := args.map a.eval) hg (by simpa [St.gets] using hes.symm) (fun j v d h1 h2 => hr j v d (by simpa using h1) h2) w' he
      simp only [Oper.quietAt, execOp, resolve, Act.eval, Deferred.ofValue, invoke, Sem.run_bind, Sem.run_pure, Result.andThen_ok]
      rw [show (#[] ++ args.map a.eval) ++ #[] = args.map a.eval by simp, hf.call]
      exact ⟨rfl, hq⟩
  all_goals exact h.elim
end
end Go.Vx
