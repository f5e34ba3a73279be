/- The plain-data machine, part 10: a function's contract out of its body. Nothing here speaks of one program. -/
import Derived.Test.YtkkmbgfhhcoehaaVx9
namespace Go.Vx
open Go.RowKit

/-! ### What a function hands back -/
/-- One datum: rows of the call's own are handed over. -/
def gath1 (ti : Option TI) (row acc : Rows) (d : D) (K : Rows → Rows → D → Prop) : Prop :=
  match d with
  | .own r m => match row[r]? with
    | some (some x) => setK row r none fun row => snocK acc (some x) fun acc' => natLit acc.length fun k => K row acc' (.own k m)
    | _ => False
  | d => norm1 ti d fun d => K row acc d
def gathL (T : Tab) (e : TypeId) : Nat → Rows → Rows → List D → (Rows → Rows → List D → Prop) → Prop
  | _, row, acc, [], K => K row acc []
  | j, row, acc, d :: r, K => gath1 (cellTI T e j) row acc d fun row acc d => gathL T e (j + 1) row acc r fun row acc r => K row acc (d :: r)
def gath (T : Tab) (t : TypeId) (row acc : Rows) (d : D) (K : Rows → Rows → D → Prop) : Prop :=
  match d with
  | .agg cs => gathL T t 0 row acc cs fun row acc cs => K row acc (.agg cs)
  | d => gath1 (T t) row acc d K
def gaths (T : Tab) : Rows → Rows → List TypeId → List D → (Rows → List D → Prop) → Prop
  | row, acc, t :: ts, d :: ds, K => gath T t row acc d fun row acc d => gaths T row acc ts ds fun acc ds => K acc (d :: ds)
  | _, acc, [], [], K => K acc []
  | _, _, _, _, _ => False
/-- Nil slices among them as empty rows of the call's own. -/
def nilOwn (T : Tab) : List TypeId → List D → Rows → (Rows → List D → Prop) → Prop
  | t :: ts, d :: ds, row, K => match d, T t with
    | .nilS, some ⟨_, _, .slice e, _⟩ => snocK row (some (e, [])) fun row' => natLit row.length fun r => nilOwn T ts ds row' fun row ds => K row (.own r 0 :: ds)
    | d, _ => d.force fun d => nilOwn T ts ds row fun row ds => K row (d :: ds)
  | _, [], row, K => K row []
  | [], _ :: _, _, _ => False
/-- The end of a call: all that is handed back is plain data; or rows are handed over. -/
def retK (T : Tab) (fn : Func) (R : D → Rows → Prop) (s : St) : Prop :=
  resK T s fn.results.toList fun ds =>
    (pubsK 8 s ds fun ds _ => exposN T fn.resultTypes.toList ds fun es => R (oneD es) []) ∨
    (gaths T s.row [] fn.resultTypes.toList ds fun acc es => R (oneD es) acc) ∨
    (nilOwn T fn.resultTypes.toList ds s.row fun row ds => gaths T row [] fn.resultTypes.toList ds fun acc es => R (oneD es) acc)
def endQ (T : Tab) (fn : Func) (R : D → Rows → Prop) : Exit → St → Prop
  | .normal, s => retK T fn R s
  | .ret, s => retK T fn R s
  | _, _ => False
section
variable {w0 w w' : World} {V0 : Fr} {V : Vw} {μ : List Nat} {ω : List Value} {box : List (List D)} {row : Rows} {s : St} {a : Act} {P : Program} {T : Tab}

/-- Rows picked out: k stands for row f k. -/
structure Pick (ω : List Value) (row0 row : Rows) (ω0 : List Value) (acc : Rows) (f : Nat → Nat) : Prop where
  len : ω0.length = acc.length
  val : ∀ k, k < acc.length → ω0[k]? = ω[f k]? ∧ acc[k]? = row0[f k]? ∧ row[f k]? = some none
  inj : ∀ k k', k < acc.length → k' < acc.length → f k = f k' → k = k'
  keep : ∀ (r : Nat) x, row[r]? = some (some x) → row0[r]? = some (some x)
theorem Pick.more {row0 row : Rows} {ω0 : List Value} {acc : Rows} {f : Nat → Nat} (h : Pick ω row0 row ω0 acc f) {r : Nat} {x : TypeId × List (List D)} {v : Value} (hr : row[r]? = some (some x)) (hv : ω[r]? = some v) :
    Pick ω row0 (row.set r none) (ω0 ++ [v]) (acc ++ [some x]) (fun k => if k = acc.length then r else f k) := by
  have hrl : r < row.length := (List.getElem?_eq_some_iff.1 hr).1
  refine ⟨by simp [h.len], fun k hk => ?_, fun k k' hk hk' he => ?_, fun q y hq => ?_⟩
  · by_cases hk2 : k = acc.length
    · subst hk2
      simp only [if_true]
      refine ⟨?_, ?_, List.getElem?_set_self hrl⟩
      · rw [← h.len, List.getElem?_append_right (Nat.le_refl _)]; simp [hv]
      · rw [List.getElem?_append_right (Nat.le_refl _)]; simp [h.keep r x hr]
    · have hk3 : k < acc.length := by simp at hk; omega
      simp only [if_neg hk2]
      obtain ⟨h1, h2, h3⟩ := h.val k hk3
      refine ⟨by rw [List.getElem?_append_left (by rw [h.len]; exact hk3)]; exact h1, by rw [List.getElem?_append_left hk3]; exact h2, ?_⟩
      by_cases hfr : f k = r
      · rw [hfr]; exact List.getElem?_set_self hrl
      · rw [List.getElem?_set_ne (Ne.symm hfr)]; exact h3
  · have hne : ∀ k, k < acc.length → f k ≠ r := fun k hk e => by
      have := (h.val k hk).2.2
      rw [e, hr] at this
      cases this
    simp at hk hk'
    by_cases h1 : k = acc.length <;> by_cases h2 : k' = acc.length
    · omega
    · rw [if_pos h1, if_neg h2] at he; exact absurd he.symm (hne k' (by omega))
    · rw [if_neg h1, if_pos h2] at he; exact absurd he (hne k (by omega))
    · rw [if_neg h1, if_neg h2] at he; exact h.inj k k' (by omega) (by omega) he
  · by_cases hqr : q = r
    · subst hqr; rw [List.getElem?_set_self hrl] at hq; cases hq
    · rw [List.getElem?_set_ne (Ne.symm hqr)] at hq; exact h.keep q y hq

theorem gath1_sound {ti : Option TI} {row0 row : Rows} {ω0 : List Value} {acc : Rows} {f : Nat → Nat} (hp : Pick ω row0 row ω0 acc f) {d : D} {v : Value} {K : Rows → Rows → D → Prop}
    (hv : RS (szOf T) V μ ω v d) (h : gath1 ti row acc d K) :
    ∃ row' acc' d' ω0' f', K row' acc' d' ∧ Pick ω row0 row' ω0' acc' f' ∧ Pre ω0 ω0' ∧ RS (szOf T) V [] ω0' v d' := by
  unfold gath1 at h
  split at h
  · rename_i r m
    split at h
    case h_2 => exact h.elim
    rename_i x hr
    obtain ⟨_, h⟩ := setK_iff _ _ _ _ h
    simp only [snocK_eq, natLit_eq] at h
    obtain ⟨A, N, c, hω, hn, rfl⟩ := hv.own_
    refine ⟨_, _, _, _, _, h, hp.more hr hω, .append _ _, .own _ m A N c ?_ hn⟩
    rw [← hp.len, List.getElem?_append_right (Nat.le_refl _)]
    simp
  · obtain ⟨d', hk, hd⟩ := norm1_sound hv h
    exact ⟨row, acc, d', ω0, f, hk, hp, .refl _, .imm _ _ hd⟩

theorem Pre.trans {α : Type} {l m n : List α} (h : Pre l m) (h' : Pre m n) : Pre l n := fun i x hx => h' i x (h i x hx)

theorem gathL_sound {e : TypeId} {row0 : Rows} : ∀ (cs : List D) (j : Nat) (row acc : Rows) (ω0 : List Value) (f : Nat → Nat) (vs : List Value) (K : Rows → Rows → List D → Prop), Pick ω row0 row ω0 acc f →
    Vals (szOf T) V μ ω vs cs → gathL T e j row acc cs K → ∃ row' acc' ds ω0' f', K row' acc' ds ∧ Pick ω row0 row' ω0' acc' f' ∧ Pre ω0 ω0' ∧ Vals (szOf T) V [] ω0' vs ds
  | [], j, row, acc, ω0, f, vs, K, hp, hv, h => ⟨row, acc, [], ω0, f, h, hp, .refl _, by simpa using hv.1, by simp⟩
  | c :: cs, j, row, acc, ω0, f, [], K, hp, hv, h => by have := hv.1; simp at this
  | c :: cs, j, row, acc, ω0, f, v :: vs, K, hp, hv, h => by
    simp only [gathL] at h
    obtain ⟨row1, acc1, d, ω1, f1, h, hp1, hpre, hd⟩ := gath1_sound hp (hv.2 0 v c rfl rfl) h
    obtain ⟨row2, acc2, ds, ω2, f2, h, hp2, hpre2, hds⟩ := gathL_sound cs (j + 1) row1 acc1 ω1 f1 vs _ hp1 ⟨by simpa using hv.1, fun j v d h1 h2 => hv.2 (j + 1) v d (by simpa using h1) (by simpa using h2)⟩ h
    refine ⟨row2, acc2, d :: ds, ω2, f2, h, hp2, hpre.trans hpre2, by simp [hds.1], fun j u x h1 h2 => ?_⟩
    cases j with
    | zero => simp only [List.getElem?_cons_zero, Option.some.injEq] at h1 h2; subst h1 h2; exact hd.mono (.refl V) (.refl _) hpre2
    | succ j => exact hds.2 j u x (by simpa using h1) (by simpa using h2)

theorem gath_sound {t : TypeId} {row0 row : Rows} {ω0 : List Value} {acc : Rows} {f : Nat → Nat} (hp : Pick ω row0 row ω0 acc f) {d : D} {v : Value} {K : Rows → Rows → D → Prop}
    (hv : RS (szOf T) V μ ω v d) (h : gath T t row acc d K) :
    ∃ row' acc' d' ω0' f', K row' acc' d' ∧ Pick ω row0 row' ω0' acc' f' ∧ Pre ω0 ω0' ∧ RS (szOf T) V [] ω0' v d' := by
  unfold gath at h
  split at h
  · obtain ⟨vs, rfl, hs, ho, hR⟩ := hv.agg_
    obtain ⟨row2, acc2, ds, ω2, f2, h, hp2, hpre2, hds⟩ := gathL_sound _ 0 row acc ω0 f vs.toList _ hp ⟨by simpa using hs, fun j v d h1 h2 => hR j v d (by simpa using h1) h2⟩ h
    exact ⟨row2, acc2, _, ω2, f2, h, hp2, hpre2, .agg _ _ (by have := hds.1; simpa using this) ho fun j v d h1 h2 => hds.2 j v d (by simpa using h1) h2⟩
  · exact gath1_sound hp hv h

theorem gaths_sound {row0 : Rows} : ∀ (ts : List TypeId) (ds : List D) (row acc : Rows) (ω0 : List Value) (f : Nat → Nat) (vs : List Value) (K : Rows → List D → Prop), Pick ω row0 row ω0 acc f →
    Vals (szOf T) V μ ω vs ds → gaths T row acc ts ds K → ∃ row' acc' es ω0' f', K acc' es ∧ Pick ω row0 row' ω0' acc' f' ∧ Pre ω0 ω0' ∧ Vals (szOf T) V [] ω0' vs es
  | [], [], row, acc, ω0, f, vs, K, hp, hv, h => ⟨row, acc, [], ω0, f, h, hp, .refl _, by simpa using hv.1, by simp⟩
  | t :: ts, [], row, acc, ω0, f, vs, K, hp, hv, h => h.elim
  | [], d :: ds, row, acc, ω0, f, vs, K, hp, hv, h => h.elim
  | t :: ts, d :: ds, row, acc, ω0, f, [], K, hp, hv, h => by have := hv.1; simp at this
  | t :: ts, c :: cs, row, acc, ω0, f, v :: vs, K, hp, hv, h => by
    simp only [gaths] at h
    obtain ⟨row1, acc1, d, ω1, f1, h, hp1, hpre, hd⟩ := gath_sound hp (hv.2 0 v c rfl rfl) h
    obtain ⟨row2, acc2, ds, ω2, f2, h, hp2, hpre2, hds⟩ := gaths_sound ts cs row1 acc1 ω1 f1 vs _ hp1 ⟨by simpa using hv.1, fun j v d h1 h2 => hv.2 (j + 1) v d (by simpa using h1) (by simpa using h2)⟩ h
    refine ⟨row2, acc2, d :: ds, ω2, f2, h, hp2, hpre.trans hpre2, by simp [hds.1], fun j u x h1 h2 => ?_⟩
    cases j with
    | zero => simp only [List.getElem?_cons_zero, Option.some.injEq] at h1 h2; subst h1 h2; exact hd.mono (.refl V) (.refl _) hpre2
    | succ j => exact hds.2 j u x (by simpa using h1) (by simpa using h2)

theorem Pick.start (ω : List Value) (row : Rows) : Pick ω row row [] [] id := ⟨rfl, by simp, by simp, fun _ _ h => h⟩

theorem Res.of_mem {V' : Vw} (h : Mem (szOf T) w V0 V' μ ω box row w') {ω0 : List Value} {acc row1 : Rows} {f : Nat → Nat} (hp : Pick ω row row1 ω0 acc f) : Res (szOf T) V0.V V' ω0 acc w w' := by
  have back : ∀ (k : Nat) v x, ω0[k]? = some v → acc[k]? = some (some x) → ω[f k]? = some v ∧ row[f k]? = some (some x) ∧ k < acc.length := by
    intro k v x h1 h2
    have hk : k < acc.length := (List.getElem?_eq_some_iff.1 h2).1
    obtain ⟨a1, a2, _⟩ := hp.val k hk
    exact ⟨by rw [← a1]; exact h1, by rw [← a2]; exact h2, hk⟩
  refine ⟨h.below, h.vle, h.vok, h.vold, hp.len, ?_, ?_, ?_⟩
  · intro r v e xs h1 h2
    obtain ⟨b1, b2, _⟩ := back r v _ h1 h2
    exact h.hrow _ v e xs b1 b2
  · intro r r' v v' x x' g h1 h2 h3 h4 h5 h6
    obtain ⟨b1, b2, b3⟩ := back r v x h1 h2
    obtain ⟨c1, c2, c3⟩ := back r' v' x' h3 h4
    have := h.uniq (.inr (f r)) (.inr (f r')) g ⟨v, x, b1, b2, h5⟩ ⟨v', x', c1, c2, h6⟩
    simp at this
    exact hp.inj r r' b3 c3 this
  · intro p u r v x h1 h2 h3 h4
    obtain ⟨b1, b2, _⟩ := back r v x h2 h3
    exact h.vmut p u (.inr (f r)) h1 ⟨v, x, b1, b2, h4⟩

theorem Mem.start (hV : VOk V w) : Mem (szOf T) w ⟨V, fun _ => undef⟩ V [] [] [] [] w :=
  ⟨Below.refl _ _, hV, VLe.refl V, fun _ _ => rfl, rfl, by simp, rfl, by simp,
    fun l l' g h1 _ => by cases l <;> simp [Own] at h1, fun l g h1 => by cases l <;> simp [Own] at h1, fun p u l _ h1 => by cases l <;> simp [Own] at h1⟩

theorem nilOwn_sound {F : Fr} : ∀ (ts : List TypeId) (ds : List D) (vs : List Value) (ω : List Value) (row : Rows) (K : Rows → List D → Prop), Mem (szOf T) w0 F V μ ω box row w → Vals (szOf T) V μ ω vs ds → nilOwn T ts ds row K →
    ∃ ω' row' ds', K row' ds' ∧ Pre ω ω' ∧ Mem (szOf T) w0 F V μ ω' box row' w ∧ Vals (szOf T) V μ ω' vs ds'
  | ts, [], vs, ω, row, K, hM, hv, h => ⟨ω, row, [], by cases ts <;> exact h, .refl _, hM, hv⟩
  | [], d :: ds, vs, ω, row, K, hM, hv, h => h.elim
  | t :: ts, d :: ds, [], ω, row, K, hM, hv, h => by have := hv.1; simp at this
  | t :: ts, d :: ds, v :: vs, ω, row, K, hM, hv, h => by
    have htl : Vals (szOf T) V μ ω vs ds := ⟨by simpa using hv.1, fun j v d h1 h2 => hv.2 (j + 1) v d (by simpa using h1) (by simpa using h2)⟩
    have hd := hv.2 0 v d rfl rfl
    simp only [nilOwn] at h
    split at h
    · simp only [snocK_eq, natLit_eq] at h
      rename_i e _ _
      have hM2 := hM.newRow (w' := w) (Ext.refl w) (v := .slice none 0 0) (e := e) (xs := []) (vals := []) ⟨by simp, .inl ⟨rfl, rfl⟩⟩ ⟨by simp, by simp, by simp⟩ (by simp [Value.ownBlock])
      obtain ⟨ω', row', ds', hk, hp, hM', hv'⟩ := nilOwn_sound ts ds vs _ _ _ hM2 ⟨htl.1, fun j v d a b => (htl.2 j v d a b).mono (.refl V) (.refl μ) (.append _ _)⟩ h
      refine ⟨ω', row', _, hk, (Pre.append _ _).trans hp, hM', by simp [hv'.1], fun j u x h1 h2 => ?_⟩
      cases j with
      | zero =>
        simp only [List.getElem?_cons_zero, Option.some.injEq] at h1 h2
        subst h1 h2
        rw [hd.nilS_]
        refine .own _ 0 none 0 0 (hp _ _ ?_) (Nat.le_refl _)
        rw [hM.rl.symm, List.getElem?_append_right (Nat.le_refl _)]
        simp
      | succ j => exact hv'.2 j u x (by simpa using h1) (by simpa using h2)
    · rw [D.force_eq] at h
      obtain ⟨ω', row', ds', hk, hp, hM', hv'⟩ := nilOwn_sound ts ds vs _ _ _ hM htl h
      refine ⟨ω', row', _, hk, hp, hM', by simp [hv'.1], fun j u x h1 h2 => ?_⟩
      cases j with
      | zero =>
        simp only [List.getElem?_cons_zero, Option.some.injEq] at h1 h2
        subst h1 h2
        exact hd.mono (.refl V) (.refl μ) hp
      | succ j => exact hv'.2 j u x (by simpa using h1) (by simpa using h2)

/-- A function's contract, out of its body. -/
theorem FSpec.of_ok (hT : TOk P T) {f : FuncId} {fn : Func} {c : Code} (hf : P.funcs[f]? = some fn) (hb : fn.body = some c) (hcall : ∀ args w, (callFunc f args).run P w = .ok (.enter f args) w) {ds : List D} {R : D → Rows → Prop} (hn : ds.length ≤ fn.ntmps)
    (h : Ok P T c (endQ T fn R) ⟨envOf 0 ds, [], [], fn.ntmps⟩) : FSpec P T f ds R := by
  refine ⟨hcall, fun V w args hV hl hR => calls_of_wp hf hb ?_⟩
  have hS : Sim (szOf T) w ⟨V, fun _ => undef⟩ V [] [] ⟨envOf 0 ds, [], [], fn.ntmps⟩ { tmps := args ++ Array.replicate (fn.ntmps - args.size) undef, defers := [] } w := by
    refine ⟨by simp; omega, rfl, fun t => ?_, Mem.start hV⟩
    show RS _ _ _ _ (slotV _ fn.ntmps _ t) (look (envOf 0 ds) t)
    rw [look_envOf, if_pos (Nat.zero_le _), Nat.sub_zero]
    unfold slotV
    split
    case isFalse hge =>
      rw [List.getD, List.getElem?_eq_none (by omega)]
      exact .imm _ _ (.u _)
    show RS _ _ _ _ ((args ++ Array.replicate (fn.ntmps - args.size) undef).getD t undef) _
    by_cases ht : t < ds.length
    · have hta : t < args.size := by omega
      have hd := List.getElem?_eq_getElem ht
      have ha := Array.getElem?_eq_getElem hta
      have := hR t _ _ ha hd
      have e1 : (args ++ Array.replicate (fn.ntmps - args.size) undef).getD t undef = args[t] := by
        simp [Array.getD, hta]
        omega
      rw [e1]
      simp only [List.getD, hd, Option.getD_some]
      exact .imm _ _ this
    · rw [List.getD, List.getElem?_eq_none (by omega)]
      exact .imm _ _ (.u _)
  refine wp_mono (h.run w ⟨V, fun _ => undef⟩ V [] [] _ w hS) ?_
  rintro e a' w' ⟨s', V', μ', ω', hq, hS'⟩
  have fin : retK T fn R s' → a'.defers = [] ∧ ∃ v, (results fn a'.tmps).run P w' = .ok v w' ∧ ∃ V' ω row v' d, Ending.returned v = .returned v' ∧ R d row ∧ RS (szOf T) V' [] ω v' d ∧ Res (szOf T) V V' ω row w w' := by
    intro hr
    obtain ⟨vs, ds', hk, hv, hrun⟩ := resK_sound hT hS' _ _ hr
    refine ⟨hS'.defers, if h : vs.toArray.size = 1 then vs.toArray[0] else .tuple vs.toArray, ?_, ?_⟩
    · rw [results_eq, Array.mapM_eq_mapM_toList]
      simp only [Sem.run_bind, Sem.run_map, hrun, Result.andThen_ok, Sem.run_pure]
    · rcases hk with hk | hk | hk
      · obtain ⟨V1, ds1, s1, hk, hv1, hS1, _⟩ := pubsK_sound 8 hS' hv hk
        obtain ⟨es, hk, hes, hri⟩ := exposN_sound _ _ _ _ hv1 hk
        refine ⟨V1, [], [], _, _, rfl, hk, oneD_rel ⟨by rw [hv1.1, hes], fun j v d h1 h2 => .imm _ _ (hri j v d h1 h2)⟩, ?_⟩
        exact Res.of_mem hS1.mem (Pick.start _ _)
      · obtain ⟨row1, acc, es, ω0, f0, hk, hp, _, hes⟩ := gaths_sound _ _ _ _ _ _ _ _ (Pick.start _ _) hv hk
        exact ⟨V', ω0, acc, _, _, rfl, hk, oneD_rel hes, Res.of_mem hS'.mem hp⟩
      · obtain ⟨ω1, row0, ds1, hk, _, hM1, hv1⟩ := nilOwn_sound _ _ _ _ _ _ hS'.mem hv hk
        obtain ⟨row1, acc, es, ω0, f0, hk, hp, _, hes⟩ := gaths_sound _ _ _ _ _ _ _ _ (Pick.start _ _) hv1 hk
        exact ⟨V', ω0, acc, _, _, rfl, hk, oneD_rel hes, Res.of_mem hM1 hp⟩
  cases e <;> simp only [endQ] at hq
  · exact fin hq
  · exact fin hq
end
end Go.Vx
