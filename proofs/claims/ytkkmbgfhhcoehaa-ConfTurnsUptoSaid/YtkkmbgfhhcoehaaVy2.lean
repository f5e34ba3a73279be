/- The plain-data machine, part 15: a law that answers true for all plain data holds as the given row says it. -/
import Derived.Test.YtkkmbgfhhcoehaaVy1
namespace Go.Vx
open Go.RowKit Go.ChangeShapes Go.WideShapes
open Go.Proofs.Ytkkmbgfhhcoehaa (Rows.uptoBulk Rows.uptoBulkAll)

def shapes (T : Tab) (f : Nat) : List TypeId → Option (List (List Shp))
  | [] => some []
  | t :: ts => match shpC T f t, shapes T f ts with | some l, some r => some (l :: r) | _, _ => none
def TyAs (T : Tab) (B : Nat) : List TypeId → List (List Shp) → List D → Prop
  | [], [], [] => True
  | t :: ts, l :: ls, x :: xs => TyA T B t l x ∧ TyAs T B ts ls xs
  | _, _, _ => False

section
variable {H : Type} {enc : TypeId × Value → H} {P : Program} {T : Tab} {w : World}

theorem arg_ri (hT : TOk P T) {B : Nat} (hBm : B ≤ maxLen) {f base : Nat} {r : Reach} {t : TypeId} {v : Value} {d : DataW H} {ps : List MemPlace} {l : List Shp} (hs : shpC T f t = some l) (hB : B = maxLen ∨ Rows.uptoBulk d ≤ B)
    (hv : Value.okWide P w r base t v) (h : DataW.Trod enc P w 0 (fun _ => true) true t v d ps) : ∃ x, TyA T B t l x ∧ RI (szOf T) (heapV w) v x := by
  obtain ⟨k, hk⟩ := h
  obtain ⟨row, h1, h2⟩ := trod_ri hT B hBm f k t _ _ l hs hB hk
  obtain ⟨hz, ti, ht⟩ := shpC_len hs
  obtain ⟨s, b, kd, z⟩ := ti
  have hG := (hT t _ ht).kind
  have one : ∀ u, v = u → u.cells = #[u] → TyA T B t l = (fun x => TySs B l [x]) → ∃ x, TyA T B t l x ∧ RI (szOf T) (heapV w) v x := by
    rintro u rfl hu he
    rw [hu] at h2
    obtain ⟨h3, h4⟩ := h2
    match row, h3 with
    | [x], _ => exact ⟨x, by rw [he]; exact h1, (h4 0 v x rfl rfl).1⟩
  cases kd with
  | bool => obtain ⟨u, rfl⟩ := okWide_bool hG hv; exact one _ rfl rfl (by funext x; simp [TyA, ht])
  | int kk => obtain ⟨u, rfl⟩ := okWide_int hG hv; exact one _ rfl rfl (by funext x; simp [TyA, ht])
  | str => obtain ⟨u, rfl⟩ := okWide_string hG hv; exact one _ rfl rfl (by funext x; simp [TyA, ht])
  | slice e => obtain ⟨a, m, n, rfl⟩ := okWide_slice hG hv; exact one _ rfl rfl (by funext x; simp [TyA, ht])
  | struct fs =>
    obtain ⟨fa, hu, _⟩ := hG
    obtain ⟨cs, rfl, _⟩ := okWide_struct hu hv
    refine ⟨.agg row, by simp only [TyA, ht]; exact ⟨row, rfl, h1⟩, ?_⟩
    simp only [Value.cells] at h2
    refine RI.agg row cs (by simpa using h2.1) (fun u hu => ?_) (fun j u d a b => (h2.2 j u d (by simpa using a) b).1)
    obtain ⟨j, hj⟩ := List.getElem?_of_mem hu
    have hl : j < row.length := by rw [← h2.1]; exact (List.getElem?_eq_some_iff.1 hj).1
    exact (h2.2 j u _ hj (List.getElem?_eq_getElem hl)).2
  | array n e => cases f with | zero => simp [shpC] at hs | succ f => simp [shpC, ht] at hs
  | ptr e => cases f with | zero => simp [shpC] at hs | succ f => simp [shpC, ht] at hs
  | other => cases f with | zero => simp [shpC] at hs | succ f => simp [shpC, ht] at hs

theorem args_ri (hT : TOk P T) {B : Nat} (hBm : B ≤ maxLen) {f base : Nat} {r : Reach} : ∀ (ts : List TypeId) (ls : List (List Shp)) (vs : List Value) (ds : List (DataW H)) (ps : List MemPlace), shapes T f ts = some ls →
    (B = maxLen ∨ Rows.uptoBulkAll ds ≤ B) → (∀ (j : Nat) t v, ts[j]? = some t → vs[j]? = some v → Value.okWide P w r base t v) → DataW.TrodAll enc P w 0 (fun _ => true) true ts vs ds ps →
    ∃ xs, TyAs T B ts ls xs ∧ vs.length = xs.length ∧ ∀ (j : Nat) v x, vs[j]? = some v → xs[j]? = some x → RI (szOf T) (heapV w) v x
  | [], ls, vs, ds, ps, hs, _, _, h => by
    obtain ⟨rfl, rfl, rfl⟩ := trodAll_nil h
    cases hs
    exact ⟨[], trivial, rfl, fun j v x h => by simp at h⟩
  | t :: ts, ls, vs, ds, ps, hs, hB, hv, h => by
    obtain ⟨v, vs', d, ds', p, q, rfl, rfl, rfl, h1, h2⟩ := trodAll_cons h
    simp only [shapes] at hs
    split at hs
    case h_2 => cases hs
    rename_i l r h3 h4
    cases hs
    obtain ⟨x, hx1, hx2⟩ := arg_ri hT hBm h3 (by
      rcases hB with hB | hB
      · exact .inl hB
      · right; simp only [Rows.uptoBulkAll] at hB; omega) (hv 0 t v rfl rfl) h1
    obtain ⟨xs, hy1, hy2, hy3⟩ := args_ri hT hBm ts r vs' ds' q h4 (by
      rcases hB with hB | hB
      · exact .inl hB
      · right; simp only [Rows.uptoBulkAll] at hB; omega) (fun j t' v' a b => hv (j + 1) t' v' (by simpa using a) (by simpa using b)) h2
    refine ⟨x :: xs, ⟨hx1, hy1⟩, by simp [hy2], fun j v' x' a b => ?_⟩
    cases j with
    | zero => simp at a b; subst a b; exact hx2
    | succ j => exact hy3 j v' x' (by simpa using a) (by simpa using b)

theorem stays (hl : laidOutB P = true) {W W' : World} (hb : Below W.heap.size W W') {sp : Nat → Bool} : ∀ (ts : List TypeId) (vs : List Value) (ds : List (DataW H)) (ps : List MemPlace), (∀ t ∈ ts, P.readableRec t = true ∧ t < P.types.size) →
    (∀ p ∈ ps, p.block < W.heap.size) → (∀ p ∈ ps, sp p.block = true) → DataW.TrodAll enc P W 0 (fun _ => true) true ts vs ds ps → DataW.TrodAll enc P W' 0 sp true ts vs ds ps
  | [], vs, ds, ps, _, _, _, h => by
    obtain ⟨rfl, rfl, rfl⟩ := trodAll_nil h
    exact trodAll_mk0
  | t :: ts, vs, ds, ps, ht, h1, h2, h => by
    obtain ⟨v, vs', d, ds', p, q, rfl, rfl, rfl, h3, h4⟩ := trodAll_cons h
    refine ⟨p, q, WideElems.Trod_stays hl (ht t (by simp)).1 (ht t (by simp)).2 h3 (fun x hx => hb.same (h1 x (by simp [hx]))) (fun x hx => h2 x (by simp [hx])),
      stays hl hb ts vs' ds' q (fun t' hm => ht t' (by simp [hm])) (fun x hx => h1 x (by simp [hx])) (fun x hx => h2 x (by simp [hx])) h4, rfl⟩

theorem trod_len : ∀ {ts : List TypeId} {vs : List Value} {ds : List (DataW H)} {ps : List MemPlace}, DataW.TrodAll enc P w 0 (fun _ => true) true ts vs ds ps → ds.length = ts.length
  | [], _, _, _, h => by obtain ⟨rfl, rfl, rfl⟩ := trodAll_nil h; rfl
  | _ :: _, _, _, _, h => by
    obtain ⟨v, vs', d, ds', p, q, rfl, rfl, rfl, _, h4⟩ := trodAll_cons h
    simp [trod_len h4]
theorem law_calls (hT : TOk P T) {B : Nat} (hBm : B ≤ maxLen) {f : FuncId} {fn : Func} {s : ChangeSpec} {ls : List (List Shp)} {n : Nat} {tb : TypeId} {ts : List TypeId} (hp : fn.params.toList = ts) (hr : fn.resultTypes = #[tb]) (htb : P.underlying tb = some .bool)
    (hsv : s.vars = []) (hs : ∀ (ds : List (DataW H)), ds.length = ts.length → s.fn H ds = { results := [.lit (.bool true)], args := ds })
    (hl : laidOutB P = true) (hts : ∀ t ∈ ts, P.readableRec t = true ∧ t < P.types.size) (hsh : shapes T n ts = some ls)
    (hlaw : ∀ xs, TyAs T B ts ls xs → FSpec P T f xs (fun d _ => d = .b True))
    (W : World) (base : Nat) (args : Array Value) (ds gs : List (DataW H)) (before : List MemPlace)
    (hval : ∀ (j : Nat) t v, fn.params[j]? = some t → args[j]? = some v → Value.okWide P W .any base t v)
    (hW : DataW.Whole enc P fn.params.toList s.vars false W args.toList ds gs before) (hB : B = maxLen ∨ Rows.uptoBulkAll (ds ++ gs) ≤ B) :
    Calls P f args W fun e W' => ∃ v, e = .returned v ∧ s.post enc P fn false true false false W args v W' := by
  have hlt := hW.lt
  obtain ⟨p, q, hA, hV, rfl, hfz, hnd⟩ := id hW
  rw [hsv] at hV
  obtain ⟨rfl, rfl⟩ := trodVars_none hV
  simp only [List.append_nil] at hlt hB hfz
  rw [hp] at hA
  obtain ⟨xs, h1, h2, h3⟩ := args_ri hT hBm ts ls args.toList ds p hsh hB (fun j t v a b => hval j t v (by rw [← hp] at a; simpa using a) (by simpa using b)) hA
  have hdl : ds.length = ts.length := trod_len hA
  refine ((hlaw xs h1).run (heapV W) W args (fun _ _ h => h) (by simpa using h2) (fun j v d a b => h3 j v d (by simpa using a) b)).mono fun e W' hx => ?_
  obtain ⟨V', ω, row, v, d, rfl, hd, hRS, hres⟩ := hx
  subst hd
  obtain ⟨b, rfl, hbt⟩ := hRS.bool
  have hbt : b = true := hbt.2 trivial
  subst hbt
  refine ⟨_, rfl, ?_⟩
  have hb := hres.below
  have hargs : ∀ sp : Nat → Bool, (∀ x ∈ p, sp x.block = true) → DataW.TrodAll enc P W' 0 sp true fn.params.toList args.toList ds p := fun sp hsp => by
    rw [hp]; exact stays hl hb ts args.toList ds p hts hlt hsp hA
  have hrs : ∀ (b : Nat) (sp : Nat → Bool) (hd : Bool), DataW.TrodAll enc P W' b sp hd fn.resultTypes.toList ((Value.bool true).resultList fn.resultTypes.size) [.lit (.bool true)] [] := fun b sp hd => by
    rw [hr]
    exact trodAll_mk1 (shut_bool htb _)
  have hsf := hs ds hdl
  refine ⟨ds, [], p, [], p, [], by simpa using hW, ?_, ?_, ?_, ?_, ?_⟩
  · rw [List.append_nil, hsf]; exact hrs _ _ _
  · rw [List.append_nil, hsf]; exact hargs _ fun x hx => by simpa using hlt x hx
  · rw [hsv, List.append_nil, hsf]; exact rfl
  · exact World.keptBut_mono (fun x hx => ⟨hx, by simpa using hx⟩) (hb.frame (· ∈ p))
  · intro _
    refine ⟨?_, ?_⟩
    · exact ok_one hr rfl (okWide_bool_mk htb _)
    · refine ⟨_, [], ([] ++ p) ++ [], ⟨[] ++ p, [], trodAll_append (hargs _ (fun _ _ => rfl)) (hrs 0 _ _), ?_, rfl, ?_, fun h => by cases h⟩, fun x hx _ => by simpa using hx⟩
      · rw [hsv]; rfl
      · intro b off hx
        have hin : MemPlace.cell b off ∈ p := by simpa using hx
        rw [hb.frozen (hlt _ hin)]
        exact hfz b off hin
end
end Go.Vx
