/- The walks and the plain laws that a law of spaces needs, part 4 of 7. -/
import Derived.Test.YtaiondckookpiaaGreatDoorPKC
import Derived.Test.YtaiondckookpiaaGreatDoorRows
import Derived.ProofKit
import Derived.Deep.Slices
import Derived.Test.YtaiondckookpiaaGreatDoorProg
import Derived.KernelRfl
import Derived.Shelf.GgSortFunc.Tiny
import Derived.Shelf.Strings.Builder1
import Derived.Shelf.Strings.Split
import Derived.Ground.GgsProg
set_option linter.unusedVariables false
set_option linter.unusedSimpArgs false
namespace Go.Vx
open Go.RowKit Go.ChangeShapes Go.WideShapes
open Go.Proofs.YtaiondckookpiaaGreatDoor (Rows.uptoBulk Rows.uptoBulkAll)
section
variable {H : Type} {enc : TypeId × Value → H} {P : Program} {T : Tab} {w : World} {held : Bool}
theorem trod_ri (hT : TOk P T) (B : Nat) (hBm : B ≤ maxLen) : ∀ (f k : Nat) (t : TypeId) (cs : List Value) (x : DataW H × List MemPlace) (l : List Shp), shpC T f t = some l → (B = maxLen ∨ Rows.uptoBulk x.1 ≤ B) →
    DataW.trod enc P w 0 (fun _ => true) held k t cs = some x → ∃ row, TySs B l row ∧ CellsR T w cs row
  | 0, _, _, _, _, _, h, _, _ => by simp [shpC] at h
  | f + 1, k, t, cs, x, l, hok, hB, h => by
    cases ht : T t with
    | none => simp [shpC, ht] at hok
    | some ti =>
      obtain ⟨s, b, kd, z⟩ := ti
      have hG := (hT t _ ht).kind
      cases kd with
      | bool =>
        obtain ⟨v, rfl, rfl⟩ := DataW.trod_bool hG h
        simp only [shpC, ht] at hok
        obtain ⟨hok, _⟩ := lenIs_some hok
        cases hok
        refine ⟨[.b (v = true)], ?_, .one (.b _ _ Iff.rfl) rfl⟩
        simp only [TySs, TyS, and_true]
        exact ⟨_, rfl⟩
      | int kk =>
        obtain ⟨n, rfl, rfl, hw⟩ := DataW.trod_int hG h
        simp only [shpC, ht] at hok
        obtain ⟨hok, _⟩ := lenIs_some hok
        cases hok
        refine ⟨[.i kk n], ?_, .one (.i _ _) rfl⟩
        simp [TySs, TyS, hw]
      | str =>
        obtain ⟨v, rfl, rfl, hl⟩ := DataW.trod_string hG h
        simp only [shpC, ht] at hok
        obtain ⟨hok, _⟩ := lenIs_some hok
        cases hok
        refine ⟨[.s v.data.toList], ?_, .one (by have := RI.s (sz := szOf T) (V := heapV w) v.data.toList; rwa [bstr_data] at this) rfl⟩
        simp only [TySs, TyS, and_true]
        refine ⟨_, rfl, ?_⟩
        have hl' : v.data.toList.length ≤ maxLen := by rw [Array.length_toList]; exact hl
        rcases hB with rfl | hB
        · exact hl'
        · simp only [Rows.uptoBulk] at hB; omega
      | slice e =>
        simp only [shpC, ht] at hok
        obtain ⟨hok, _⟩ := lenIs_some hok
        split at hok
        case h_2 => cases hok
        rename_i le hle
        cases hok
        obtain ⟨hse, hti⟩ := shpC_len hle
        have hce := cells_of hT hti
        rcases Go.Deep.open_slice hG h with ⟨rfl, rfl⟩ | ⟨a, len, cap, m, n, Df, Pl, rfl, _, hlc, hcm, hm, rfl, hx⟩
        · refine ⟨[.lst e [] []], ?_, .one (RI.lst e [] [] none ⟨0, 0, none⟩ 0 (fun _ _ => undef) (by simp) (by unfold maxLen; omega) (by simp) (by simp) (by simp) (by simp) (by simp)) rfl⟩
          simp only [TySs, TyS, and_true]
          exact ⟨[], [], rfl, Nat.zero_le _, fun r hr => by cases hr⟩
        · simp only [if_true] at hm
          subst hm
          have hbi : ∀ i, i < m → (B = maxLen ∨ Rows.uptoBulk (Df i) ≤ B) := by
            intro i hi
            rcases hB with hB | hB
            · exact .inl hB
            · right
              simp only [Rows.uptoBulk] at hB
              by_cases hil : i < len
              · have := bulk_mem (d := Df i) (l := (List.range len).map Df) (List.mem_map.2 ⟨i, by simpa using hil, rfl⟩)
                omega
              · have := bulk_mem (d := Df i) (l := (List.range (m - len)).map fun j => Df (len + j)) (List.mem_map.2 ⟨i - len, by simp; omega, by rw [show len + (i - len) = i by omega]⟩)
                omega
          have hmB : m ≤ B := by
            rcases hB with rfl | hB
            · exact hcm
            · simp only [Rows.uptoBulk] at hB
              have h1 := bulk_length ((List.range len).map Df)
              have h2 := bulk_length ((List.range (m - len)).map fun j => Df (len + j))
              simp at h1 h2
              omega
          have key : ∀ i, i < m → ∃ p : List Value × List D, w.cells? 0 (a.add (i * szOf T e)) (szOf T e) = some p.1 ∧ TySs B le p.2 ∧ CellsR T w p.1 p.2 := by
            intro i hi
            obtain ⟨cs', h1, h2⟩ := hx i hi
            obtain ⟨row, h3, h4⟩ := trod_ri hT B hBm f n e cs' _ le hle (hbi i hi) h2
            exact ⟨(cs', row), by rw [hce]; exact h1, h3, h4⟩
          obtain ⟨g, hg⟩ := Go.Deep.choose_lt key
          have hat : ∀ (i : Nat) row, (((List.range len).map fun i => (g i).2) ++ ((List.range (m - len)).map fun j => (g (len + j)).2))[i]? = some row → i < m ∧ row = (g i).2 := by
            intro i row hr
            by_cases hil : i < len
            · rw [List.getElem?_append_left (by simpa using hil)] at hr
              simp [hil] at hr
              exact ⟨by omega, hr.symm⟩
            · rw [List.getElem?_append_right (by simp; omega)] at hr
              simp only [List.length_map, List.length_range, List.getElem?_map, Option.map_eq_some_iff] at hr
              obtain ⟨j, hj, rfl⟩ := hr
              have hj2 := List.getElem?_eq_some_iff.1 hj
              obtain ⟨hj3, hj4⟩ := hj2
              simp at hj3 hj4
              refine ⟨by omega, by rw [← hj4, show len + (i - len) = i by omega]⟩
          have hcell : ∀ i, i < m → (g i).1.length = szOf T e ∧ ∀ j, j < szOf T e → w.cell? ((a.add (i * szOf T e)).add j) = (g i).1[j]? := by
            intro i hi
            obtain ⟨_, h2, h3⟩ := World.cells?_some (hg i hi).1
            exact ⟨h2, h3⟩
          refine ⟨[.lst e ((List.range len).map fun i => (g i).2) ((List.range (m - len)).map fun j => (g (len + j)).2)], ?_, .one ?_ rfl⟩
          · simp only [TySs, TyS, and_true]
            refine ⟨_, _, rfl, by simp; omega, fun r hr => ?_⟩
            obtain ⟨i, hi⟩ := List.getElem?_of_mem hr
            obtain ⟨h1, rfl⟩ := hat i r hi
            exact (hg i h1).2.1
          · have hres := RI.lst (sz := szOf T) (V := heapV w) e ((List.range len).map fun i => (g i).2) ((List.range (m - len)).map fun j => (g (len + j)).2) (some a) a m (fun i j => (g i).1.getD j undef)
              (by simp; omega) hcm (fun _ => rfl) (fun hno => by cases hno)
              (fun i row hr => by
                obtain ⟨h1, rfl⟩ := hat i row hr
                rw [← (hg i h1).2.2.1, (hcell i h1).1])
              (fun i row j d hr hd => by
                obtain ⟨h1, rfl⟩ := hat i row hr
                have hj : j < (g i).1.length := by rw [(hg i h1).2.2.1]; exact (List.getElem?_eq_some_iff.1 hd).1
                have h2 := (hcell i h1).2 j (by rw [← (hcell i h1).1]; exact hj)
                have hv : (g i).1[j]? = some ((g i).1.getD j undef) := by simp [List.getD, List.getElem?_eq_getElem hj]
                refine ⟨?_, ((hg i h1).2.2.2 j _ d hv hd).2⟩
                show w.cell? _ = _
                rw [← add_add, h2, hv])
              (fun i row j d hr hd => by
                obtain ⟨h1, rfl⟩ := hat i row hr
                have hj : j < (g i).1.length := by rw [(hg i h1).2.2.1]; exact (List.getElem?_eq_some_iff.1 hd).1
                have hv : (g i).1[j]? = some ((g i).1.getD j undef) := by simp [List.getD, List.getElem?_eq_getElem hj]
                exact ((hg i h1).2.2.2 j _ d hv hd).1)
            simpa using hres
      | struct fs =>
        simp only [shpC, ht] at hok
        obtain ⟨hok, hs⟩ := lenIs_some hok
        obtain ⟨fa, hu, hfa⟩ := hG
        obtain ⟨xs, n, _, rfl, hl, hxl, hx⟩ := DataW.trod_struct hu h
        have hc : P.cellsOf t = s := by
          obtain ⟨i, z', h1, h2, _⟩ := (hT t _ ht).info
          simp [Program.cellsOf, h1, h2]
        have hfl : fs.length = fa.size := by rw [← hfa]; simp
        obtain ⟨row, h1, h2⟩ := fields_ri (fun t cs x l a b c => trod_ri hT B hBm f n t cs x l a b c) hT cs fs 0 xs l hok (by
            rcases hB with hB | hB
            · exact .inl hB
            · right; simp only [Rows.uptoBulk] at hB; omega) (by rw [hxl, hfl]) (fun i p hp => by
            rw [← hfa] at hp
            simp only [List.getElem?_map, Option.map_eq_some_iff] at hp
            obtain ⟨fd, h3, rfl⟩ := hp
            exact hx i fd (by simpa using h3)) (by rw [hl, hc, hs, Nat.zero_add])
        exact ⟨row, h1, by simpa using h2⟩
      | array n e => simp [shpC, ht] at hok
      | ptr e => simp [shpC, ht] at hok
      | other => simp [shpC, ht] at hok
end
end Go.Vx
namespace Go.Vx
open Go.RowKit Go.ChangeShapes Go.WideShapes
open Go.Proofs.YtaiondckookpiaaGreatDoor (Rows.uptoBulk Rows.uptoBulkAll)
def shapes (T : Tab) (f : Nat) : List TypeId → Option (List (List Shp))
  | [] => some []
  | t :: ts => match shpC T f t, shapes T f ts with | some l, some r => some (l :: r) | _, _ => none
def TyAs (T : Tab) (B : Nat) : List TypeId → List (List Shp) → List D → Prop
  | [], [], [] => True
  | t :: ts, l :: ls, x :: xs => TyA T B t l x ∧ TyAs T B ts ls xs
  | _, _, _ => False
section
variable {H : Type} {enc : TypeId × Value → H} {P : Program} {T : Tab} {w : World}
theorem arg_ri (hT : TOk P T) {B : Nat} (hBm : B ≤ maxLen) {f base : Nat} {r : Reach} {t : TypeId} {v : Value} {d : DataW H} {ps : List MemPlace} {l : List Shp} (hs : shpC T f t = some l) (hB : B = maxLen ∨ Rows.uptoBulk d ≤ B)
    (hv : Value.okWide P w r base t v) (h : DataW.Trod enc P w 0 (fun _ => true) true t v d ps) : ∃ x, TyA T B t l x ∧ RI (szOf T) (heapV w) v x := by
  obtain ⟨k, hk⟩ := h
  obtain ⟨row, h1, h2⟩ := trod_ri hT B hBm f k t _ _ l hs hB hk
  obtain ⟨hz, ti, ht⟩ := shpC_len hs
  obtain ⟨s, b, kd, z⟩ := ti
  have hG := (hT t _ ht).kind
  have one : ∀ u, v = u → u.cells = #[u] → TyA T B t l = (fun x => TySs B l [x]) → ∃ x, TyA T B t l x ∧ RI (szOf T) (heapV w) v x := by
    rintro u rfl hu he
    rw [hu] at h2
    obtain ⟨h3, h4⟩ := h2
    match row, h3 with
    | [x], _ => exact ⟨x, by rw [he]; exact h1, (h4 0 v x rfl rfl).1⟩
  cases kd with
  | bool => obtain ⟨u, rfl⟩ := okWide_bool hG hv; exact one _ rfl rfl (by funext x; simp [TyA, ht])
  | int kk => obtain ⟨u, rfl⟩ := okWide_int hG hv; exact one _ rfl rfl (by funext x; simp [TyA, ht])
  | str => obtain ⟨u, rfl⟩ := okWide_string hG hv; exact one _ rfl rfl (by funext x; simp [TyA, ht])
  | slice e => obtain ⟨a, m, n, rfl⟩ := okWide_slice hG hv; exact one _ rfl rfl (by funext x; simp [TyA, ht])
  | struct fs =>
    obtain ⟨fa, hu, _⟩ := hG
    obtain ⟨cs, rfl, _⟩ := okWide_struct hu hv
    refine ⟨.agg row, by simp only [TyA, ht]; exact ⟨row, rfl, h1⟩, ?_⟩
    simp only [Value.cells] at h2
    refine RI.agg row cs (by simpa using h2.1) (fun u hu => ?_) (fun j u d a b => (h2.2 j u d (by simpa using a) b).1)
    obtain ⟨j, hj⟩ := List.getElem?_of_mem hu
    have hl : j < row.length := by rw [← h2.1]; exact (List.getElem?_eq_some_iff.1 hj).1
    exact (h2.2 j u _ hj (List.getElem?_eq_getElem hl)).2
  | array n e => cases f with | zero => simp [shpC] at hs | succ f => simp [shpC, ht] at hs
  | ptr e => cases f with | zero => simp [shpC] at hs | succ f => simp [shpC, ht] at hs
  | other => cases f with | zero => simp [shpC] at hs | succ f => simp [shpC, ht] at hs
theorem args_ri (hT : TOk P T) {B : Nat} (hBm : B ≤ maxLen) {f base : Nat} {r : Reach} : ∀ (ts : List TypeId) (ls : List (List Shp)) (vs : List Value) (ds : List (DataW H)) (ps : List MemPlace), shapes T f ts = some ls →
    (B = maxLen ∨ Rows.uptoBulkAll ds ≤ B) → (∀ (j : Nat) t v, ts[j]? = some t → vs[j]? = some v → Value.okWide P w r base t v) → DataW.TrodAll enc P w 0 (fun _ => true) true ts vs ds ps →
    ∃ xs, TyAs T B ts ls xs ∧ vs.length = xs.length ∧ ∀ (j : Nat) v x, vs[j]? = some v → xs[j]? = some x → RI (szOf T) (heapV w) v x
  | [], ls, vs, ds, ps, hs, _, _, h => by
    obtain ⟨rfl, rfl, rfl⟩ := trodAll_nil h
    cases hs
    exact ⟨[], trivial, rfl, fun j v x h => by simp at h⟩
  | t :: ts, ls, vs, ds, ps, hs, hB, hv, h => by
    obtain ⟨v, vs', d, ds', p, q, rfl, rfl, rfl, h1, h2⟩ := trodAll_cons h
    simp only [shapes] at hs
    split at hs
    case h_2 => cases hs
    rename_i l r h3 h4
    cases hs
    obtain ⟨x, hx1, hx2⟩ := arg_ri hT hBm h3 (by
      rcases hB with hB | hB
      · exact .inl hB
      · right; simp only [Rows.uptoBulkAll] at hB; omega) (hv 0 t v rfl rfl) h1
    obtain ⟨xs, hy1, hy2, hy3⟩ := args_ri hT hBm ts r vs' ds' q h4 (by
      rcases hB with hB | hB
      · exact .inl hB
      · right; simp only [Rows.uptoBulkAll] at hB; omega) (fun j t' v' a b => hv (j + 1) t' v' (by simpa using a) (by simpa using b)) h2
    refine ⟨x :: xs, ⟨hx1, hy1⟩, by simp [hy2], fun j v' x' a b => ?_⟩
    cases j with
    | zero => simp at a b; subst a b; exact hx2
    | succ j => exact hy3 j v' x' (by simpa using a) (by simpa using b)
theorem stays (hl : laidOutB P = true) {W W' : World} (hb : Below W.heap.size W W') {sp : Nat → Bool} : ∀ (ts : List TypeId) (vs : List Value) (ds : List (DataW H)) (ps : List MemPlace), (∀ t ∈ ts, P.readableRec t = true ∧ t < P.types.size) →
    (∀ p ∈ ps, p.block < W.heap.size) → (∀ p ∈ ps, sp p.block = true) → DataW.TrodAll enc P W 0 (fun _ => true) true ts vs ds ps → DataW.TrodAll enc P W' 0 sp true ts vs ds ps
  | [], vs, ds, ps, _, _, _, h => by
    obtain ⟨rfl, rfl, rfl⟩ := trodAll_nil h
    exact trodAll_mk0
  | t :: ts, vs, ds, ps, ht, h1, h2, h => by
    obtain ⟨v, vs', d, ds', p, q, rfl, rfl, rfl, h3, h4⟩ := trodAll_cons h
    refine ⟨p, q, WideElems.Trod_stays hl (ht t (by simp)).1 (ht t (by simp)).2 h3 (fun x hx => hb.same (h1 x (by simp [hx]))) (fun x hx => h2 x (by simp [hx])),
      stays hl hb ts vs' ds' q (fun t' hm => ht t' (by simp [hm])) (fun x hx => h1 x (by simp [hx])) (fun x hx => h2 x (by simp [hx])) h4, rfl⟩
theorem trod_len : ∀ {ts : List TypeId} {vs : List Value} {ds : List (DataW H)} {ps : List MemPlace}, DataW.TrodAll enc P w 0 (fun _ => true) true ts vs ds ps → ds.length = ts.length
  | [], _, _, _, h => by obtain ⟨rfl, rfl, rfl⟩ := trodAll_nil h; rfl
  | _ :: _, _, _, _, h => by
    obtain ⟨v, vs', d, ds', p, q, rfl, rfl, rfl, _, h4⟩ := trodAll_cons h
    simp [trod_len h4]
theorem law_calls (hT : TOk P T) {B : Nat} (hBm : B ≤ maxLen) {f : FuncId} {fn : Func} {s : ChangeSpec} {ls : List (List Shp)} {n : Nat} {tb : TypeId} {ts : List TypeId} (hp : fn.params.toList = ts) (hr : fn.resultTypes = #[tb]) (htb : P.underlying tb = some .bool)
    (hsv : s.vars = []) (hs : ∀ (ds : List (DataW H)), ds.length = ts.length → s.fn H ds = { results := [.lit (.bool true)], args := ds })
    (hl : laidOutB P = true) (hts : ∀ t ∈ ts, P.readableRec t = true ∧ t < P.types.size) (hsh : shapes T n ts = some ls)
    (hlaw : ∀ xs, TyAs T B ts ls xs → FSpec P T f xs (fun d _ => d = .b True))
    (W : World) (base : Nat) (args : Array Value) (ds gs : List (DataW H)) (before : List MemPlace)
    (hval : ∀ (j : Nat) t v, fn.params[j]? = some t → args[j]? = some v → Value.okWide P W .any base t v)
    (hW : DataW.Whole enc P fn.params.toList s.vars false W args.toList ds gs before) (hB : B = maxLen ∨ Rows.uptoBulkAll (ds ++ gs) ≤ B)
    (hgl : VLe glV (heapV W) := by intro p v hp; unfold glV glD at hp; split at hp <;> cases hp) :
    Calls P f args W fun e W' => ∃ v, e = .returned v ∧ s.post enc P fn false true false false W args v W' := by
  have hlt := hW.lt
  obtain ⟨p, q, hA, hV, rfl, hfz, hnd⟩ := id hW
  rw [hsv] at hV
  obtain ⟨rfl, rfl⟩ := trodVars_none hV
  simp only [List.append_nil] at hlt hB hfz
  rw [hp] at hA
  obtain ⟨xs, h1, h2, h3⟩ := args_ri hT hBm ts ls args.toList ds p hsh hB (fun j t v a b => hval j t v (by rw [← hp] at a; simpa using a) (by simpa using b)) hA
  have hdl : ds.length = ts.length := trod_len hA
  refine ((hlaw xs h1).run (heapV W) W args ⟨hgl, fun _ _ h => h⟩ (by simpa using h2) (fun j v d a b => h3 j v d (by simpa using a) b)).mono fun e W' hx => ?_
  obtain ⟨V', ω, row, v, d, rfl, hd, hRS, hres⟩ := hx
  subst hd
  obtain ⟨b, rfl, hbt⟩ := hRS.bool
  have hbt : b = true := hbt.2 trivial
  subst hbt
  refine ⟨_, rfl, ?_⟩
  have hb := hres.below
  have hargs : ∀ sp : Nat → Bool, (∀ x ∈ p, sp x.block = true) → DataW.TrodAll enc P W' 0 sp true fn.params.toList args.toList ds p := fun sp hsp => by
    rw [hp]; exact stays hl hb ts args.toList ds p hts hlt hsp hA
  have hrs : ∀ (b : Nat) (sp : Nat → Bool) (hd : Bool), DataW.TrodAll enc P W' b sp hd fn.resultTypes.toList ((Value.bool true).resultList fn.resultTypes.size) [.lit (.bool true)] [] := fun b sp hd => by
    rw [hr]
    exact trodAll_mk1 (shut_bool htb _)
  have hsf := hs ds hdl
  refine ⟨ds, [], p, [], p, [], by simpa using hW, ?_, ?_, ?_, ?_, ?_⟩
  · rw [List.append_nil, hsf]; exact hrs _ _ _
  · rw [List.append_nil, hsf]; exact hargs _ fun x hx => by simpa using hlt x hx
  · rw [hsv, List.append_nil, hsf]; exact rfl
  · exact World.keptBut_mono (fun x hx => ⟨hx, by simpa using hx⟩) (hb.frame (· ∈ p))
  · intro _
    refine ⟨?_, ?_⟩
    · exact ok_one hr rfl (okWide_bool_mk htb _)
    · refine ⟨_, [], ([] ++ p) ++ [], ⟨[] ++ p, [], trodAll_append (hargs _ (fun _ _ => rfl)) (hrs 0 _ _), ?_, rfl, ?_, fun h => by cases h⟩, fun x hx _ => by simpa using hx⟩
      · rw [hsv]; rfl
      · intro b off hx
        have hin : MemPlace.cell b off ∈ p := by simpa using hx
        rw [hb.frozen (hlt _ hin)]
        exact hfz b off hin
end
end Go.Vx
namespace Go.Vx
open Go.RowKit
theorem as_cons {T : Tab} {B : Nat} {t : TypeId} {ts : List TypeId} {l : List Shp} {ls : List (List Shp)} {xs : List D} (h : TyAs T B (t :: ts) (l :: ls) xs) : ∃ x r, xs = x :: r ∧ TyA T B t l x ∧ TyAs T B ts ls r := by
  cases xs with
  | nil => exact h.elim
  | cons x r => exact ⟨x, r, rfl, h.1, h.2⟩
theorem as_nil {T : Tab} {B : Nat} {xs : List D} (h : TyAs T B [] [] xs) : xs = [] := by
  cases xs with
  | nil => rfl
  | cons x r => exact h.elim
def isSt : Option TI → Bool | some ⟨_, _, .struct _, _⟩ => true | _ => false
theorem leaf {T : Tab} {B : Nat} {t : TypeId} {l : List Shp} {x : D} (h : TyA T B t l x) (ht : isSt (T t) = false) : TySs B l [x] := by
  unfold TyA at h
  split at h
  · rename_i h1; rw [h1] at ht; cases ht
  · exact h
theorem int_of {B : Nat} {k : IntKind} {x : D} (h : TySs B [.int k] [x]) : ∃ n, x = .i k n ∧ (Lit.int k n).wf = true := by
  simpa only [TySs, TyS, and_true] using h
theorem str_of {B : Nat} {x : D} (h : TySs B [.str] [x]) : ∃ l, x = .s l ∧ l.length ≤ B := by
  simpa only [TySs, TyS, and_true] using h
end Go.Vx
namespace Go.Proofs.YtaiondckookpiaaGreatDoor
open Go Go.Vx
def T : Tab := fun t => match t with
  | 3 => some ⟨1, 8, .int .i64, [.i .i64 0]⟩
  | 4 => some ⟨1, 1, .bool, [.ff]⟩
  | 5 => some ⟨1, 1, .int .u8, [.i .u8 0]⟩
  | 9 => some ⟨1, 16, .str, [.s []]⟩
  | 20 => some ⟨1, 16, .other, [.nilI]⟩
  | 22 => some ⟨1, 24, .slice 112, [.nilS]⟩
  | 24 => some ⟨2, 32, .struct [(0, 3), (1, 22)], [.i .i64 0, .nilS]⟩
  | 25 => some ⟨1, 24, .slice 120, [.nilS]⟩
  | 27 => some ⟨2, 32, .struct [(0, 3), (1, 25)], [.i .i64 0, .nilS]⟩
  | 30 => some ⟨1, 8, .int .i64, [.i .i64 0]⟩
  | 37 => some ⟨1, 24, .slice 9, [.nilS]⟩
  | 38 => some ⟨1, 8, .other, [.nilF]⟩
  | 42 => some ⟨1, 8, .int .u64, [.i .u64 0]⟩
  | 44 => some ⟨4, 32, .array 4 42, [.i .u64 0, .i .u64 0, .i .u64 0, .i .u64 0]⟩
  | 46 => some ⟨9, 72, .struct [(0, 3), (1, 44), (5, 44)], [.i .i64 0, .i .u64 0, .i .u64 0, .i .u64 0, .i .u64 0, .i .u64 0, .i .u64 0, .i .u64 0, .i .u64 0]⟩
  | 52 => some ⟨1, 8, .other, [.nilF]⟩
  | 58 => some ⟨1, 24, .slice 46, [.nilS]⟩
  | 82 => some ⟨1, 24, .slice 4, [.nilS]⟩
  | 89 => some ⟨1, 24, .slice 100, [.nilS]⟩
  | 90 => some ⟨1, 8, .ptr 94, [.nilP]⟩
  | 91 => some ⟨1, 24, .slice 24, [.nilS]⟩
  | 92 => some ⟨1, 24, .slice 27, [.nilS]⟩
  | 94 => some ⟨3, 72, .struct [(0, 91), (1, 92), (2, 37)], [.nilS, .nilS, .nilS]⟩
  | 100 => some ⟨7, 64, .struct [(0, 3), (1, 3), (2, 3), (3, 3), (4, 3), (5, 9), (6, 3)], [.i .i64 0, .i .i64 0, .i .i64 0, .i .i64 0, .i .i64 0, .s [], .i .i64 0]⟩
  | 104 => some ⟨1, 8, .other, [.nilF]⟩
  | 112 => some ⟨11, 112, .struct [(0, 46), (9, 58), (10, 9)], [.i .i64 0, .i .u64 0, .i .u64 0, .i .u64 0, .i .u64 0, .i .u64 0, .i .u64 0, .i .u64 0, .i .u64 0, .nilS, .s []]⟩
  | 120 => some ⟨2, 40, .struct [(0, 9), (1, 37)], [.s [], .nilS]⟩
  | 126 => some ⟨1, 8, .other, [.nilF]⟩
  | 129 => some ⟨1, 24, .slice 5, [.nilS]⟩
  | 136 => some ⟨1, 8, .other, [.nilF]⟩
  | 138 => some ⟨1, 24, .slice 58, [.nilS]⟩
  | 144 => some ⟨1, 8, .ptr 146, [.nilP]⟩
  | 146 => some ⟨2, 32, .struct [(0, 144), (1, 129)], [.nilP, .nilS]⟩
  | 154 => some ⟨0, 0, .struct [], []⟩
  | 157 => some ⟨1, 8, .other, [.nilF]⟩
  | 161 => some ⟨1, 8, .other, [.nilF]⟩
  | 162 => some ⟨1, 24, .slice 164, [.nilS]⟩
  | 164 => some ⟨10, 88, .struct [(0, 46), (9, 9)], [.i .i64 0, .i .u64 0, .i .u64 0, .i .u64 0, .i .u64 0, .i .u64 0, .i .u64 0, .i .u64 0, .i .u64 0, .s []]⟩
  | 167 => some ⟨1, 8, .ptr 44, [.nilP]⟩
  | _ => none
theorem good3 : Vx.Good Tryz.prog 3 ⟨1, 8, .int .i64, [.i .i64 0]⟩ :=
  ⟨⟨Tryz.t3, .int .i64 0, by kernel_rfl, rfl, rfl, rfl, rfl, rfl, by simp [Value.cells, Value.oneCell']⟩, Tryz.underlying3, fun w => Tryz.isAgg3 w, by decide⟩
theorem good4 : Vx.Good Tryz.prog 4 ⟨1, 1, .bool, [.ff]⟩ :=
  ⟨⟨Tryz.t4, .bool false, by kernel_rfl, rfl, rfl, rfl, rfl, rfl, by simp [Value.cells, Value.oneCell']⟩, Tryz.underlying4, fun w => Tryz.isAgg4 w, by decide⟩
theorem good5 : Vx.Good Tryz.prog 5 ⟨1, 1, .int .u8, [.i .u8 0]⟩ :=
  ⟨⟨Tryz.t5, .int .u8 0, by kernel_rfl, rfl, rfl, rfl, rfl, rfl, by simp [Value.cells, Value.oneCell']⟩, Tryz.underlying5, fun w => Tryz.isAgg5 w, by decide⟩
theorem good9 : Vx.Good Tryz.prog 9 ⟨1, 16, .str, [.s []]⟩ :=
  ⟨⟨Tryz.t9, .string ⟨#[]⟩, by kernel_rfl, rfl, rfl, rfl, rfl, rfl, by simp [Value.cells, Value.oneCell']⟩, Tryz.underlying9, fun w => Tryz.isAgg9 w, by decide⟩
theorem good20 : Vx.Good Tryz.prog 20 ⟨1, 16, .other, [.nilI]⟩ :=
  ⟨⟨Tryz.t20, .nilIface, by kernel_rfl, rfl, rfl, rfl, rfl, rfl, by simp [Value.cells, Value.oneCell']⟩, trivial, fun w => Tryz.isAgg20 w, by decide⟩
theorem good22 : Vx.Good Tryz.prog 22 ⟨1, 24, .slice 112, [.nilS]⟩ :=
  ⟨⟨Tryz.t22, .slice none 0 0, by kernel_rfl, rfl, rfl, rfl, rfl, rfl, by simp [Value.cells, Value.oneCell']⟩, Tryz.underlying22, fun w => Tryz.isAgg22 w, by decide⟩
theorem good24 : Vx.Good Tryz.prog 24 ⟨2, 32, .struct [(0, 3), (1, 22)], [.i .i64 0, .nilS]⟩ :=
  ⟨⟨Tryz.t24, .agg #[.int .i64 0, .slice none 0 0], by kernel_rfl, rfl, rfl, rfl, rfl, rfl, by simp [Value.cells, Value.oneCell']⟩, ⟨_, Tryz.underlying24, rfl⟩, fun w => Tryz.isAgg24 w, by decide⟩
theorem good25 : Vx.Good Tryz.prog 25 ⟨1, 24, .slice 120, [.nilS]⟩ :=
  ⟨⟨Tryz.t25, .slice none 0 0, by kernel_rfl, rfl, rfl, rfl, rfl, rfl, by simp [Value.cells, Value.oneCell']⟩, Tryz.underlying25, fun w => Tryz.isAgg25 w, by decide⟩
theorem good27 : Vx.Good Tryz.prog 27 ⟨2, 32, .struct [(0, 3), (1, 25)], [.i .i64 0, .nilS]⟩ :=
  ⟨⟨Tryz.t27, .agg #[.int .i64 0, .slice none 0 0], by kernel_rfl, rfl, rfl, rfl, rfl, rfl, by simp [Value.cells, Value.oneCell']⟩, ⟨_, Tryz.underlying27, rfl⟩, fun w => Tryz.isAgg27 w, by decide⟩
theorem good30 : Vx.Good Tryz.prog 30 ⟨1, 8, .int .i64, [.i .i64 0]⟩ :=
  ⟨⟨Tryz.t30, .int .i64 0, by kernel_rfl, rfl, rfl, rfl, rfl, rfl, by simp [Value.cells, Value.oneCell']⟩, Tryz.underlying30, fun w => Tryz.isAgg30 w, by decide⟩
theorem good37 : Vx.Good Tryz.prog 37 ⟨1, 24, .slice 9, [.nilS]⟩ :=
  ⟨⟨Tryz.t37, .slice none 0 0, by kernel_rfl, rfl, rfl, rfl, rfl, rfl, by simp [Value.cells, Value.oneCell']⟩, Tryz.underlying37, fun w => Tryz.isAgg37 w, by decide⟩
theorem good38 : Vx.Good Tryz.prog 38 ⟨1, 8, .other, [.nilF]⟩ :=
  ⟨⟨Tryz.t38, .nilFunc, by kernel_rfl, rfl, rfl, rfl, rfl, rfl, by simp [Value.cells, Value.oneCell']⟩, trivial, fun w => Tryz.isAgg38 w, by decide⟩
theorem good42 : Vx.Good Tryz.prog 42 ⟨1, 8, .int .u64, [.i .u64 0]⟩ :=
  ⟨⟨Tryz.t42, .int .u64 0, by kernel_rfl, rfl, rfl, rfl, rfl, rfl, by simp [Value.cells, Value.oneCell']⟩, Tryz.underlying42, fun w => Tryz.isAgg42 w, by decide⟩
theorem good44 : Vx.Good Tryz.prog 44 ⟨4, 32, .array 4 42, [.i .u64 0, .i .u64 0, .i .u64 0, .i .u64 0]⟩ :=
  ⟨⟨Tryz.t44, .agg #[.int .u64 0, .int .u64 0, .int .u64 0, .int .u64 0], by kernel_rfl, rfl, rfl, rfl, rfl, rfl, by simp [Value.cells, Value.oneCell']⟩, Tryz.underlying44, fun w => Tryz.isAgg44 w, by decide⟩
theorem good46 : Vx.Good Tryz.prog 46 ⟨9, 72, .struct [(0, 3), (1, 44), (5, 44)], [.i .i64 0, .i .u64 0, .i .u64 0, .i .u64 0, .i .u64 0, .i .u64 0, .i .u64 0, .i .u64 0, .i .u64 0]⟩ :=
  ⟨⟨Tryz.t46, .agg #[.int .i64 0, .int .u64 0, .int .u64 0, .int .u64 0, .int .u64 0, .int .u64 0, .int .u64 0, .int .u64 0, .int .u64 0], by kernel_rfl, rfl, rfl, rfl, rfl, rfl, by simp [Value.cells, Value.oneCell']⟩, ⟨_, Tryz.underlying46, rfl⟩, fun w => Tryz.isAgg46 w, by decide⟩
theorem good52 : Vx.Good Tryz.prog 52 ⟨1, 8, .other, [.nilF]⟩ :=
  ⟨⟨Tryz.t52, .nilFunc, by kernel_rfl, rfl, rfl, rfl, rfl, rfl, by simp [Value.cells, Value.oneCell']⟩, trivial, fun w => Tryz.isAgg52 w, by decide⟩
theorem good58 : Vx.Good Tryz.prog 58 ⟨1, 24, .slice 46, [.nilS]⟩ :=
  ⟨⟨Tryz.t58, .slice none 0 0, by kernel_rfl, rfl, rfl, rfl, rfl, rfl, by simp [Value.cells, Value.oneCell']⟩, Tryz.underlying58, fun w => Tryz.isAgg58 w, by decide⟩
theorem good82 : Vx.Good Tryz.prog 82 ⟨1, 24, .slice 4, [.nilS]⟩ :=
  ⟨⟨Tryz.t82, .slice none 0 0, by kernel_rfl, rfl, rfl, rfl, rfl, rfl, by simp [Value.cells, Value.oneCell']⟩, Tryz.underlying82, fun w => Tryz.isAgg82 w, by decide⟩
theorem good89 : Vx.Good Tryz.prog 89 ⟨1, 24, .slice 100, [.nilS]⟩ :=
  ⟨⟨Tryz.t89, .slice none 0 0, by kernel_rfl, rfl, rfl, rfl, rfl, rfl, by simp [Value.cells, Value.oneCell']⟩, Tryz.underlying89, fun w => Tryz.isAgg89 w, by decide⟩
theorem good90 : Vx.Good Tryz.prog 90 ⟨1, 8, .ptr 94, [.nilP]⟩ :=
  ⟨⟨Tryz.t90, .pointer none, by kernel_rfl, rfl, rfl, rfl, rfl, rfl, by simp [Value.cells, Value.oneCell']⟩, Tryz.underlying90, fun w => Tryz.isAgg90 w, by decide⟩
theorem good91 : Vx.Good Tryz.prog 91 ⟨1, 24, .slice 24, [.nilS]⟩ :=
  ⟨⟨Tryz.t91, .slice none 0 0, by kernel_rfl, rfl, rfl, rfl, rfl, rfl, by simp [Value.cells, Value.oneCell']⟩, Tryz.underlying91, fun w => Tryz.isAgg91 w, by decide⟩
theorem good92 : Vx.Good Tryz.prog 92 ⟨1, 24, .slice 27, [.nilS]⟩ :=
  ⟨⟨Tryz.t92, .slice none 0 0, by kernel_rfl, rfl, rfl, rfl, rfl, rfl, by simp [Value.cells, Value.oneCell']⟩, Tryz.underlying92, fun w => Tryz.isAgg92 w, by decide⟩
theorem good94 : Vx.Good Tryz.prog 94 ⟨3, 72, .struct [(0, 91), (1, 92), (2, 37)], [.nilS, .nilS, .nilS]⟩ :=
  ⟨⟨Tryz.t94, .agg #[.slice none 0 0, .slice none 0 0, .slice none 0 0], by kernel_rfl, rfl, rfl, rfl, rfl, rfl, by simp [Value.cells, Value.oneCell']⟩, ⟨_, Tryz.underlying94, rfl⟩, fun w => Tryz.isAgg94 w, by decide⟩
theorem good100 : Vx.Good Tryz.prog 100 ⟨7, 64, .struct [(0, 3), (1, 3), (2, 3), (3, 3), (4, 3), (5, 9), (6, 3)], [.i .i64 0, .i .i64 0, .i .i64 0, .i .i64 0, .i .i64 0, .s [], .i .i64 0]⟩ :=
  ⟨⟨Tryz.t100, .agg #[.int .i64 0, .int .i64 0, .int .i64 0, .int .i64 0, .int .i64 0, .string ⟨#[]⟩, .int .i64 0], by kernel_rfl, rfl, rfl, rfl, rfl, rfl, by simp [Value.cells, Value.oneCell']⟩, ⟨_, Tryz.underlying100, rfl⟩, fun w => Tryz.isAgg100 w, by decide⟩
theorem good104 : Vx.Good Tryz.prog 104 ⟨1, 8, .other, [.nilF]⟩ :=
  ⟨⟨Tryz.t104, .nilFunc, by kernel_rfl, rfl, rfl, rfl, rfl, rfl, by simp [Value.cells, Value.oneCell']⟩, trivial, fun w => Tryz.isAgg104 w, by decide⟩
theorem good112 : Vx.Good Tryz.prog 112 ⟨11, 112, .struct [(0, 46), (9, 58), (10, 9)], [.i .i64 0, .i .u64 0, .i .u64 0, .i .u64 0, .i .u64 0, .i .u64 0, .i .u64 0, .i .u64 0, .i .u64 0, .nilS, .s []]⟩ :=
  ⟨⟨Tryz.t112, .agg #[.int .i64 0, .int .u64 0, .int .u64 0, .int .u64 0, .int .u64 0, .int .u64 0, .int .u64 0, .int .u64 0, .int .u64 0, .slice none 0 0, .string ⟨#[]⟩], by kernel_rfl, rfl, rfl, rfl, rfl, rfl, by simp [Value.cells, Value.oneCell']⟩, ⟨_, Tryz.underlying112, rfl⟩, fun w => Tryz.isAgg112 w, by decide⟩
theorem good120 : Vx.Good Tryz.prog 120 ⟨2, 40, .struct [(0, 9), (1, 37)], [.s [], .nilS]⟩ :=
  ⟨⟨Tryz.t120, .agg #[.string ⟨#[]⟩, .slice none 0 0], by kernel_rfl, rfl, rfl, rfl, rfl, rfl, by simp [Value.cells, Value.oneCell']⟩, ⟨_, Tryz.underlying120, rfl⟩, fun w => Tryz.isAgg120 w, by decide⟩
theorem good126 : Vx.Good Tryz.prog 126 ⟨1, 8, .other, [.nilF]⟩ :=
  ⟨⟨Tryz.t126, .nilFunc, by kernel_rfl, rfl, rfl, rfl, rfl, rfl, by simp [Value.cells, Value.oneCell']⟩, trivial, fun w => Tryz.isAgg126 w, by decide⟩
theorem good129 : Vx.Good Tryz.prog 129 ⟨1, 24, .slice 5, [.nilS]⟩ :=
  ⟨⟨Tryz.t129, .slice none 0 0, by kernel_rfl, rfl, rfl, rfl, rfl, rfl, by simp [Value.cells, Value.oneCell']⟩, Tryz.underlying129, fun w => Tryz.isAgg129 w, by decide⟩
theorem good136 : Vx.Good Tryz.prog 136 ⟨1, 8, .other, [.nilF]⟩ :=
  ⟨⟨Tryz.t136, .nilFunc, by kernel_rfl, rfl, rfl, rfl, rfl, rfl, by simp [Value.cells, Value.oneCell']⟩, trivial, fun w => Tryz.isAgg136 w, by decide⟩
theorem good138 : Vx.Good Tryz.prog 138 ⟨1, 24, .slice 58, [.nilS]⟩ :=
  ⟨⟨Tryz.t138, .slice none 0 0, by kernel_rfl, rfl, rfl, rfl, rfl, rfl, by simp [Value.cells, Value.oneCell']⟩, Tryz.underlying138, fun w => Tryz.isAgg138 w, by decide⟩
theorem good144 : Vx.Good Tryz.prog 144 ⟨1, 8, .ptr 146, [.nilP]⟩ :=
  ⟨⟨Tryz.t144, .pointer none, by kernel_rfl, rfl, rfl, rfl, rfl, rfl, by simp [Value.cells, Value.oneCell']⟩, Tryz.underlying144, fun w => Tryz.isAgg144 w, by decide⟩
theorem good146 : Vx.Good Tryz.prog 146 ⟨2, 32, .struct [(0, 144), (1, 129)], [.nilP, .nilS]⟩ :=
  ⟨⟨Tryz.t146, .agg #[.pointer none, .slice none 0 0], by kernel_rfl, rfl, rfl, rfl, rfl, rfl, by simp [Value.cells, Value.oneCell']⟩, ⟨_, Tryz.underlying146, rfl⟩, fun w => Tryz.isAgg146 w, by decide⟩
theorem good154 : Vx.Good Tryz.prog 154 ⟨0, 0, .struct [], []⟩ :=
  ⟨⟨Tryz.t154, .agg #[], by kernel_rfl, rfl, rfl, rfl, rfl, rfl, by simp [Value.cells, Value.oneCell']⟩, ⟨_, Tryz.underlying154, rfl⟩, fun w => Tryz.isAgg154 w, by decide⟩
theorem good157 : Vx.Good Tryz.prog 157 ⟨1, 8, .other, [.nilF]⟩ :=
  ⟨⟨Tryz.t157, .nilFunc, by kernel_rfl, rfl, rfl, rfl, rfl, rfl, by simp [Value.cells, Value.oneCell']⟩, trivial, fun w => Tryz.isAgg157 w, by decide⟩
theorem good161 : Vx.Good Tryz.prog 161 ⟨1, 8, .other, [.nilF]⟩ :=
  ⟨⟨Tryz.t161, .nilFunc, by kernel_rfl, rfl, rfl, rfl, rfl, rfl, by simp [Value.cells, Value.oneCell']⟩, trivial, fun w => Tryz.isAgg161 w, by decide⟩
theorem good162 : Vx.Good Tryz.prog 162 ⟨1, 24, .slice 164, [.nilS]⟩ :=
  ⟨⟨Tryz.t162, .slice none 0 0, by kernel_rfl, rfl, rfl, rfl, rfl, rfl, by simp [Value.cells, Value.oneCell']⟩, Tryz.underlying162, fun w => Tryz.isAgg162 w, by decide⟩
theorem good164 : Vx.Good Tryz.prog 164 ⟨10, 88, .struct [(0, 46), (9, 9)], [.i .i64 0, .i .u64 0, .i .u64 0, .i .u64 0, .i .u64 0, .i .u64 0, .i .u64 0, .i .u64 0, .i .u64 0, .s []]⟩ :=
  ⟨⟨Tryz.t164, .agg #[.int .i64 0, .int .u64 0, .int .u64 0, .int .u64 0, .int .u64 0, .int .u64 0, .int .u64 0, .int .u64 0, .int .u64 0, .string ⟨#[]⟩], by kernel_rfl, rfl, rfl, rfl, rfl, rfl, by simp [Value.cells, Value.oneCell']⟩, ⟨_, Tryz.underlying164, rfl⟩, fun w => Tryz.isAgg164 w, by decide⟩
theorem good167 : Vx.Good Tryz.prog 167 ⟨1, 8, .ptr 44, [.nilP]⟩ :=
  ⟨⟨Tryz.t167, .pointer none, by kernel_rfl, rfl, rfl, rfl, rfl, rfl, by simp [Value.cells, Value.oneCell']⟩, Tryz.underlying167, fun w => Tryz.isAgg167 w, by decide⟩
set_option maxRecDepth 10000 in
theorem tok : TOk Tryz.prog T := by
  intro t ti h
  unfold T at h
  split at h
  · cases h; exact good3
  · cases h; exact good4
  · cases h; exact good5
  · cases h; exact good9
  · cases h; exact good20
  · cases h; exact good22
  · cases h; exact good24
  · cases h; exact good25
  · cases h; exact good27
  · cases h; exact good30
  · cases h; exact good37
  · cases h; exact good38
  · cases h; exact good42
  · cases h; exact good44
  · cases h; exact good46
  · cases h; exact good52
  · cases h; exact good58
  · cases h; exact good82
  · cases h; exact good89
  · cases h; exact good90
  · cases h; exact good91
  · cases h; exact good92
  · cases h; exact good94
  · cases h; exact good100
  · cases h; exact good104
  · cases h; exact good112
  · cases h; exact good120
  · cases h; exact good126
  · cases h; exact good129
  · cases h; exact good136
  · cases h; exact good138
  · cases h; exact good144
  · cases h; exact good146
  · cases h; exact good154
  · cases h; exact good157
  · cases h; exact good161
  · cases h; exact good162
  · cases h; exact good164
  · cases h; exact good167
  · cases h
theorem follows : Tryz.prog.follows .mixedOrders = true := by kernel_rfl
end Go.Proofs.YtaiondckookpiaaGreatDoor
namespace Go.Proofs
open Go.Shelf
def Tryz.vxSort_ren : Go.Shelf.Ren := ⟨fun | 6 => 115 | 10 => 134 | 11 => 135 | 12 => 136 | 13 => 137 | 14 => 138 | 24 => 154 | 25 => 155 | 26 => 156 | 27 => 157 | 28 => 158 | 29 => 159 | 30 => 160 | 31 => 161 | 32 => 162 | 33 => 163 | 34 => 168 | 35 => 169 | 36 => 170 | 37 => 171 | 38 => 172 | 39 => 178 | n => n, fun | 20 => 20 | 26 => 104 | 35 => 175 | 0 => 0 | 37 => 177 | 3 => 3 | 41 => 180 | 44 => 183 | 49 => 192 | 51 => 42 | 4 => 4 | 54 => 196 | 53 => 195 | 58 => 200 | 5 => 5 | 9 => 9 | 60 => 205 | 64 => 209 | 66 => 211 | 67 => 212 | 17 => 17 | 32 => 172 | 33 => 173 | 82 => 231 | 12 => 12 | 75 => 225 | 76 => 226 | 77 => 227 | 78 => 171 | 79 => 228 | 80 => 229 | n => n, fun | n => n⟩
theorem Tryz.vxSort : Go.Proofs.LaysGg.n6 Tryz.prog Tryz.vxSort_ren := {
  mixed := by kernel_rfl
  f6 := Tryz.func115.trans (congrArg some (by kernel_rfl))
  f10 := Tryz.func134.trans (congrArg some (by kernel_rfl))
  f11 := Tryz.func135.trans (congrArg some (by kernel_rfl))
  f12 := Tryz.func136.trans (congrArg some (by kernel_rfl))
  f13 := Tryz.func137.trans (congrArg some (by kernel_rfl))
  f14 := Tryz.func138.trans (congrArg some (by kernel_rfl))
  f24 := Tryz.func154.trans (congrArg some (by kernel_rfl))
  f25 := Tryz.func155.trans (congrArg some (by kernel_rfl))
  f26 := Tryz.func156.trans (congrArg some (by kernel_rfl))
  f27 := Tryz.func157.trans (congrArg some (by kernel_rfl))
  f28 := Tryz.func158.trans (congrArg some (by kernel_rfl))
  f29 := Tryz.func159.trans (congrArg some (by kernel_rfl))
  f30 := Tryz.func160.trans (congrArg some (by kernel_rfl))
  f31 := Tryz.func161.trans (congrArg some (by kernel_rfl))
  f32 := Tryz.func162.trans (congrArg some (by kernel_rfl))
  f33 := Tryz.func163.trans (congrArg some (by kernel_rfl))
  f34 := Tryz.func168.trans (congrArg some (by kernel_rfl))
  f35 := Tryz.func169.trans (congrArg some (by kernel_rfl))
  f36 := Tryz.func170.trans (congrArg some (by kernel_rfl))
  f37 := Tryz.func171.trans (congrArg some (by kernel_rfl))
  f38 := Tryz.func172.trans (congrArg some (by kernel_rfl))
  f39 := Tryz.func178.trans (congrArg some (by kernel_rfl))
  t0 := Tryz.underlying0
  a0 := Tryz.isAgg0
  z0 := Tryz.sizeOf0
  v0 := Tryz.zeroValue0
  i0 := by kernel_rfl
  t3 := Tryz.underlying3
  a3 := Tryz.isAgg3
  z3 := Tryz.sizeOf3
  v3 := Tryz.zeroValue3
  i3 := by kernel_rfl
  t4 := Tryz.underlying4
  a4 := Tryz.isAgg4
  z4 := Tryz.sizeOf4
  v4 := Tryz.zeroValue4
  i4 := by kernel_rfl
  t5 := Tryz.underlying5
  a5 := Tryz.isAgg5
  z5 := Tryz.sizeOf5
  v5 := Tryz.zeroValue5
  i5 := by kernel_rfl
  t9 := Tryz.underlying9
  a9 := Tryz.isAgg9
  z9 := Tryz.sizeOf9
  v9 := Tryz.zeroValue9
  i9 := by kernel_rfl
  t12 := Tryz.underlying12
  a12 := Tryz.isAgg12
  z12 := Tryz.sizeOf12
  v12 := Tryz.zeroValue12
  i12 := by kernel_rfl
  t17 := Tryz.underlying17
  a17 := Tryz.isAgg17
  z17 := Tryz.sizeOf17
  v17 := Tryz.zeroValue17
  i17 := by kernel_rfl
  t20 := Tryz.underlying20
  a20 := Tryz.isAgg20
  z20 := Tryz.sizeOf20
  v20 := Tryz.zeroValue20
  i20 := by kernel_rfl
  t26 := Tryz.underlying104
  a26 := Tryz.isAgg104
  z26 := Tryz.sizeOf104
  v26 := Tryz.zeroValue104
  i26 := by kernel_rfl
  t32 := Tryz.underlying172
  a32 := Tryz.isAgg172
  z32 := Tryz.sizeOf172
  v32 := Tryz.zeroValue172
  i32 := by kernel_rfl
  t33 := Tryz.underlying173
  a33 := Tryz.isAgg173
  z33 := Tryz.sizeOf173
  v33 := Tryz.zeroValue173
  i33 := by kernel_rfl
  t35 := Tryz.underlying175
  a35 := Tryz.isAgg175
  z35 := Tryz.sizeOf175
  v35 := Tryz.zeroValue175
  i35 := by kernel_rfl
  t37 := Tryz.underlying177
  a37 := Tryz.isAgg177
  z37 := Tryz.sizeOf177
  v37 := Tryz.zeroValue177
  i37 := by kernel_rfl
  t41 := Tryz.underlying180
  a41 := Tryz.isAgg180
  z41 := Tryz.sizeOf180
  v41 := Tryz.zeroValue180
  i41 := by kernel_rfl
  t44 := Tryz.underlying183
  a44 := Tryz.isAgg183
  z44 := Tryz.sizeOf183
  v44 := Tryz.zeroValue183
  i44 := by kernel_rfl
  t49 := Tryz.underlying192
  a49 := Tryz.isAgg192
  z49 := Tryz.sizeOf192
  v49 := Tryz.zeroValue192
  i49 := by kernel_rfl
  t51 := Tryz.underlying42
  a51 := Tryz.isAgg42
  z51 := Tryz.sizeOf42
  v51 := Tryz.zeroValue42
  i51 := by kernel_rfl
  t53 := Tryz.underlying195
  a53 := Tryz.isAgg195
  z53 := Tryz.sizeOf195
  v53 := Tryz.zeroValue195
  i53 := by kernel_rfl
  t54 := Tryz.underlying196
  a54 := Tryz.isAgg196
  z54 := Tryz.sizeOf196
  v54 := Tryz.zeroValue196
  i54 := by kernel_rfl
  t58 := Tryz.underlying200
  a58 := Tryz.isAgg200
  z58 := Tryz.sizeOf200
  v58 := Tryz.zeroValue200
  i58 := by kernel_rfl
  t60 := Tryz.underlying205
  a60 := Tryz.isAgg205
  z60 := Tryz.sizeOf205
  v60 := Tryz.zeroValue205
  i60 := by kernel_rfl
  t64 := Tryz.underlying209
  a64 := Tryz.isAgg209
  z64 := Tryz.sizeOf209
  v64 := Tryz.zeroValue209
  i64 := by kernel_rfl
  t66 := Tryz.underlying211
  a66 := Tryz.isAgg211
  z66 := Tryz.sizeOf211
  v66 := Tryz.zeroValue211
  i66 := by kernel_rfl
  t67 := Tryz.underlying212
  a67 := Tryz.isAgg212
  z67 := Tryz.sizeOf212
  v67 := Tryz.zeroValue212
  i67 := by kernel_rfl
  t75 := Tryz.underlying225
  a75 := Tryz.isAgg225
  z75 := Tryz.sizeOf225
  v75 := Tryz.zeroValue225
  i75 := by kernel_rfl
  t76 := Tryz.underlying226
  a76 := Tryz.isAgg226
  z76 := Tryz.sizeOf226
  v76 := Tryz.zeroValue226
  i76 := by kernel_rfl
  t77 := Tryz.underlying227
  a77 := Tryz.isAgg227
  z77 := Tryz.sizeOf227
  v77 := Tryz.zeroValue227
  i77 := by kernel_rfl
  t78 := Tryz.underlying171
  a78 := Tryz.isAgg171
  z78 := Tryz.sizeOf171
  v78 := Tryz.zeroValue171
  i78 := by kernel_rfl
  t79 := Tryz.underlying228
  a79 := Tryz.isAgg228
  z79 := Tryz.sizeOf228
  v79 := Tryz.zeroValue228
  i79 := by kernel_rfl
  t80 := Tryz.underlying229
  a80 := Tryz.isAgg229
  z80 := Tryz.sizeOf229
  v80 := Tryz.zeroValue229
  i80 := by kernel_rfl
  t82 := Tryz.underlying231
  a82 := Tryz.isAgg231
  z82 := Tryz.sizeOf231
  v82 := Tryz.zeroValue231
  i82 := by kernel_rfl }
def Tryz.vxStr_ren : Go.Shelf.Ren := ⟨fun | 169 => 111 | n => n, fun | 70 => 144 | 9 => 9 | 0 => 0 | 72 => 146 | 37 => 129 | 127 => 171 | 3 => 3 | 5 => 5 | n => n, fun | n => n⟩
theorem Tryz.vxStr : Go.Proofs.Lays.n169 Tryz.prog Tryz.vxStr_ren := {
  mixed := by kernel_rfl
  f169 := Tryz.func111.trans (congrArg some (by kernel_rfl))
  t0 := Tryz.underlying0
  a0 := Tryz.isAgg0
  z0 := Tryz.sizeOf0
  v0 := Tryz.zeroValue0
  t3 := Tryz.underlying3
  a3 := Tryz.isAgg3
  z3 := Tryz.sizeOf3
  v3 := Tryz.zeroValue3
  t9 := Tryz.underlying9
  a9 := Tryz.isAgg9
  z9 := Tryz.sizeOf9
  v9 := Tryz.zeroValue9
  t37 := Tryz.underlying129
  a37 := Tryz.isAgg129
  z37 := Tryz.sizeOf129
  v37 := Tryz.zeroValue129
  t70 := Tryz.underlying144
  a70 := Tryz.isAgg144
  z70 := Tryz.sizeOf144
  v70 := Tryz.zeroValue144
  t72 := Tryz.underlying146
  a72 := Tryz.isAgg146
  z72 := Tryz.sizeOf146
  v72 := Tryz.zeroValue146
  t127 := Tryz.underlying171
  a127 := Tryz.isAgg171
  z127 := Tryz.sizeOf171
  v127 := Tryz.zeroValue171 }
def Tryz.vxSplit_ren : Go.Shelf.Ren := ⟨fun | 146 => 100 | 221 => 130 | 268 => 140 | 138 => 141 | 143 => 142 | 195 => 164 | 197 => 165 | 218 => 166 | 219 => 167 | 260 => 173 | 217 => 174 | 225 => 175 | 224 => 176 | 267 => 177 | 266 => 179 | 314 => 180 | n => n, fun | 9 => 9 | 31 => 37 | 3 => 3 | 4 => 4 | 0 => 0 | 105 => 202 | 21 => 21 | 5 => 5 | 46 => 180 | 119 => 214 | 139 => 217 | 138 => 216 | 146 => 218 | 51 => 192 | n => n, fun | 1 => 0 | 3 => 1 | 4 => 2 | n => n⟩
theorem Tryz.vxSplit : Go.Proofs.Lays.n146 Tryz.prog Tryz.vxSplit_ren := {
  mixed := by kernel_rfl
  f138 := Tryz.func141.trans (congrArg some (by kernel_rfl))
  f143 := Tryz.func142.trans (congrArg some (by kernel_rfl))
  f146 := Tryz.func100.trans (congrArg some (by kernel_rfl))
  f195 := Tryz.func164.trans (congrArg some (by kernel_rfl))
  f197 := Tryz.func165.trans (congrArg some (by kernel_rfl))
  f217 := Tryz.func174.trans (congrArg some (by kernel_rfl))
  f218 := Tryz.func166.trans (congrArg some (by kernel_rfl))
  f219 := Tryz.func167.trans (congrArg some (by kernel_rfl))
  f221 := Tryz.func130.trans (congrArg some (by kernel_rfl))
  f224 := Tryz.func176.trans (congrArg some (by kernel_rfl))
  f225 := Tryz.func175.trans (congrArg some (by kernel_rfl))
  f260 := Tryz.func173.trans (congrArg some (by kernel_rfl))
  f266 := Tryz.func179.trans (congrArg some (by kernel_rfl))
  f267 := Tryz.func177.trans (congrArg some (by kernel_rfl))
  f268 := Tryz.func140.trans (congrArg some (by kernel_rfl))
  f314 := Tryz.func180.trans (congrArg some (by kernel_rfl))
  t0 := Tryz.underlying0
  a0 := Tryz.isAgg0
  z0 := Tryz.sizeOf0
  v0 := Tryz.zeroValue0
  t3 := Tryz.underlying3
  a3 := Tryz.isAgg3
  z3 := Tryz.sizeOf3
  v3 := Tryz.zeroValue3
  t4 := Tryz.underlying4
  a4 := Tryz.isAgg4
  z4 := Tryz.sizeOf4
  v4 := Tryz.zeroValue4
  t5 := Tryz.underlying5
  a5 := Tryz.isAgg5
  z5 := Tryz.sizeOf5
  v5 := Tryz.zeroValue5
  t9 := Tryz.underlying9
  a9 := Tryz.isAgg9
  z9 := Tryz.sizeOf9
  v9 := Tryz.zeroValue9
  t21 := Tryz.underlying21
  a21 := Tryz.isAgg21
  z21 := Tryz.sizeOf21
  v21 := Tryz.zeroValue21
  t31 := Tryz.underlying37
  a31 := Tryz.isAgg37
  z31 := Tryz.sizeOf37
  v31 := Tryz.zeroValue37
  t46 := Tryz.underlying180
  a46 := Tryz.isAgg180
  z46 := Tryz.sizeOf180
  v46 := Tryz.zeroValue180
  t51 := Tryz.underlying192
  a51 := Tryz.isAgg192
  z51 := Tryz.sizeOf192
  v51 := Tryz.zeroValue192
  t105 := Tryz.underlying202
  a105 := Tryz.isAgg202
  z105 := Tryz.sizeOf202
  v105 := Tryz.zeroValue202
  t119 := Tryz.underlying214
  a119 := Tryz.isAgg214
  z119 := Tryz.sizeOf214
  t138 := Tryz.underlying216
  a138 := Tryz.isAgg216
  z138 := Tryz.sizeOf216
  v138 := Tryz.zeroValue216
  t139 := Tryz.underlying217
  a139 := Tryz.isAgg217
  z139 := Tryz.sizeOf217
  v139 := Tryz.zeroValue217
  t146 := Tryz.underlying218
  a146 := Tryz.isAgg218
  z146 := Tryz.sizeOf218
  v146 := Tryz.zeroValue218
  g1 := by kernel_rfl
  g3 := by kernel_rfl
  g4 := by kernel_rfl }
end Go.Proofs
namespace Go.Proofs.YtaiondckookpiaaGreatDoor
open Go
abbrev Str := List UInt8
def meet1 (a b : UInt8) : Option UInt8 := if a = 120 then some b else if b = 120 ∨ b = a then some a else none
def meetL : Str → Str → Option Str
  | [], [] => some []
  | a :: c, b :: d => match meet1 a b, meetL c d with
    | some x, some r => some (x :: r)
    | _, _ => none
  | _, _ => none
def meetT (c d : Str) : Option Str := if c = [] then none else meetL c d
def inL : Str → Str → Prop
  | [], [] => True
  | a :: c, b :: d => (b = 120 ∨ b = a) ∧ inL c d
  | _, _ => False
def inT (c d : Str) : Prop := c ≠ [] ∧ inL c d
theorem inL_refl : ∀ c : Str, inL c c
  | [] => trivial
  | _ :: c => ⟨.inr rfl, inL_refl c⟩
theorem inL_trans : ∀ {c d e : Str}, inL c d → inL d e → inL c e
  | [], [], [], _, _ => trivial
  | [], [], _ :: _, _, h => h.elim
  | [], _ :: _, _, h, _ => h.elim
  | _ :: _, [], _, h, _ => h.elim
  | _ :: _, _ :: _, [], _, h => h.elim
  | a :: c, b :: d, x :: e, h, k => ⟨by
      rcases k.1 with k1 | k1
      · exact .inl k1
      · rcases h.1 with h1 | h1
        · exact .inl (by rw [k1, h1])
        · exact .inr (by rw [k1, h1]), inL_trans h.2 k.2⟩
theorem inL_antisymm : ∀ {c d : Str}, inL c d → inL d c → c = d
  | [], [], _, _ => rfl
  | [], _ :: _, h, _ => h.elim
  | _ :: _, [], h, _ => h.elim
  | a :: c, b :: d, h, k => by
    rw [inL_antisymm h.2 k.2]
    rcases h.1 with h1 | h1
    · rcases k.1 with k1 | k1
      · rw [h1, k1]
      · rw [k1]
    · rw [h1]
theorem inL_len : ∀ {c d : Str}, inL c d → c.length = d.length
  | [], [], _ => rfl
  | [], _ :: _, h => h.elim
  | _ :: _, [], h => h.elim
  | _ :: _, _ :: _, h => by simp [inL_len h.2]
theorem meetL_len : ∀ {c d m : Str}, meetL c d = some m → c.length = m.length ∧ d.length = m.length
  | [], [], m, h => by cases h; exact ⟨rfl, rfl⟩
  | [], _ :: _, _, h => by cases h
  | _ :: _, [], _, h => by cases h
  | a :: c, b :: d, m, h => by
    unfold meetL at h
    cases h1 : meet1 a b with
    | none => rw [h1] at h; cases h
    | some x => cases h2 : meetL c d with
      | none => rw [h1, h2] at h; cases h
      | some r =>
        rw [h1, h2] at h
        cases h
        have := meetL_len h2
        simp [this.1, this.2]
theorem meetL_in : ∀ {c d m : Str}, meetL c d = some m → inL m c ∧ inL m d
  | [], [], m, h => by cases h; exact ⟨trivial, trivial⟩
  | [], _ :: _, _, h => by cases h
  | _ :: _, [], _, h => by cases h
  | a :: c, b :: d, m, h => by
    unfold meetL at h
    cases h1 : meet1 a b with
    | none => rw [h1] at h; cases h
    | some x => cases h2 : meetL c d with
      | none => rw [h1, h2] at h; cases h
      | some r =>
        rw [h1, h2] at h
        cases h
        have ih := meetL_in h2
        unfold meet1 at h1
        split at h1
        · rename_i ha; cases h1; exact ⟨⟨.inl ha, ih.1⟩, ⟨.inr rfl, ih.2⟩⟩
        · split at h1
          · rename_i hb
            cases h1
            exact ⟨⟨.inr rfl, ih.1⟩, ⟨hb, ih.2⟩⟩
          · cases h1
theorem meetL_glb : ∀ {e c d : Str}, inL e c → inL e d → ∃ m, meetL c d = some m ∧ inL e m
  | [], [], [], _, _ => ⟨[], rfl, trivial⟩
  | [], _ :: _, _, h, _ => h.elim
  | [], [], _ :: _, _, h => h.elim
  | _ :: _, [], _, h, _ => h.elim
  | _ :: _, _ :: _, [], _, h => h.elim
  | x :: e, a :: c, b :: d, h, k => by
    obtain ⟨m, hm, hi⟩ := meetL_glb h.2 k.2
    unfold meetL
    rw [hm]
    by_cases ha : a = 120
    · exact ⟨b :: m, by simp [meet1, ha], k.1, hi⟩
    · have hax : a = x := h.1.resolve_left ha
      have hb : b = 120 ∨ b = a := by rw [hax]; exact k.1
      exact ⟨a :: m, by simp [meet1, ha, hb], .inr hax, hi⟩
theorem meetL_self {c d : Str} : meetL c d = some c ↔ inL c d := by
  constructor
  · intro h; exact (meetL_in h).2
  · intro h
    obtain ⟨m, hm, hi⟩ := meetL_glb (inL_refl c) h
    rw [hm, inL_antisymm hi (meetL_in hm).1]
theorem inT_trans {c d e : Str} (h : inT c d) (k : inT d e) : inT c e := ⟨h.1, inL_trans h.2 k.2⟩
open Classical in
noncomputable def addG {α : Type} (R : α → α → Prop) (k : List α) (x : α) : List α := if ∃ y ∈ k, R x y then k else k.filter (fun y => decide (¬ R y x)) ++ [x]
noncomputable def grG {α : Type} (R : α → α → Prop) (l : List α) : List α := l.foldl (addG R) []
structure Anti {α : Type} (R : α → α → Prop) (l k : List α) : Prop where
  sub : ∀ x ∈ k, x ∈ l
  anti : k.Pairwise fun x y => ¬ R x y ∧ ¬ R y x
  cov : ∀ x ∈ l, ∃ y ∈ k, R x y
open Classical in
theorem grG_anti {α : Type} {R : α → α → Prop} (ht : ∀ x y z, R x y → R y z → R x z) (l : List α) (hr : ∀ x ∈ l, R x x) : Anti R l (grG R l) := by
  have go : ∀ (l k l0 : List α), (∀ x ∈ l, R x x) → Anti R l0 k → Anti R (l0 ++ l) (l.foldl (addG R) k) := by
    intro l
    induction l with
    | nil => intro k l0 _ h; simpa using h
    | cons x l ih =>
      intro k l0 hr h
      have hx : Anti R (l0 ++ [x]) (addG R k x) := by
        unfold addG
        split
        · rename_i hh
          exact ⟨fun y hy => by simp [h.sub y hy], h.anti, fun y hy => by
            rcases List.mem_append.1 hy with hy | hy
            · exact h.cov y hy
            · simp at hy; subst hy; exact hh⟩
        · rename_i hh
          refine ⟨fun y hy => ?_, ?_, fun y hy => ?_⟩
          · rcases List.mem_append.1 hy with hy | hy
            · simp [h.sub y (List.mem_filter.1 hy).1]
            · simp at hy; simp [hy]
          · rw [List.pairwise_append]
            refine ⟨h.anti.filter _, by simp, fun a ha b hb => ?_⟩
            simp at hb
            subst hb
            obtain ⟨h1, h2⟩ := List.mem_filter.1 ha
            exact ⟨by simpa using h2, fun h3 => hh ⟨a, h1, h3⟩⟩
          · rcases List.mem_append.1 hy with hy | hy
            · obtain ⟨z, hz, hyz⟩ := h.cov y hy
              by_cases hzx : R z x
              · exact ⟨x, by simp, ht _ _ _ hyz hzx⟩
              · exact ⟨z, by simp [hz, hzx], hyz⟩
            · simp at hy; subst hy; exact ⟨y, by simp, hr y (by simp)⟩
      have := ih (addG R k x) (l0 ++ [x]) (fun y hy => hr y (by simp [hy])) hx
      simpa [List.append_assoc] using this
  show Anti R l (l.foldl (addG R) [])
  simpa using go l [] [] hr ⟨by simp, by simp, by simp⟩
theorem Anti.mem_iff {α : Type} {R : α → α → Prop} (ht : ∀ x y z, R x y → R y z → R x z) (ha : ∀ x y, R x y → R y x → x = y) {l k k' : List α} (h : Anti R l k) (h' : Anti R l k') (x : α) : x ∈ k → x ∈ k' := by
  intro hx
  obtain ⟨y, hy, hxy⟩ := h'.cov x (h.sub x hx)
  obtain ⟨z, hz, hyz⟩ := h.cov y (h'.sub y hy)
  have hxz : x = z := by
    apply Classical.byContradiction
    intro hne
    have hR := ht _ _ _ hxy hyz
    obtain ⟨i, hi, rfl⟩ := List.getElem_of_mem hx
    obtain ⟨j, hj, rfl⟩ := List.getElem_of_mem hz
    have hij : i ≠ j := fun e => hne (by subst e; rfl)
    rcases Nat.lt_or_gt_of_ne hij with hlt | hgt
    · exact (List.pairwise_iff_getElem.1 h.anti i j hi hj hlt).1 hR
    · exact (List.pairwise_iff_getElem.1 h.anti j i hj hi hgt).2 hR
  subst hxz
  rw [ha _ _ hxy hyz]
  exact hy
theorem Anti.nodup {α : Type} {R : α → α → Prop} (hr : ∀ x, R x x) {l k : List α} (h : Anti R l k) : k.Nodup :=
  h.anti.imp fun {a b} hab e => hab.1 (by rw [e]; exact hr b)
theorem Anti.perm {α : Type} {R : α → α → Prop} (hr : ∀ x, R x x) (ht : ∀ x y z, R x y → R y z → R x z) (ha : ∀ x y, R x y → R y x → x = y) {l k k' : List α} (h : Anti R l k) (h' : Anti R l k') : k.Perm k' :=
  (List.perm_ext_iff_of_nodup (h.nodup hr) (h'.nodup hr)).2 fun x => ⟨h.mem_iff ht ha h' x, h'.mem_iff ht ha h x⟩
theorem sorted_uniq {α : Type} {L : α → α → Prop} (hirr : ∀ x, ¬ L x x) (htr : ∀ x y z, L x y → L y z → L x z) {k k' : List α} (hp : k.Perm k') (h : k.Pairwise L) (h' : k'.Pairwise L) : k = k' :=
  hp.eq_of_pairwise (le := L) (fun _ _ _ _ hab hba => absurd (htr _ _ _ hab hba) (hirr _)) h h'
open Classical in
noncomputable def insG {α : Type} (L : α → α → Prop) (c : α) : List α → List α
  | [] => [c]
  | x :: r => if L c x then c :: x :: r else x :: insG L c r
open Classical in
noncomputable def putG {α : Type} (R L : α → α → Prop) (k : List α) (c : α) : List α := if ∃ y ∈ k, R c y then k else insG L c (k.filter fun x => decide (¬ R x c))
theorem insG_perm {α : Type} (L : α → α → Prop) (c : α) : ∀ l : List α, (insG L c l).Perm (c :: l)
  | [] => .refl _
  | x :: r => by
    unfold insG
    split
    · exact .refl _
    · exact ((insG_perm L c r).cons x).trans (.swap c x r)
theorem insG_sorted {α : Type} {L : α → α → Prop} (ht : ∀ x y z, L x y → L y z → L x z) (c : α) : ∀ l : List α, (∀ x ∈ l, L c x ∨ L x c) → l.Pairwise L → (insG L c l).Pairwise L
  | [], _, _ => by simp [insG]
  | x :: r, hc, h => by
    unfold insG
    have h2 := List.pairwise_cons.1 h
    split
    · rename_i hcx
      exact List.pairwise_cons.2 ⟨fun y hy => by
        rcases List.mem_cons.1 hy with rfl | hy
        · exact hcx
        · exact ht _ _ _ hcx (h2.1 y hy), h⟩
    · rename_i hcx
      have hxc : L x c := (hc x (by simp)).resolve_left hcx
      refine List.pairwise_cons.2 ⟨fun y hy => ?_, insG_sorted ht c r (fun y hy => hc y (by simp [hy])) h2.2⟩
      rcases List.mem_cons.1 ((insG_perm L c r).mem_iff.1 hy) with rfl | hy
      · exact hxc
      · exact h2.1 y hy
open Classical in
theorem putG_fold {α : Type} {R L : α → α → Prop} (hr : ∀ x, R x x) (ht : ∀ x y z, R x y → R y z → R x z) (lt : ∀ x y z, L x y → L y z → L x z) (tot : ∀ x y, x ≠ y → L x y ∨ L y x) (l : List α) :
    Anti R l (l.foldl (putG R L) []) ∧ (l.foldl (putG R L) []).Pairwise L := by
  have go : ∀ (l k l0 : List α), Anti R l0 k → k.Pairwise L → Anti R (l0 ++ l) (l.foldl (putG R L) k) ∧ (l.foldl (putG R L) k).Pairwise L := by
    intro l
    induction l with
    | nil => intro k l0 h h2; exact ⟨by simpa using h, h2⟩
    | cons x l ih =>
      intro k l0 h h2
      have hx : Anti R (l0 ++ [x]) (putG R L k x) ∧ (putG R L k x).Pairwise L := by
        unfold putG
        split
        · rename_i hh
          exact ⟨⟨fun y hy => by simp [h.sub y hy], h.anti, fun y hy => by
            rcases List.mem_append.1 hy with hy | hy
            · exact h.cov y hy
            · simp at hy; subst hy; exact hh⟩, h2⟩
        · rename_i hh
          have hp := insG_perm L x (k.filter fun y => decide (¬ R y x))
          have hsub : ∀ y ∈ k.filter (fun y => decide (¬ R y x)), y ∈ k ∧ ¬ R y x := fun y hy => by
            obtain ⟨h1, h2⟩ := List.mem_filter.1 hy
            exact ⟨h1, by simpa using h2⟩
          refine ⟨⟨fun y hy => ?_, ?_, fun y hy => ?_⟩, ?_⟩
          · rcases List.mem_cons.1 (hp.mem_iff.1 hy) with rfl | hy
            · simp
            · simp [h.sub y (hsub y hy).1]
          · refine (hp.pairwise_iff (fun {a b} hab => ⟨hab.2, hab.1⟩)).2 (List.pairwise_cons.2 ⟨fun y hy => ⟨fun h3 => hh ⟨y, (hsub y hy).1, h3⟩, (hsub y hy).2⟩, h.anti.filter _⟩)
          · rcases List.mem_append.1 hy with hy | hy
            · obtain ⟨z, hz, hyz⟩ := h.cov y hy
              by_cases hzx : R z x
              · exact ⟨x, hp.mem_iff.2 (by simp), ht _ _ _ hyz hzx⟩
              · exact ⟨z, hp.mem_iff.2 (by simp [hz, hzx]), hyz⟩
            · simp at hy; subst hy; exact ⟨y, hp.mem_iff.2 (by simp), hr y⟩
          · refine insG_sorted lt x _ (fun y hy => tot x y fun e => ?_) (h2.filter _)
            subst e
            exact (hsub x hy).2 (hr x)
      have := ih (putG R L k x) (l0 ++ [x]) hx.1 hx.2
      simpa [List.append_assoc] using this
  simpa using go l [] [] ⟨by simp, by simp, by simp⟩ (by simp)
theorem sorted_eq_put {α : Type} {R L : α → α → Prop} (hr : ∀ x, R x x) (ht : ∀ x y z, R x y → R y z → R x z) (ha : ∀ x y, R x y → R y x → x = y) (hirr : ∀ x, ¬ L x x) (lt : ∀ x y z, L x y → L y z → L x z) (tot : ∀ x y, x ≠ y → L x y ∨ L y x)
    {l k : List α} (hp : k.Perm (grG R l)) (hs : k.Pairwise L) : k = l.foldl (putG R L) [] := by
  have h := putG_fold hr ht lt tot l
  exact sorted_uniq hirr lt (hp.trans ((grG_anti ht l fun x _ => hr x).perm hr ht ha h.1)) hs h.2
theorem bl_eq : ∀ (x y : Str), Op.bytesLess x y = true ↔ x < y
  | [], [] => by simp [Op.bytesLess]
  | _ :: _, [] => by simp [Op.bytesLess]
  | [], _ :: _ => by simp [Op.bytesLess]
  | a :: x, b :: y => by
    simp only [Op.bytesLess, Bool.or_eq_true, Bool.and_eq_true, decide_eq_true_eq, beq_iff_eq, bl_eq x y, List.cons_lt_cons_iff]
theorem bl_irrefl (x : Str) : ¬ Op.bytesLess x x = true := by
  rw [bl_eq]; exact List.lt_irrefl x
theorem bl_trans {x y z : Str} (h : Op.bytesLess x y = true) (k : Op.bytesLess y z = true) : Op.bytesLess x z = true := by
  rw [bl_eq] at *
  exact List.lt_trans h k
theorem bl_total {x y : Str} (h : x ≠ y) : Op.bytesLess x y = true ∨ Op.bytesLess y x = true := by
  rw [bl_eq, bl_eq]
  by_cases h1 : x < y
  · exact .inl h1
  · right
    rcases List.le_iff_lt_or_eq.1 (List.not_lt.1 h1) with h2 | h2
    · exact h2
    · exact absurd h2.symm h
theorem bl_append : ∀ {x y A B : Str}, x.length = y.length → (Op.bytesLess (x ++ A) (y ++ B) = true ↔ Op.bytesLess x y = true ∨ (x = y ∧ Op.bytesLess A B = true))
  | [], [], A, B, _ => by simp [Op.bytesLess]
  | [], _ :: _, _, _, h => by simp at h
  | _ :: _, [], _, _, h => by simp at h
  | a :: x, b :: y, A, B, h => by
    have ih := bl_append (x := x) (y := y) (A := A) (B := B) (by simpa using h)
    simp only [List.cons_append, Op.bytesLess, Bool.or_eq_true, Bool.and_eq_true, decide_eq_true_eq, beq_iff_eq, ih, List.cons.injEq]
    constructor
    · rintro (h1 | ⟨rfl, h1 | ⟨rfl, h1⟩⟩)
      · exact .inl (.inl h1)
      · exact .inl (.inr ⟨rfl, h1⟩)
      · exact .inr ⟨⟨rfl, rfl⟩, h1⟩
    · rintro ((h1 | ⟨rfl, h1⟩) | ⟨⟨rfl, rfl⟩, h1⟩)
      · exact .inl h1
      · exact .inr ⟨rfl, .inl h1⟩
      · exact .inr ⟨rfl, .inr ⟨rfl, h1⟩⟩
def lexL : List Str → List Str → Prop
  | _, [] => False
  | [], _ :: _ => True
  | x :: a, y :: b => Op.bytesLess x y = true ∨ (x = y ∧ lexL a b)
theorem bl_flatten {n : Nat} (hn : 0 < n) : ∀ {a b : List Str}, (∀ x ∈ a, x.length = n) → (∀ x ∈ b, x.length = n) → (Op.bytesLess a.flatten b.flatten = true ↔ lexL a b)
  | a, [], _, _ => by cases a <;> simp [lexL, Op.bytesLess]
  | [], y :: b, _, hb => by
    have hy := hb y (by simp)
    cases y with
    | nil => simp at hy; omega
    | cons c y => simp [lexL, Op.bytesLess]
  | x :: a, y :: b, ha, hb => by
    rw [List.flatten_cons, List.flatten_cons, bl_append (by rw [ha x (by simp), hb y (by simp)]), bl_flatten hn (fun z hz => ha z (by simp [hz])) (fun z hz => hb z (by simp [hz]))]
    rfl
structure Term where
  p : Str
  less : List Str
def Term.key (t : Term) : Str := t.p ++ t.less.flatten
def Term.wide (n : Nat) (t : Term) : Prop := t.p.length = n ∧ ∀ m ∈ t.less, m.length = n
def aheadT (t u : Term) : Prop := lexL (t.p :: t.less) (u.p :: u.less)
theorem key_less {n : Nat} (hn : 0 < n) {t u : Term} (ht : t.wide n) (hu : u.wide n) : Op.bytesLess t.key u.key = true ↔ aheadT t u := by
  have := bl_flatten hn (a := t.p :: t.less) (b := u.p :: u.less) (by simpa using ⟨ht.1, ht.2⟩) (by simpa using ⟨hu.1, hu.2⟩)
  simpa [Term.key, aheadT] using this
noncomputable def srt {α : Type} (L : α → α → Prop) (l : List α) : List α := l.foldl (fun acc x => insG L x acc) []
theorem srt_perm {α : Type} (L : α → α → Prop) (l : List α) : (srt L l).Perm l := by
  have go : ∀ l acc : List α, (l.foldl (fun acc x => insG L x acc) acc).Perm (acc ++ l) := by
    intro l
    induction l with
    | nil => intro acc; simp
    | cons x l ih =>
      intro acc
      refine (ih (insG L x acc)).trans ?_
      refine ((insG_perm L x acc).append_right l).trans ?_
      simpa using (List.perm_middle (a := x) (l₁ := acc) (l₂ := l)).symm
  show (l.foldl (fun acc x => insG L x acc) []).Perm l
  simpa using go l []
theorem srt_sorted {α : Type} {L : α → α → Prop} (ht : ∀ x y z, L x y → L y z → L x z) (l : List α) (tot : l.Pairwise fun x y => L x y ∨ L y x) : (srt L l).Pairwise L := by
  have go : ∀ l acc : List α, (acc ++ l).Pairwise (fun x y => L x y ∨ L y x) → acc.Pairwise L → (l.foldl (fun acc x => insG L x acc) acc).Pairwise L := by
    intro l
    induction l with
    | nil => intro acc _ h; exact h
    | cons x l ih =>
      intro acc htot h
      have hp : (insG L x acc ++ l).Perm (acc ++ x :: l) := ((insG_perm L x acc).append_right l).trans (List.perm_middle (a := x) (l₁ := acc) (l₂ := l)).symm
      refine ih (insG L x acc) ((hp.pairwise_iff fun {a b} hab => hab.symm).2 htot) (insG_sorted ht x acc (fun y hy => ?_) h)
      have := (List.pairwise_append.1 htot).2.2 y hy x (by simp)
      exact this.symm
  exact go l [] (by simpa using tot) (by simp)
theorem srt_uniq {α : Type} {L : α → α → Prop} (hirr : ∀ x, ¬ L x x) (ht : ∀ x y z, L x y → L y z → L x z) {l k : List α} (tot : l.Pairwise fun x y => L x y ∨ L y x) (hp : k.Perm l) (hs : k.Pairwise L) : k = srt L l :=
  sorted_uniq hirr ht (hp.trans (srt_perm L l).symm) hs (srt_sorted ht l tot)
theorem lexL_irrefl : ∀ a : List Str, ¬ lexL a a
  | [] => by simp [lexL]
  | x :: a => by
    have := lexL_irrefl a
    simp [lexL, bl_irrefl, this]
theorem lexL_trans : ∀ {a b c : List Str}, lexL a b → lexL b c → lexL a c
  | a, [], c, h, _ => by cases a <;> simp [lexL] at h
  | a, _ :: _, [], _, h => by simp [lexL] at h
  | [], _ :: _, _ :: _, _, _ => trivial
  | x :: a, y :: b, z :: c, h, k => by
    rcases h with h | ⟨rfl, h⟩
    · rcases k with k | ⟨rfl, k⟩
      · exact .inl (bl_trans h k)
      · exact .inl h
    · rcases k with k | ⟨rfl, k⟩
      · exact .inl k
      · exact .inr ⟨rfl, lexL_trans h k⟩
theorem lexL_total : ∀ {a b : List Str}, a ≠ b → lexL a b ∨ lexL b a
  | [], [], h => absurd rfl h
  | [], _ :: _, _ => .inl trivial
  | _ :: _, [], _ => .inr trivial
  | x :: a, y :: b, h => by
    by_cases hxy : x = y
    · subst hxy
      rcases lexL_total (a := a) (b := b) (fun e => h (by rw [e])) with k | k
      · exact .inl (.inr ⟨rfl, k⟩)
      · exact .inr (.inr ⟨rfl, k⟩)
    · rcases bl_total hxy with k | k
      · exact .inl (.inl k)
      · exact .inr (.inl k)
theorem ahead_irrefl (t : Term) : ¬ aheadT t t := lexL_irrefl _
theorem ahead_trans (t u v : Term) (h : aheadT t u) (k : aheadT u v) : aheadT t v := lexL_trans h k
theorem ahead_total {t u : Term} (h : t ≠ u) : aheadT t u ∨ aheadT u t := lexL_total fun e => h (by
  obtain ⟨p, l⟩ := t
  obtain ⟨q, m⟩ := u
  simp at e
  rw [e.1, e.2])
def blt (x y : Str) : Prop := Op.bytesLess x y = true
def metL (p : Str) (less : List Str) : List Str := less.filterMap fun m => meetT m p
open Classical in
/-- A cube less others, in its form. -/
noncomputable def termT (p : Str) (less : List Str) : Option Term :=
  let k := (metL p less).foldl (putG inL blt) []
  if k = [p] then none else some ⟨p, k⟩
def covT (t u : Term) : Prop := inT t.p u.p ∧ ∀ m ∈ u.less, ∀ c, meetT m t.p = some c → ∃ n ∈ t.less, inT c n
structure Term.Ok (n : Nat) (t : Term) : Prop where
  pos : 0 < n
  p : t.p.length = n
  less : ∀ m ∈ t.less, inL m t.p
theorem Term.Ok.wide {n : Nat} {t : Term} (h : t.Ok n) : t.wide n := ⟨h.p, fun m hm => by rw [inL_len (h.less m hm), h.p]⟩
theorem covT_refl {n : Nat} {t : Term} (h : t.Ok n) : covT t t := by
  have hp : t.p ≠ [] := fun e => by have := h.p; have := h.pos; rw [e] at *; simp at *; omega
  refine ⟨⟨hp, inL_refl _⟩, fun m hm c hc => ?_⟩
  unfold meetT at hc
  split at hc
  · cases hc
  · rename_i hmn
    have := meetL_self.2 (h.less m hm)
    rw [this] at hc
    cases hc
    exact ⟨m, hm, hmn, inL_refl _⟩
theorem covT_trans (t u v : Term) (h : covT t u) (k : covT u v) : covT t v := by
  refine ⟨inT_trans h.1 k.1, fun m hm c hc => ?_⟩
  unfold meetT at hc
  split at hc
  · cases hc
  · rename_i hmn
    obtain ⟨hcm, hct⟩ := meetL_in hc
    obtain ⟨c1, hc1, hi1⟩ := meetL_glb hcm (inL_trans hct h.1.2)
    obtain ⟨n1, hn1, hin1⟩ := k.2 m hm c1 (by unfold meetT; rw [if_neg hmn]; exact hc1)
    have hcn1 := inL_trans hi1 hin1.2
    obtain ⟨c2, hc2, hi2⟩ := meetL_glb hcn1 hct
    have hne : n1 ≠ [] := fun e => hin1.1 (by
      have := inL_len hin1.2
      rw [e] at this
      exact List.eq_nil_of_length_eq_zero this)
    obtain ⟨n2, hn2, hin2⟩ := h.2 n1 hn1 c2 (by unfold meetT; rw [if_neg hne]; exact hc2)
    refine ⟨n2, hn2, fun e => hin2.1 ?_, inL_trans hi2 hin2.2⟩
    have := inL_len hi2
    rw [e] at this
    exact List.eq_nil_of_length_eq_zero this.symm
noncomputable def formT (l : List Term) : List Term := srt aheadT (grG covT l)
theorem formT_eq {n : Nat} {l k : List Term} (hl : ∀ t ∈ l, t.Ok n) (hp : k.Perm (grG covT l)) (hs : k.Pairwise fun t u => Op.bytesLess u.key t.key ≠ true) : k = formT l := by
  have ha := grG_anti covT_trans l fun t ht => covT_refl (hl t ht)
  have hok : ∀ t ∈ grG covT l, t.Ok n := fun t ht => hl t (ha.sub t ht)
  have tot : (grG covT l).Pairwise fun x y => x ≠ y := ha.anti.imp_of_mem fun {a b} hma _ hab e => hab.1 (by rw [← e]; exact covT_refl (hok a hma))
  have hne : k.Pairwise fun x y => x ≠ y := (hp.pairwise_iff fun {a b} hab => hab.symm).2 tot
  refine srt_uniq ahead_irrefl ahead_trans (tot.imp ahead_total) hp ?_
  refine (hs.and hne).imp_of_mem fun {a b} hma hmb hab => ?_
  have hoa := hok a (hp.mem_iff.1 hma)
  have hob := hok b (hp.mem_iff.1 hmb)
  rcases ahead_total hab.2 with h | h
  · exact h
  · exact absurd ((key_less hob.pos hob.wide hoa.wide).2 h) hab.1
theorem blt_irrefl (x : Str) : ¬ blt x x := bl_irrefl x
theorem blt_trans (x y z : Str) (h : blt x y) (k : blt y z) : blt x z := bl_trans h k
theorem blt_total (x y : Str) (h : x ≠ y) : blt x y ∨ blt y x := bl_total h
theorem strict_of {l k : List Str} (hp : k.Perm (grG inL l)) (hs : k.Pairwise fun t u => Op.bytesLess u t ≠ true) : k.Pairwise blt := by
  have ha := grG_anti (R := inL) (fun _ _ _ => inL_trans) l fun x _ => inL_refl x
  have hn := (hp.nodup_iff).2 (ha.nodup inL_refl)
  refine (hs.and hn).imp fun {a b} hab => ?_
  rcases blt_total a b hab.2 with h | h
  · exact h
  · exact absurd h hab.1
theorem put_eq {l k : List Str} (hp : k.Perm (grG inL l)) (hs : k.Pairwise fun t u => Op.bytesLess u t ≠ true) : k = l.foldl (putG inL blt) [] :=
  sorted_eq_put inL_refl (fun _ _ _ => inL_trans) (fun _ _ => inL_antisymm) blt_irrefl blt_trans blt_total hp (strict_of hp hs)
theorem metL_in {p : Str} {less : List Str} {m : Str} (h : m ∈ metL p less) : inL m p := by
  obtain ⟨a, _, h2⟩ := List.mem_filterMap.1 h
  unfold meetT at h2
  split at h2
  · cases h2
  · exact (meetL_in h2).2
theorem void_iff (p : Str) (less : List Str) : p ∈ grG inL (metL p less) ↔ (metL p less).foldl (putG inL blt) [] = [p] := by
  have ha := grG_anti (R := inL) (fun _ _ _ => inL_trans) (metL p less) fun x _ => inL_refl x
  have hb := putG_fold (R := inL) (L := blt) inL_refl (fun _ _ _ => inL_trans) blt_trans blt_total (metL p less)
  have hp := ha.perm inL_refl (fun _ _ _ => inL_trans) (fun _ _ => inL_antisymm) hb.1
  constructor
  · intro h
    have hm := hp.mem_iff.1 h
    generalize hk : (metL p less).foldl (putG inL blt) [] = k at hb hm
    have hall : ∀ x ∈ k, inL x p := fun x hx => metL_in (hb.1.sub x hx)
    cases k with
    | nil => simp at hm
    | cons a k =>
      have hpw := List.pairwise_cons.1 hb.1.anti
      rcases List.mem_cons.1 hm with rfl | hm
      · cases k with
        | nil => rfl
        | cons b k => exact absurd (hall b (by simp)) (hpw.1 b (by simp)).2
      · exact absurd (hall a (by simp)) (hpw.1 p hm).1
  · intro h
    exact hp.mem_iff.2 (by rw [h]; simp)
theorem termT_void {p : Str} {less : List Str} (h : p ∈ grG inL (metL p less)) : termT p less = none := by
  have := (void_iff p less).1 h
  unfold termT
  simp only
  rw [if_pos this]
theorem termT_some {p : Str} {less k : List Str} (h : p ∉ grG inL (metL p less)) (hp : k.Perm (grG inL (metL p less))) (hs : k.Pairwise fun t u => Op.bytesLess u t ≠ true) : termT p less = some ⟨p, k⟩ := by
  have h1 := fun e => h ((void_iff p less).2 e)
  unfold termT
  simp only
  rw [if_neg h1]
  congr
  exact (put_eq hp hs).symm
theorem termT_ok {p : Str} {less : List Str} {t : Term} (hp : p ≠ []) (h : termT p less = some t) : t.Ok p.length ∧ t.p = p := by
  unfold termT at h
  simp only at h
  split at h
  · cases h
  · cases h
    have hb := putG_fold (R := inL) (L := blt) inL_refl (fun _ _ _ => inL_trans) blt_trans blt_total (metL p less)
    exact ⟨⟨List.length_pos_iff.2 hp, rfl, fun m hm => metL_in (hb.1.sub m hm)⟩, rfl⟩
theorem grG_sub {α : Type} (R : α → α → Prop) (l : List α) : ∀ x ∈ grG R l, x ∈ l := by
  have go : ∀ (l k : List α), ∀ x ∈ l.foldl (addG R) k, x ∈ k ∨ x ∈ l := by
    intro l
    induction l with
    | nil => intro k x hx; exact .inl hx
    | cons y l ih =>
      intro k x hx
      rcases ih _ x hx with h | h
      · unfold addG at h
        split at h
        · exact .inl h
        · rcases List.mem_append.1 h with h | h
          · exact .inl (List.mem_filter.1 h).1
          · simp at h; subst h; exact .inr (by simp)
      · exact .inr (by simp [h])
  intro x hx
  rcases go l [] x hx with h | h
  · simp at h
  · exact h
theorem formT_mem {l : List Term} {t : Term} (h : t ∈ formT l) : t ∈ l := grG_sub covT l t ((srt_perm aheadT _).mem_iff.1 h)
end Go.Proofs.YtaiondckookpiaaGreatDoor
namespace Go.Proofs.YtaiondckookpiaaGreatDoor
open Go Go.Vx
def wof (f : Nat → Bool) (k : Nat) : BitVec 64 := (BitVec.ofBoolListLE ((List.range 64).map fun i => f (64 * k + i))).setWidth 64
theorem wof_get (f : Nat → Bool) (k i : Nat) (h : i < 64) : (wof f k).getLsbD i = f (64 * k + i) := by
  unfold wof
  rw [BitVec.getLsbD_setWidth, BitVec.getLsbD_ofBoolListLE]
  simp [h, List.getD]
theorem wof_ext {f g : Nat → Bool} {k : Nat} (h : ∀ i, i < 64 → f (64 * k + i) = g (64 * k + i)) : wof f k = wof g k :=
  BitVec.eq_of_getLsbD_eq fun i hi => by rw [wof_get _ _ _ hi, wof_get _ _ _ hi]; exact h i hi
theorem wof_eq {f g : Nat → Bool} {k : Nat} : wof f k = wof g k ↔ ∀ i, i < 64 → f (64 * k + i) = g (64 * k + i) := by
  refine ⟨fun h i hi => ?_, wof_ext⟩
  rw [← wof_get f k i hi, h, wof_get g k i hi]
theorem bv_id (x : BitVec 64) : BitVec.ofInt IntKind.u64.bits (x.toNat : Int) = x := by
  show BitVec.ofInt 64 (x.toNat : Int) = x
  simp
theorem wrap_id (x : BitVec 64) : IntKind.u64.wrap (x.toNat : Int) = (x.toNat : Int) := by
  have := x.isLt
  simp [IntKind.wrap, IntKind.bits, IntKind.signed]
  omega
section
variable {p : Int → Prop} {x y : BitVec 64}
theorem nAnd (h : p ((x &&& y).toNat : Int)) : ∃ n, n = IntKind.u64.wrap ((BitVec.ofInt IntKind.u64.bits (x.toNat : Int) &&& BitVec.ofInt IntKind.u64.bits (y.toNat : Int)).toNat : Int) ∧ p n := ⟨_, rfl, by
  have key : ∀ (a b : BitVec 64), a = x → b = y → IntKind.u64.wrap ((a &&& b).toNat : Int) = (((x &&& y) : BitVec 64).toNat : Int) := by
    rintro _ _ rfl rfl
    exact wrap_id _
  exact (congrArg p (key _ _ (bv_id x) (bv_id y))).mpr h⟩
theorem nOr (h : p ((x ||| y).toNat : Int)) : ∃ n, n = IntKind.u64.wrap ((BitVec.ofInt IntKind.u64.bits (x.toNat : Int) ||| BitVec.ofInt IntKind.u64.bits (y.toNat : Int)).toNat : Int) ∧ p n := ⟨_, rfl, by
  have key : ∀ (a b : BitVec 64), a = x → b = y → IntKind.u64.wrap ((a ||| b).toNat : Int) = (((x ||| y) : BitVec 64).toNat : Int) := by
    rintro _ _ rfl rfl
    exact wrap_id _
  exact (congrArg p (key _ _ (bv_id x) (bv_id y))).mpr h⟩
theorem nXor (h : p ((x ^^^ y).toNat : Int)) : ∃ n, n = IntKind.u64.wrap ((BitVec.ofInt IntKind.u64.bits (x.toNat : Int) ^^^ BitVec.ofInt IntKind.u64.bits (y.toNat : Int)).toNat : Int) ∧ p n := ⟨_, rfl, by
  have key : ∀ (a b : BitVec 64), a = x → b = y → IntKind.u64.wrap ((a ^^^ b).toNat : Int) = (((x ^^^ y) : BitVec 64).toNat : Int) := by
    rintro _ _ rfl rfl
    exact wrap_id _
  exact (congrArg p (key _ _ (bv_id x) (bv_id y))).mpr h⟩
theorem nAndNot (h : p ((x &&& ~~~y).toNat : Int)) : ∃ n, n = IntKind.u64.wrap ((BitVec.ofInt IntKind.u64.bits (x.toNat : Int) &&& ~~~(BitVec.ofInt IntKind.u64.bits (y.toNat : Int))).toNat : Int) ∧ p n := ⟨_, rfl, by
  have key : ∀ (a b : BitVec 64), a = x → b = y → IntKind.u64.wrap ((a &&& ~~~b).toNat : Int) = (((x &&& ~~~y) : BitVec 64).toNat : Int) := by
    rintro _ _ rfl rfl
    exact wrap_id _
  exact (congrArg p (key _ _ (bv_id x) (bv_id y))).mpr h⟩
theorem nAnd1 (h : p ((x &&& 1#64).toNat : Int)) : ∃ n, n = IntKind.u64.wrap ((BitVec.ofInt IntKind.u64.bits (x.toNat : Int) &&& BitVec.ofInt IntKind.u64.bits 1).toNat : Int) ∧ p n := by
  have : ((1#64 : BitVec 64).toNat : Int) = 1 := rfl
  have h2 := nAnd (p := p) (x := x) (y := 1#64) h
  rwa [this] at h2
theorem nShr {r : Int} {k : Nat} (hr : r = (k : Int) ∧ k < 64) (h : p ((x >>> k).toNat : Int)) : ∃ n, n = (x.toNat : Int).fdiv (2 ^ (min r.toNat IntKind.u64.bits)) ∧ p n := by
  refine ⟨_, rfl, ?_⟩
  obtain ⟨rfl, hk⟩ := hr
  have e1 : min ((k : Int).toNat) IntKind.u64.bits = k := by
    show min k 64 = k
    omega
  rw [e1]
  have e2 : ((x.toNat : Int).fdiv (2 ^ k)) = ((x >>> k).toNat : Int) := by
    rw [BitVec.toNat_ushiftRight, Nat.shiftRight_eq_div_pow, Int.fdiv_eq_ediv_of_nonneg _ (Int.pow_nonneg (by omega))]
    push_cast
    rfl
  rw [e2]
  exact h
theorem nShl1 {r : Int} {k : Nat} (hr : r = (k : Int) ∧ k < 64) (h : p ((1#64 <<< k).toNat : Int)) : ∃ n, n = IntKind.u64.wrap (1 * 2 ^ (min r.toNat IntKind.u64.bits)) ∧ p n := by
  refine ⟨_, rfl, ?_⟩
  obtain ⟨rfl, hk⟩ := hr
  have e1 : min ((k : Int).toNat) IntKind.u64.bits = k := by
    show min k 64 = k
    omega
  rw [e1]
  have hlt : 2 ^ k < 2 ^ 64 := Nat.pow_lt_pow_right (by omega) hk
  have e2 : (1 * 2 ^ k : Int) = ((1#64 <<< k).toNat : Int) := by
    rw [BitVec.toNat_shiftLeft, Nat.shiftLeft_eq]
    simp only [BitVec.toNat_ofNat]
    rw [show (1 % 2 ^ 64 * 2 ^ k) % 2 ^ 64 = 2 ^ k by rw [Nat.mod_eq_of_lt (a := 1) (by decide), Nat.one_mul, Nat.mod_eq_of_lt hlt]]
    push_cast
    omega
  rw [e2, wrap_id]
  exact h
end
theorem nAnd1' {p : Int → Prop} {x : BitVec 64} {c : Int} (hc : c = 1) (h : p ((x &&& 1#64).toNat : Int)) : ∃ n, n = IntKind.u64.wrap ((BitVec.ofInt IntKind.u64.bits (x.toNat : Int) &&& BitVec.ofInt IntKind.u64.bits c).toNat : Int) ∧ p n := by
  subst hc; exact nAnd1 h
theorem nShl1' {p : Int → Prop} {r c : Int} {k : Nat} (hc : c = 1) (hr : r = (k : Int) ∧ k < 64) (h : p ((1#64 <<< k).toNat : Int)) : ∃ n, n = IntKind.u64.wrap (c * 2 ^ (min r.toNat IntKind.u64.bits)) ∧ p n := by
  subst hc; exact nShl1 hr h
theorem bit_at (x : BitVec 64) (k : Nat) : (((x >>> k) &&& 1#64).toNat : Int) = 1 ↔ x.getLsbD k = true := by
  have h1 : ((x >>> k) &&& 1#64).toNat = (x.getLsbD k).toNat := by
    rw [BitVec.toNat_and, BitVec.toNat_ushiftRight]
    simp only [BitVec.toNat_ofNat]
    rw [show 1 % 2 ^ 64 = 1 from rfl, Nat.and_one_is_mod, BitVec.getLsbD, Nat.testBit]
    simp
    have := Nat.mod_two_eq_zero_or_one (x.toNat >>> k)
    rcases this with h | h <;> simp [h]
  rw [h1]
  cases x.getLsbD k <;> simp
theorem quo64 {i q r : Nat} (h : i = 64 * q + r) (hr : r < 64) (hi : i < 1000) : (q : Int) = IntKind.i64.wrap ((i : Int).tdiv 64) := by
  subst h
  have e : ((64 * q + r : Nat) : Int).tdiv 64 = (q : Int) := by
    rw [Int.tdiv_eq_ediv_of_nonneg (by omega)]
    omega
  rw [e, IntKind.wrap_i64]
  omega
theorem rem64 {i q r : Nat} (h : i = 64 * q + r) (hr : r < 64) : (r : Int) = ((i : Int).tmod 64) := by
  subst h
  rw [Int.tmod_eq_emod_of_nonneg (by omega)]
  omega
theorem word_nz {x : BitVec 64} : ((x.toNat : Int) ≠ 0) ↔ ∃ i, i < 64 ∧ x.getLsbD i = true := by
  constructor
  · intro h
    apply Classical.byContradiction
    intro hn
    apply h
    have : x = 0#64 := BitVec.eq_of_getLsbD_eq fun i hi => by
      cases hx : x.getLsbD i
      · simp
      · exact absurd ⟨i, hi, hx⟩ hn
    rw [this]
    rfl
  · rintro ⟨i, hi, h⟩ h0
    have : x = 0#64 := BitVec.eq_of_toNat_eq (by simpa using h0)
    rw [this] at h
    simp at h
def dig (b : UInt8) : Bool := b == 48 || b == 49
def car (t : Str) (i : Nat) : Bool := match t[i]? with | some b => dig b | none => false
def one (t : Str) (i : Nat) : Bool := match t[i]? with | some b => b == 49 | none => false
@[reducible] def cells9 (n : Nat) (c o : Nat → Bool) : List D := [.i .i64 (n : Int), .i .u64 ((wof c 0).toNat : Int), .i .u64 ((wof c 1).toNat : Int), .i .u64 ((wof c 2).toNat : Int), .i .u64 ((wof c 3).toNat : Int), .i .u64 ((wof o 0).toNat : Int), .i .u64 ((wof o 1).toNat : Int), .i .u64 ((wof o 2).toNat : Int), .i .u64 ((wof o 3).toNat : Int)]
@[reducible] def crow (t : Str) : List D := cells9 t.length (car t) (one t)
structure CT (t : Str) : Prop where
  len : t.length ≤ 256
  cub : ∀ b ∈ t, b = 48 ∨ b = 49 ∨ b = 120
theorem CT.nil : CT [] := ⟨by simp, by simp⟩
theorem crow_nil : crow [] = [.i .i64 0, .i .u64 0, .i .u64 0, .i .u64 0, .i .u64 0, .i .u64 0, .i .u64 0, .i .u64 0, .i .u64 0] := by
  have h : ∀ k, wof (car []) k = 0#64 := fun k => BitVec.eq_of_getLsbD_eq fun i hi => by rw [wof_get _ _ _ hi]; simp [car]
  have h2 : ∀ k, wof (one []) k = 0#64 := fun k => BitVec.eq_of_getLsbD_eq fun i hi => by rw [wof_get _ _ _ hi]; simp [one]
  simp [h, h2]
theorem car_lt {t : Str} {i : Nat} (h : car t i = true) : i < t.length := by
  unfold car at h
  split at h
  · rename_i b hb; exact (List.getElem?_eq_some_iff.1 hb).1
  · cases h
theorem words_eq {f g : Nat → Bool} (h0 : wof f 0 = wof g 0) (h1 : wof f 1 = wof g 1) (h2 : wof f 2 = wof g 2) (h3 : wof f 3 = wof g 3) : ∀ i, i < 256 → f i = g i := by
  intro i hi
  have e0 := wof_eq.1 h0
  have e1 := wof_eq.1 h1
  have e2 := wof_eq.1 h2
  have e3 := wof_eq.1 h3
  by_cases c0 : i < 64
  · have := e0 i c0; rwa [show 64 * 0 + i = i by omega] at this
  by_cases c1 : i < 128
  · have := e1 (i - 64) (by omega); rwa [show 64 * 1 + (i - 64) = i by omega] at this
  by_cases c2 : i < 192
  · have := e2 (i - 128) (by omega); rwa [show 64 * 2 + (i - 128) = i by omega] at this
  · have := e3 (i - 192) (by omega); rwa [show 64 * 3 + (i - 192) = i by omega] at this
theorem ct_ext {t u : Str} (ht : CT t) (hu : CT u) (hl : t.length = u.length) (hc : ∀ i, i < 256 → car t i = car u i) (ho : ∀ i, i < 256 → one t i = one u i) : t = u := by
  refine List.ext_getElem? fun i => ?_
  by_cases hi : i < t.length
  · have h1 : t[i]? = some t[i] := List.getElem?_eq_getElem hi
    have h2 : u[i]? = some u[i] := List.getElem?_eq_getElem (by omega)
    have hi2 : i < 256 := by have := ht.len; omega
    have c := hc i hi2
    have o := ho i hi2
    unfold car at c
    unfold one at o
    rw [h1, h2] at c o ⊢
    simp only [] at c o
    have k1 := ht.cub t[i] (List.getElem_mem hi)
    have k2 := hu.cub u[i] (List.getElem_mem (by omega))
    rcases k1 with k1 | k1 | k1 <;> rcases k2 with k2 | k2 | k2 <;> rw [k1, k2] at c o ⊢ <;> simp [dig] at c o
  · rw [List.getElem?_eq_none (by omega), List.getElem?_eq_none (by omega)]
theorem crow_inj {t u : Str} (ht : CT t) (hu : CT u) (h : eqDs (crow t) (crow u)) : t = u := by
  have key : ∀ {x y : BitVec 64}, (x.toNat : Int) = (y.toNat : Int) → x = y := fun h => BitVec.eq_of_toNat_eq (by omega)
  simp only [eqDs, eqD] at h
  obtain ⟨hl, c0, c1, c2, c3, o0, o1, o2, o3⟩ := h
  exact ct_ext ht hu (by omega) (words_eq (key c0) (key c1) (key c2) (key c3)) (words_eq (key o0) (key o1) (key o2) (key o3))
theorem eqDs_self (t : Str) : eqDs (crow t) (crow t) := by simp [eqDs, eqD]
theorem put_word {f g : Nat → Bool} {i q r : Nat} (hi : i = 64 * q + r) (hr : r < 64) (hg : ∀ j, g j = (f j || decide (j = i))) (k : Nat) : wof g k = if k = q then wof f k ||| 1#64 <<< r else wof f k := by
  refine BitVec.eq_of_getLsbD_eq fun j hj => ?_
  rw [wof_get _ _ _ hj, hg]
  split
  · rename_i hk
    subst hk
    rw [BitVec.getLsbD_or, wof_get _ _ _ hj, BitVec.getLsbD_shiftLeft, BitVec.getLsbD_one]
    congr 1
    by_cases hjr : j = r
    · subst hjr; simp [hi, hj]
    · have h1 : ¬ 64 * k + j = i := by omega
      have h2 : ¬ (j - r = 0 ∧ ¬ j < r) := by omega
      simp [h1, hj]
      omega
  · rename_i hk
    rw [wof_get _ _ _ hj]
    have h1 : ¬ 64 * k + j = i := by omega
    simp [h1]
theorem take_get {t : Str} {i : Nat} {b : UInt8} (h : t[i]? = some b) (j : Nat) : (t.take (i + 1))[j]? = if j = i then some b else (t.take i)[j]? := by
  rw [List.getElem?_take, List.getElem?_take]
  by_cases hj : j = i
  · subst hj; simp [h]
  · by_cases h2 : j < i
    · simp [hj, h2, show j < i + 1 by omega]
    · simp [hj, h2, show ¬ j < i + 1 by omega]
theorem car_at_end (t : Str) (i : Nat) : car (t.take i) i = false := by
  unfold car
  rw [List.getElem?_take]
  simp
theorem one_at_end (t : Str) (i : Nat) : one (t.take i) i = false := by
  unfold one
  rw [List.getElem?_take]
  simp
theorem car_put {t : Str} {i : Nat} {b : UInt8} (h : t[i]? = some b) (hd : dig b = true) (j : Nat) : car (t.take (i + 1)) j = (car (t.take i) j || decide (j = i)) := by
  by_cases hj : j = i
  · subst hj
    rw [car_at_end]
    unfold car
    rw [take_get h]
    simp [hd]
  · unfold car
    rw [take_get h]
    simp [hj]
theorem one_put {t : Str} {i : Nat} (h : t[i]? = some 49) (j : Nat) : one (t.take (i + 1)) j = (one (t.take i) j || decide (j = i)) := by
  by_cases hj : j = i
  · subst hj
    rw [one_at_end]
    unfold one
    rw [take_get h]
    simp
  · unfold one
    rw [take_get h]
    simp [hj]
theorem car_same {t : Str} {i : Nat} {b : UInt8} (h : t[i]? = some b) (hd : dig b = false) (k : Nat) : wof (car (t.take (i + 1))) k = wof (car (t.take i)) k := by
  refine wof_ext fun j _ => ?_
  generalize 64 * k + j = m
  by_cases hj : m = i
  · subst hj
    rw [car_at_end]
    unfold car
    rw [take_get h]
    simp [hd]
  · unfold car
    rw [take_get h]
    simp [hj]
theorem one_same {t : Str} {i : Nat} {b : UInt8} (h : t[i]? = some b) (hd : b ≠ 49) (k : Nat) : wof (one (t.take (i + 1))) k = wof (one (t.take i)) k := by
  refine wof_ext fun j _ => ?_
  generalize 64 * k + j = m
  by_cases hj : m = i
  · subst hj
    rw [one_at_end]
    unfold one
    rw [take_get h]
    simp [hd]
  · unfold one
    rw [take_get h]
    simp [hj]
theorem at_word {f : Nat → Bool} {i q r : Nat} (hi : i = 64 * q + r) (hr : r < 64) : ((((wof f q) >>> r) &&& 1#64).toNat : Int) = 1 ↔ f i = true := by
  rw [bit_at, wof_get _ _ _ hr, hi]
theorem split64 (i : Nat) (h : i < 256) : ∃ q r, i = 64 * q + r ∧ r < 64 ∧ (q = 0 ∨ q = 1 ∨ q = 2 ∨ q = 3) := ⟨i / 64, i % 64, by omega, by omega, by omega⟩
end Go.Proofs.YtaiondckookpiaaGreatDoor
namespace Go.Proofs.YtaiondckookpiaaGreatDoor
open Go Go.Vx
theorem meetL_get : ∀ {c d m : Str}, meetL c d = some m → ∀ (i : Nat) a b, c[i]? = some a → d[i]? = some b → ∃ x, m[i]? = some x ∧ meet1 a b = some x
  | [], [], _, _, i, a, b, ha, _ => by simp at ha
  | [], _ :: _, _, h, _, _, _, _, _ => by cases h
  | _ :: _, [], _, h, _, _, _, _, _ => by cases h
  | a0 :: c, b0 :: d, m, h, i, a, b, ha, hb => by
    unfold meetL at h
    cases h1 : meet1 a0 b0 with
    | none => rw [h1] at h; cases h
    | some x => cases h2 : meetL c d with
      | none => rw [h1, h2] at h; cases h
      | some r =>
        rw [h1, h2] at h
        cases h
        cases i with
        | zero => simp at ha hb; subst ha hb; exact ⟨x, rfl, h1⟩
        | succ i => exact meetL_get h2 i a b (by simpa using ha) (by simpa using hb)
theorem meetL_ex : ∀ {c d : Str}, c.length = d.length → (∀ (i : Nat) a b, c[i]? = some a → d[i]? = some b → meet1 a b ≠ none) → ∃ m, meetL c d = some m
  | [], [], _, _ => ⟨[], rfl⟩
  | [], _ :: _, h, _ => by simp at h
  | _ :: _, [], h, _ => by simp at h
  | a :: c, b :: d, h, hh => by
    obtain ⟨m, hm⟩ := meetL_ex (c := c) (d := d) (by simpa using h) fun i a b ha hb => hh (i + 1) a b (by simpa using ha) (by simpa using hb)
    have := hh 0 a b rfl rfl
    cases h1 : meet1 a b with
    | none => exact absurd h1 this
    | some x => exact ⟨x :: m, by unfold meetL; rw [h1, hm]⟩
theorem meetL_ct : ∀ {c d m : Str}, meetL c d = some m → (∀ b ∈ c, b = 48 ∨ b = 49 ∨ b = 120) → (∀ b ∈ d, b = 48 ∨ b = 49 ∨ b = 120) → ∀ b ∈ m, b = 48 ∨ b = 49 ∨ b = 120
  | [], [], m, h, _, _ => by cases h; simp
  | [], _ :: _, _, h, _, _ => by cases h
  | _ :: _, [], _, h, _, _ => by cases h
  | a0 :: c, b0 :: d, m, h, hc, hd => by
    unfold meetL at h
    cases h1 : meet1 a0 b0 with
    | none => rw [h1] at h; cases h
    | some x => cases h2 : meetL c d with
      | none => rw [h1, h2] at h; cases h
      | some r =>
        rw [h1, h2] at h
        cases h
        intro b hb
        rcases List.mem_cons.1 hb with rfl | hb
        · unfold meet1 at h1
          split at h1
          · cases h1; exact hd _ (by simp)
          · split at h1
            · cases h1; exact hc _ (by simp)
            · cases h1
        · exact meetL_ct h2 (fun b hb => hc b (by simp [hb])) (fun b hb => hd b (by simp [hb])) b hb
theorem meetT_ct {c d m : Str} (h : meetT c d = some m) (hc : CT c) (hd : CT d) : CT m ∧ m.length = c.length ∧ c ≠ [] := by
  unfold meetT at h
  split at h
  · cases h
  · rename_i hne
    have hl := meetL_len h
    exact ⟨⟨by rw [← hl.1]; exact hc.len, meetL_ct h hc.cub hd.cub⟩, hl.1.symm, hne⟩
theorem meetT_eq {c d : Str} (h : c ≠ []) : meetT c d = meetL c d := by unfold meetT; rw [if_neg h]
def cfl (c d : Str) (i : Nat) : Bool := (xor (one c i) (one d i) && car c i) && car d i
theorem word_cfl (c d : Str) (k : Nat) : (((wof (one c) k ^^^ wof (one d) k) &&& wof (car c) k) &&& wof (car d) k) = wof (cfl c d) k := by
  refine BitVec.eq_of_getLsbD_eq fun i hi => ?_
  rw [BitVec.getLsbD_and, BitVec.getLsbD_and, BitVec.getLsbD_xor, wof_get _ _ _ hi, wof_get _ _ _ hi, wof_get _ _ _ hi, wof_get _ _ _ hi, wof_get _ _ _ hi]
  rfl
theorem at_b {t : Str} {i : Nat} {b : UInt8} (h : t[i]? = some b) : car t i = dig b ∧ one t i = (b == 49) := by
  unfold car one
  rw [h]
  exact ⟨rfl, rfl⟩
theorem at_out {t : Str} {i : Nat} (h : t.length ≤ i) : car t i = false ∧ one t i = false := by
  unfold car one
  rw [List.getElem?_eq_none h]
  exact ⟨rfl, rfl⟩
theorem meet1_cfl {a b : UInt8} (ha : a = 48 ∨ a = 49 ∨ a = 120) (hb : b = 48 ∨ b = 49 ∨ b = 120) : meet1 a b = none ↔ ((xor (a == 49) (b == 49) && dig a) && dig b) = true := by
  rcases ha with rfl | rfl | rfl <;> rcases hb with rfl | rfl | rfl <;> simp [meet1, dig]
theorem meet1_bits {a b x : UInt8} (ha : a = 48 ∨ a = 49 ∨ a = 120) (hb : b = 48 ∨ b = 49 ∨ b = 120) (h : meet1 a b = some x) : dig x = (dig a || dig b) ∧ (x == 49) = ((a == 49) || (b == 49)) := by
  rcases ha with rfl | rfl | rfl <;> rcases hb with rfl | rfl | rfl <;> simp [meet1] at h <;> subst h <;> simp [dig]
theorem cfl_none {c d : Str} (hc : CT c) (hd : CT d) {i : Nat} (h : cfl c d i = true) : meetT c d = none := by
  unfold meetT
  split
  · rfl
  · cases hm : meetL c d with
    | none => rfl
    | some m =>
      exfalso
      unfold cfl at h
      simp only [Bool.and_eq_true] at h
      have h1 := car_lt h.1.2
      have h2 := car_lt h.2
      have e1 := List.getElem?_eq_getElem h1
      have e2 := List.getElem?_eq_getElem h2
      obtain ⟨x, _, hx⟩ := meetL_get hm i _ _ e1 e2
      have := (meet1_cfl (hc.cub _ (List.getElem_mem h1)) (hd.cub _ (List.getElem_mem h2))).2 (by
        rw [(at_b e1).2, (at_b e2).2, (at_b e1).1, (at_b e2).1] at h
        simp [h.1.1, h.1.2, h.2])
      rw [this] at hx
      cases hx
theorem cfl_some {c d : Str} (hc : CT c) (hd : CT d) (hl : c.length = d.length) (hne : c ≠ []) (h : ∀ i, cfl c d i = false) : ∃ m, meetT c d = some m ∧ (∀ i, car m i = (car c i || car d i)) ∧ ∀ i, one m i = (one c i || one d i) := by
  obtain ⟨m, hm⟩ := meetL_ex hl fun i a b ha hb hn => by
    have h1 := (meet1_cfl (hc.cub _ (List.mem_of_getElem? ha)) (hd.cub _ (List.mem_of_getElem? hb))).1 hn
    have h2 := h i
    unfold cfl at h2
    rw [(at_b ha).2, (at_b hb).2, (at_b ha).1, (at_b hb).1, h1] at h2
    cases h2
  have key : ∀ i, car m i = (car c i || car d i) ∧ one m i = (one c i || one d i) := fun i => by
    have hlm := meetL_len hm
    by_cases hi : i < c.length
    · have e1 := List.getElem?_eq_getElem hi
      have e2 := List.getElem?_eq_getElem (show i < d.length by omega)
      obtain ⟨x, hx, hxx⟩ := meetL_get hm i _ _ e1 e2
      have := meet1_bits (hc.cub _ (List.getElem_mem hi)) (hd.cub _ (List.getElem_mem (show i < d.length by omega))) hxx
      rw [(at_b e1).1, (at_b e2).1, (at_b e1).2, (at_b e2).2, (at_b hx).1, (at_b hx).2]
      exact this
    · have h1 := at_out (t := c) (i := i) (by omega)
      have h2 := at_out (t := d) (i := i) (by omega)
      have h3 := at_out (t := m) (i := i) (by omega)
      rw [h1.1, h1.2, h2.1, h2.2, h3.1, h3.2]
      exact ⟨rfl, rfl⟩
  exact ⟨m, by rw [meetT_eq hne, hm], fun i => (key i).1, fun i => (key i).2⟩
theorem wof_or {f g h : Nat → Bool} (e : ∀ i, h i = (f i || g i)) (k : Nat) : wof h k = wof f k ||| wof g k := by
  refine BitVec.eq_of_getLsbD_eq fun i hi => ?_
  rw [BitVec.getLsbD_or, wof_get _ _ _ hi, wof_get _ _ _ hi, wof_get _ _ _ hi, e]
theorem wof_zero {f : Nat → Bool} {k : Nat} (h : ((wof f k).toNat : Int) = 0) (i : Nat) (hi : i < 64) : f (64 * k + i) = false := by
  rw [← wof_get f k i hi]
  cases hb : (wof f k).getLsbD i
  · rfl
  · exact absurd h (word_nz.2 ⟨i, hi, hb⟩)
theorem wof_nz {f : Nat → Bool} {k : Nat} (h : ¬ ((wof f k).toNat : Int) = 0) : ∃ i, f i = true := by
  obtain ⟨i, hi, hb⟩ := word_nz.1 h
  exact ⟨_, by rw [wof_get _ _ _ hi] at hb; exact hb⟩
theorem no_cfl {c d : Str} (hc : CT c) (h : ∀ k, k < 4 → ((wof (cfl c d) k).toNat : Int) = 0) (i : Nat) : cfl c d i = false := by
  by_cases hi : i < 256
  · obtain ⟨q, r, rfl, hr, hq⟩ := split64 i hi
    exact wof_zero (h q (by omega)) r hr
  · unfold cfl
    have := (at_out (t := c) (i := i) (by have := hc.len; omega)).1
    rw [this]
    simp
theorem inT_meet {c d : Str} : inT c d ↔ meetT c d = some c := by
  unfold inT
  constructor
  · rintro ⟨h1, h2⟩
    rw [meetT_eq h1]
    exact meetL_self.2 h2
  · intro h
    have hne : c ≠ [] := fun e => by rw [e] at h; simp [meetT] at h
    rw [meetT_eq hne] at h
    exact ⟨hne, meetL_self.1 h⟩
def mw (w : Nat) (f g : Nat → Bool) (k : Nat) : BitVec 64 := if k < w then wof f k ||| wof g k else wof f k
@[reducible] def mcells (n w : Nat) (c d : Str) : List D := [.i .i64 (n : Int), .i .u64 ((mw w (car c) (car d) 0).toNat : Int), .i .u64 ((mw w (car c) (car d) 1).toNat : Int), .i .u64 ((mw w (car c) (car d) 2).toNat : Int), .i .u64 ((mw w (car c) (car d) 3).toNat : Int), .i .u64 ((mw w (one c) (one d) 0).toNat : Int), .i .u64 ((mw w (one c) (one d) 1).toNat : Int), .i .u64 ((mw w (one c) (one d) 2).toNat : Int), .i .u64 ((mw w (one c) (one d) 3).toNat : Int)]
theorem mcells_end {c d m : Str} (hl : m.length = c.length) (h1 : ∀ i, car m i = (car c i || car d i)) (h2 : ∀ i, one m i = (one c i || one d i)) : mcells c.length 4 c d = crow m := by
  simp only [mcells, crow, cells9, mw, wof_or h1, wof_or h2, hl]
  rfl
end Go.Proofs.YtaiondckookpiaaGreatDoor
namespace Go.Proofs.YtaiondckookpiaaGreatDoor
open Go Go.Vx
section
variable {α : Type} {R : α → α → Prop}
theorem grG_take {l : List α} {i : Nat} {x : α} (h : l[i]? = some x) : grG R (l.take (i + 1)) = addG R (grG R (l.take i)) x := by
  unfold grG
  rw [List.take_add_one, h]
  simp
theorem addG_in {k : List α} {x : α} (h : ∃ y ∈ k, R x y) : addG R k x = k := by
  unfold addG
  rw [if_pos h]
open Classical in
theorem addG_out {k : List α} {x : α} (h : ∀ y ∈ k, ¬ R x y) : addG R k x = k.filter (fun y => decide (¬ R y x)) ++ [x] := by
  unfold addG
  rw [if_neg fun ⟨y, hy, hxy⟩ => h y hy hxy]
theorem filter_take {p : α → Bool} {k : List α} {j : Nat} {y : α} (h : k[j]? = some y) : (k.take (j + 1)).filter p = (k.take j).filter p ++ (if p y then [y] else []) := by
  rw [List.take_add_one, h, List.filter_append]
  congr 1
  cases hp : p y <;> simp [hp]
structure Kept (R : α → α → Prop) (l : List α) (i : Nat) (W : List α) : Prop where
  le : i ≤ l.length
  tk : W.take (grG R (l.take i)).length = grG R (l.take i)
  n : (grG R (l.take i)).length ≤ W.length
  w : W.length ≤ i
theorem Kept.zero {l : List α} : Kept R l 0 [] := ⟨Nat.zero_le _, by simp [grG], by simp [grG], by simp⟩
theorem Kept.get {l : List α} {i : Nat} {W : List α} (h : Kept R l i W) {j : Nat} (hj : j < (grG R (l.take i)).length) : W[j]? = (grG R (l.take i))[j]? := by
  have := congrArg (fun z : List α => z[j]?) h.tk
  simp only [List.getElem?_take, if_pos hj] at this
  exact this
theorem Kept.skip {l : List α} {i : Nat} {W : List α} (h : Kept R l i W) {x : α} (hx : l[i]? = some x) (hy : ∃ y ∈ grG R (l.take i), R x y) : Kept R l (i + 1) W ∧ grG R (l.take (i + 1)) = grG R (l.take i) := by
  have e : grG R (l.take (i + 1)) = grG R (l.take i) := by rw [grG_take hx, addG_in hy]
  have := (List.getElem?_eq_some_iff.1 hx).1
  exact ⟨⟨by omega, by rw [e]; exact h.tk, by rw [e]; exact h.n, by have := h.w; omega⟩, e⟩
open Classical in
/-- Those of the first j that are not below x. -/
noncomputable def leftOf (R : α → α → Prop) (k : List α) (x : α) (j : Nat) : List α := (k.take j).filter (fun y => decide (¬ R y x))
theorem leftOf_step_keep {k : List α} {x y : α} {j : Nat} (h : k[j]? = some y) (hy : ¬ R y x) : leftOf R k x (j + 1) = leftOf R k x j ++ [y] := by
  unfold leftOf
  rw [filter_take h]
  simp [hy]
theorem leftOf_step_drop {k : List α} {x y : α} {j : Nat} (h : k[j]? = some y) (hy : R y x) : leftOf R k x (j + 1) = leftOf R k x j := by
  unfold leftOf
  rw [filter_take h]
  simp [hy]
theorem leftOf_le (k : List α) (x : α) (j : Nat) : (leftOf R k x j).length ≤ j := by
  unfold leftOf
  refine Nat.le_trans (List.length_filter_le _ _) ?_
  simp
  omega
structure Mid (R : α → α → Prop) (k : List α) (x : α) (W0 : List α) (j : Nat) (W : List α) : Prop where
  le : j ≤ k.length
  len : W.length = W0.length
  tk : W.take (leftOf R k x j).length = leftOf R k x j
  beh : ∀ i, j ≤ i → W[i]? = W0[i]?
theorem Mid.zero {k W0 : List α} {x : α} : Mid R k x W0 0 W0 := ⟨Nat.zero_le _, rfl, by simp [leftOf], fun _ _ => rfl⟩
theorem Mid.drop {k W0 W : List α} {x y : α} {j : Nat} (h : Mid R k x W0 j W) (hy : k[j]? = some y) (hR : R y x) : Mid R k x W0 (j + 1) W ∧ leftOf R k x (j + 1) = leftOf R k x j := by
  have e := leftOf_step_drop hy hR
  have := (List.getElem?_eq_some_iff.1 hy).1
  exact ⟨⟨by omega, h.len, by rw [e]; exact h.tk, fun i hi => h.beh i (by omega)⟩, e⟩
theorem take_set_end {W : List α} {m : Nat} {F : List α} {y : α} (hm : F.length = m) (h : W.take m = F) (hl : m < W.length) : (W.set m y).take (m + 1) = F ++ [y] := by
  rw [List.take_add_one, List.getElem?_set_self hl, List.take_set]
  rw [h, List.set_eq_of_length_le (by omega)]
  rfl
theorem Mid.keep {k W0 W : List α} {x y : α} {j : Nat} (h : Mid R k x W0 j W) (hkw : k.length ≤ W0.length) (hy : k[j]? = some y) (hR : ¬ R y x) :
    Mid R k x W0 (j + 1) (W.set (leftOf R k x j).length y) ∧ leftOf R k x (j + 1) = leftOf R k x j ++ [y] ∧ (leftOf R k x j).length < W.length := by
  have e := leftOf_step_keep hy hR
  have hj := (List.getElem?_eq_some_iff.1 hy).1
  have hle := leftOf_le (R := R) k x j
  have hlt : (leftOf R k x j).length < W.length := by rw [h.len]; omega
  refine ⟨⟨by omega, by simp [h.len], ?_, fun i hi => ?_⟩, e, hlt⟩
  · rw [e, List.length_append]
    exact take_set_end rfl h.tk hlt
  · rw [List.getElem?_set_ne (by omega)]
    exact h.beh i (by omega)
theorem Mid.get {k W0 W : List α} {x : α} {j : Nat} (h : Mid R k x W0 j W) (h0 : W0.take k.length = k) (hj : j < k.length) : W[j]? = k[j]? := by
  rw [h.beh j (Nat.le_refl _)]
  have := congrArg (fun z : List α => z[j]?) h0
  simp only [List.getElem?_take, if_pos hj] at this
  exact this
theorem leftOf_all (k : List α) (x : α) (h : ∀ y ∈ k, ¬ R x y) : leftOf R k x k.length ++ [x] = addG R k x := by
  rw [addG_out h]
  unfold leftOf
  rw [List.take_length]
theorem Kept.step {l : List α} {i : Nat} {W W' : List α} {x : α} (h : Kept R l i W) (hx : l[i]? = some x) (hno : ∀ y ∈ grG R (l.take i), ¬ R x y) (hW : Mid R (grG R (l.take i)) x W (grG R (l.take i)).length W') :
    grG R (l.take (i + 1)) = leftOf R (grG R (l.take i)) x (grG R (l.take i)).length ++ [x] ∧
    ((leftOf R (grG R (l.take i)) x (grG R (l.take i)).length).length < W'.length → Kept R l (i + 1) (W'.set (leftOf R (grG R (l.take i)) x (grG R (l.take i)).length).length x)) ∧
    ((leftOf R (grG R (l.take i)) x (grG R (l.take i)).length).length = W'.length → Kept R l (i + 1) (W' ++ [x])) := by
  have e : grG R (l.take (i + 1)) = leftOf R (grG R (l.take i)) x (grG R (l.take i)).length ++ [x] := by rw [grG_take hx, leftOf_all _ _ hno]
  have hi := (List.getElem?_eq_some_iff.1 hx).1
  have hw := h.w
  have hlw := hW.len
  refine ⟨e, fun hlt => ⟨by omega, ?_, ?_, by simp; omega⟩, fun heq => ⟨by omega, ?_, ?_, by simp; omega⟩⟩
  · rw [e, List.length_append]
    exact take_set_end rfl hW.tk hlt
  · rw [e, List.length_append]
    simp
    omega
  · rw [e, List.length_append]
    have := hW.tk
    rw [heq, List.take_length] at this
    rw [heq, ← this]
    exact List.take_of_length_le (by simp)
  · rw [e, List.length_append]
    simp
    omega
end
end Go.Proofs.YtaiondckookpiaaGreatDoor
namespace Go.Proofs.YtaiondckookpiaaGreatDoor
open Go Go.Vx
theorem metL_app (p : Str) (a b : List Str) : metL p (a ++ b) = metL p a ++ metL p b := by simp [metL]
theorem metL_none {p m : Str} (h : meetT m p = none) : metL p [m] = [] := by simp [metL, h]
theorem metL_some {p m c : Str} (h : meetT m p = some c) : metL p [m] = [c] := by simp [metL, h]
theorem metL_le (p : Str) (a : List Str) : (metL p a).length ≤ a.length := by
  unfold metL
  exact List.length_filterMap_le _ _
theorem perm_map_ex {α β : Type} {f : α → β} : ∀ {ys m : List β}, ys.Perm m → ∀ l : List α, m = l.map f → ∃ zs : List α, zs.Perm l ∧ ys = zs.map f := by
  intro ys m h
  induction h with
  | nil => intro l hl; exact ⟨l, .refl l, hl⟩
  | cons x h ih =>
    intro l hl
    cases l with
    | nil => cases hl
    | cons a l =>
      simp only [List.map_cons, List.cons.injEq] at hl
      obtain ⟨zs, h1, h2⟩ := ih l hl.2
      exact ⟨a :: zs, h1.cons a, by rw [List.map_cons, ← hl.1, h2]⟩
  | swap x y r =>
    intro l hl
    match l, hl with
    | a :: b :: l, hl =>
      simp only [List.map_cons, List.cons.injEq] at hl
      refine ⟨b :: a :: l, .swap a b l, ?_⟩
      rw [List.map_cons, List.map_cons, hl.1, hl.2.1, hl.2.2]
  | trans h1 h2 ih1 ih2 =>
    intro l hl
    obtain ⟨z1, a1, a2⟩ := ih2 l hl
    obtain ⟨z2, b1, b2⟩ := ih1 z1 a2
    exact ⟨z2, b1.trans a1, b2⟩
theorem flat_len {l : List Str} {n : Nat} (h : ∀ x ∈ l, x.length ≤ n) : l.flatten.length ≤ l.length * n := by
  induction l with
  | nil => simp
  | cons x l ih =>
    have := ih fun y hy => h y (by simp [hy])
    have := h x (by simp)
    rw [List.flatten_cons, List.length_append, List.length_cons, Nat.add_mul]
    omega
theorem take_snoc {α : Type} {l : List α} {i : Nat} {x : α} (h : l[i]? = some x) : l.take (i + 1) = l.take i ++ [x] := by
  rw [List.take_add_one, h]; rfl
theorem over_set {α : Type} {ks W : List α} {i : Nat} {x : α} (h : ks[i]? = some x) (hl : ks.length ≤ W.length) : (ks.take i ++ W.drop i).set i x = ks.take (i + 1) ++ W.drop (i + 1) := by
  have hi := (List.getElem?_eq_some_iff.1 h).1
  rw [List.set_append, if_neg (by simp; omega), take_snoc h, List.append_assoc]
  congr 1
  rw [show i - (ks.take i).length = 0 by simp; omega]
  rw [List.drop_eq_getElem_cons (show i < W.length by omega)]
  rfl
theorem over_at {α : Type} {ks W : List α} {i : Nat} (hi : i < ks.length) (hl : ks.length ≤ W.length) : ∃ y, (ks.take i ++ W.drop i)[i]? = some y := by
  refine ⟨W[i]'(by omega), ?_⟩
  rw [List.getElem?_append_right (by simp; omega)]
  simp
  rw [show i - min i ks.length = 0 by omega, Nat.add_zero]
  exact List.getElem?_eq_getElem _
theorem room_at2 {α : Type} {ks : List α} {i n : Nat} (z : α) (hn : ks.length = n) (hi : i < n) : (ks.take i ++ List.replicate (n - i) z)[i]? = some z := by
  rw [List.getElem?_append_right (by simp; omega)]
  simp [List.getElem?_replicate]
  omega
theorem room_set2 {α : Type} {ks : List α} {i n : Nat} {z x : α} (hn : ks.length = n) (h : ks[i]? = some x) : (ks.take i ++ List.replicate (n - i) z).set i x = ks.take (i + 1) ++ List.replicate (n - (i + 1)) z := by
  have hi := (List.getElem?_eq_some_iff.1 h).1
  rw [List.set_append, if_neg (by simp; omega), take_snoc h, List.append_assoc]
  congr 1
  rw [show i - (ks.take i).length = 0 by simp; omega, show n - i = (n - (i + 1)) + 1 by omega, List.replicate_succ]
  rfl
theorem set_set_same {α : Type} (l : List α) (i : Nat) (x y : α) : (l.set i x).set i y = l.set i y := by simp
end Go.Proofs.YtaiondckookpiaaGreatDoor
namespace Go.Proofs.YtaiondckookpiaaGreatDoor
open Go Go.Vx
theorem meetL_snoc : ∀ {c d : Str} {a b : UInt8}, c.length = d.length → meetL (c ++ [a]) (d ++ [b]) = match meetL c d, meet1 a b with | some m, some x => some (m ++ [x]) | _, _ => none
  | [], [], a, b, _ => by
    cases h : meet1 a b <;> simp [meetL, h]
  | [], _ :: _, _, _, h => by simp at h
  | _ :: _, [], _, _, h => by simp at h
  | x :: c, y :: d, a, b, h => by
    have ih := meetL_snoc (c := c) (d := d) (a := a) (b := b) (by simpa using h)
    simp only [List.cons_append, meetL, ih]
    cases meet1 x y <;> cases meetL c d <;> cases meet1 a b <;> simp
theorem meetL_step {c d m : Str} {i : Nat} {a b x : UInt8} (ha : c[i]? = some a) (hb : d[i]? = some b) (hm : meetL (c.take i) (d.take i) = some m) (hx : meet1 a b = some x) : meetL (c.take (i + 1)) (d.take (i + 1)) = some (m ++ [x]) := by
  have h1 := (List.getElem?_eq_some_iff.1 ha).1
  have h2 := (List.getElem?_eq_some_iff.1 hb).1
  rw [take_snoc ha, take_snoc hb, meetL_snoc (by simp; omega), hm, hx]
theorem meetL_stop {c d : Str} {i : Nat} {a b : UInt8} (ha : c[i]? = some a) (hb : d[i]? = some b) (hx : meet1 a b = none) : meetL c d = none := by
  cases h : meetL c d with
  | none => rfl
  | some m =>
    obtain ⟨x, _, h2⟩ := meetL_get h i a b ha hb
    rw [hx] at h2
    cases h2
theorem inL_iff : ∀ {c d : Str}, inL c d ↔ c.length = d.length ∧ ∀ (i : Nat) a b, c[i]? = some a → d[i]? = some b → b = 120 ∨ b = a
  | [], [] => by simp [inL]
  | [], _ :: _ => by simp [inL]
  | _ :: _, [] => by simp [inL]
  | a :: c, b :: d => by
    simp only [inL, inL_iff (c := c) (d := d), List.length_cons, Nat.add_right_cancel_iff]
    constructor
    · rintro ⟨h1, h2, h3⟩
      refine ⟨h2, fun i x y hx hy => ?_⟩
      cases i with
      | zero => simp at hx hy; subst hx hy; exact h1
      | succ i => exact h3 i x y (by simpa using hx) (by simpa using hy)
    · rintro ⟨h2, h3⟩
      exact ⟨h3 0 a b rfl rfl, h2, fun i x y hx hy => h3 (i + 1) x y (by simpa using hx) (by simpa using hy)⟩
theorem fill2_at {m : Str} {i n : Nat} (hm : m.length = i) (hi : i < n) : (m ++ List.replicate (n - i) (0 : UInt8))[i]? = some 0 := by
  rw [List.getElem?_append_right (by omega)]
  simp [List.getElem?_replicate]
  omega
theorem fill2_set {m : Str} {i n : Nat} {b y : UInt8} (hm : m.length = i) (hi : i < n) : ((m ++ List.replicate (n - i) (0 : UInt8)).set i y).set i b = (m ++ [b]) ++ List.replicate (n - (i + 1)) 0 := by
  rw [List.set_set, List.set_append, if_neg (by omega), show n - i = (n - (i + 1)) + 1 by omega, List.replicate_succ, show i - m.length = 0 by omega, List.set_cons_zero]
  simp
theorem fill2_set1 {m : Str} {i n : Nat} {b : UInt8} (hm : m.length = i) (hi : i < n) : (m ++ List.replicate (n - i) (0 : UInt8)).set i b = (m ++ [b]) ++ List.replicate (n - (i + 1)) 0 := by
  have := fill2_set (b := b) (y := b) hm hi
  rwa [List.set_set] at this
open Classical in
theorem putG_in {α : Type} {R L : α → α → Prop} {k : List α} {c : α} (h : ∃ y ∈ k, R c y) : putG R L k c = k := by
  unfold putG
  rw [if_pos h]
open Classical in
noncomputable def nb {α : Type} (R : α → α → Prop) (c : α) (l : List α) : List α := l.filter fun x => decide (¬ R x c)
structure PutSt {α : Type} (R L : α → α → Prop) (k : List α) (c : α) (i : Nat) (m : List α) (done : Prop) : Prop where
  yes : done → m = insG L c (nb R c (k.take i)) ∧ ∃ x ∈ nb R c (k.take i), L c x
  no : ¬ done → m = nb R c (k.take i) ∧ ∀ x ∈ nb R c (k.take i), ¬ L c x
open Classical in
theorem insG_end {α : Type} {L : α → α → Prop} {c : α} : ∀ {l : List α}, (∀ x ∈ l, ¬ L c x) → insG L c l = l ++ [c]
  | [], _ => rfl
  | x :: l, h => by
    unfold insG
    rw [if_neg (h x (by simp)), insG_end fun y hy => h y (by simp [hy])]
    rfl
open Classical in
theorem insG_more {α : Type} {L : α → α → Prop} {c : α} : ∀ {l m : List α}, (∃ x ∈ l, L c x) → insG L c (l ++ m) = insG L c l ++ m
  | [], _, h => by obtain ⟨x, hx, _⟩ := h; simp at hx
  | x :: l, m, h => by
    by_cases hx : L c x
    · show insG L c (x :: (l ++ m)) = insG L c (x :: l) ++ m
      unfold insG
      rw [if_pos hx, if_pos hx]
      rfl
    · have ih := insG_more (L := L) (c := c) (l := l) (m := m) (by
        obtain ⟨y, hy, hl⟩ := h
        rcases List.mem_cons.1 hy with rfl | hy
        · exact absurd hl hx
        · exact ⟨y, hy, hl⟩)
      have e1 : ∀ q : List α, insG L c (x :: q) = x :: insG L c q := fun q => by
        conv => lhs; unfold insG
        rw [if_neg hx]
      show insG L c (x :: (l ++ m)) = insG L c (x :: l) ++ m
      rw [e1, e1, ih]
      rfl
open Classical in
theorem insG_at {α : Type} {L : α → α → Prop} {c x : α} {l : List α} (h : ∀ y ∈ l, ¬ L c y) (hx : L c x) : insG L c (l ++ [x]) = l ++ [c, x] := by
  induction l with
  | nil => simp [insG, hx]
  | cons y l ih =>
    show insG L c (y :: (l ++ [x])) = _
    unfold insG
    rw [if_neg (h y (by simp)), ih fun z hz => h z (by simp [hz])]
    rfl
section
variable {α : Type} {R L : α → α → Prop} {k : List α} {c : α} {i : Nat} {m : List α} {done : Prop}
open Classical in
theorem nb_in {x : α} (h : k[i]? = some x) (hR : R x c) : nb R c (k.take (i + 1)) = nb R c (k.take i) := by
  unfold nb
  rw [take_snoc h, List.filter_append]
  simp [hR]
open Classical in
theorem nb_out {x : α} (h : k[i]? = some x) (hR : ¬ R x c) : nb R c (k.take (i + 1)) = nb R c (k.take i) ++ [x] := by
  unfold nb
  rw [take_snoc h, List.filter_append]
  simp [hR]
theorem PutSt.zero : PutSt R L k c 0 [] False := ⟨fun h => h.elim, fun _ => ⟨by simp [nb], by simp [nb]⟩⟩
theorem PutSt.skip {x : α} (h : PutSt R L k c i m done) (hx : k[i]? = some x) (hR : R x c) : PutSt R L k c (i + 1) m done := by
  have e := nb_in hx hR
  exact ⟨fun hd => by rw [e]; exact h.yes hd, fun hd => by rw [e]; exact h.no hd⟩
theorem PutSt.old {x : α} (h : PutSt R L k c i m done) (hx : k[i]? = some x) (hR : ¬ R x c) (hd : done ∨ ¬ L c x) : PutSt R L k c (i + 1) (m ++ [x]) done := by
  have e := nb_out hx hR
  refine ⟨fun hd => ?_, fun hn => ?_⟩
  · obtain ⟨h1, h2⟩ := h.yes hd
    rw [e, insG_more h2, ← h1]
    obtain ⟨y, hy, hl⟩ := h2
    exact ⟨rfl, y, by simp [hy], hl⟩
  · obtain ⟨h1, h2⟩ := h.no hn
    rw [e, ← h1]
    refine ⟨rfl, fun y hy => ?_⟩
    rcases List.mem_append.1 hy with hy | hy
    · exact h2 y (by rw [← h1]; exact hy)
    · simp at hy; subst hy; exact hd.resolve_left hn
theorem PutSt.new {x : α} (h : PutSt R L k c i m done) (hx : k[i]? = some x) (hR : ¬ R x c) (hn : ¬ done) (hl : L c x) : PutSt R L k c (i + 1) (m ++ [c] ++ [x]) True := by
  have e := nb_out hx hR
  obtain ⟨h1, h2⟩ := h.no hn
  refine ⟨fun _ => ?_, fun h => absurd trivial h⟩
  rw [e, insG_at h2 hl, h1]
  exact ⟨by simp, x, by simp, hl⟩
open Classical in
theorem PutSt.fin (h : PutSt R L k c k.length m done) (hno : ¬ ∃ y ∈ k, R c y) : putG R L k c = if done then m else m ++ [c] := by
  unfold putG
  rw [if_neg hno]
  show insG L c (nb R c k) = _
  by_cases hd : done
  · rw [if_pos hd, (h.yes hd).1, List.take_length]
  · rw [if_neg hd]
    have := h.no hd
    rw [List.take_length] at this
    rw [insG_end this.2, this.1]
end
end Go.Proofs.YtaiondckookpiaaGreatDoor
namespace Go.Proofs.YtaiondckookpiaaGreatDoor
open Go Go.Vx
theorem lexL_cons (x : Str) (a b : List Str) : lexL (x :: a) (x :: b) ↔ lexL a b := by simp [lexL, bl_irrefl]
theorem lexL_split : ∀ {i : Nat} {a b : List Str}, a.take i = b.take i → i ≤ a.length → i ≤ b.length → (lexL a b ↔ lexL (a.drop i) (b.drop i))
  | 0, a, b, _, _, _ => by simp
  | i + 1, [], _, _, h, _ => by simp at h
  | i + 1, _ :: _, [], _, _, h => by simp at h
  | i + 1, x :: a, y :: b, h, h1, h2 => by
    simp only [List.take_succ_cons, List.cons.injEq] at h
    obtain ⟨rfl, h⟩ := h
    rw [lexL_cons, lexL_split h (by simpa using h1) (by simpa using h2)]
    rfl
theorem lexL_differ {a b : List Str} {i : Nat} {x y : Str} (h : a.take i = b.take i) (hx : a[i]? = some x) (hy : b[i]? = some y) (hne : x ≠ y) : lexL a b ↔ Op.bytesLess x y = true := by
  have h1 := (List.getElem?_eq_some_iff.1 hx).1
  have h2 := (List.getElem?_eq_some_iff.1 hy).1
  rw [lexL_split h (by omega) (by omega), List.drop_eq_getElem_cons h1, List.drop_eq_getElem_cons h2]
  have e1 : a[i] = x := (List.getElem?_eq_some_iff.1 hx).2
  have e2 : b[i] = y := (List.getElem?_eq_some_iff.1 hy).2
  rw [e1, e2]
  simp [lexL, hne]
theorem lexL_end {a b : List Str} {i : Nat} (h : a.take i = b.take i) (h1 : i ≤ a.length) (h2 : i ≤ b.length) (he : i = a.length ∨ i = b.length) : lexL a b ↔ a.length < b.length := by
  rw [lexL_split h h1 h2]
  rcases he with e | e
  · have e1 : a.drop i = [] := List.drop_of_length_le (by omega)
    rw [e1]
    cases hb : b.drop i with
    | nil =>
      have := congrArg List.length hb
      simp at this
      simp [lexL]
      omega
    | cons y r =>
      have := congrArg List.length hb
      simp at this
      simp [lexL]
      omega
  · have e1 : b.drop i = [] := List.drop_of_length_le (by omega)
    rw [e1]
    constructor
    · intro h; cases ha : a.drop i <;> rw [ha] at h <;> simp [lexL] at h
    · intro h; omega
theorem set_perm {α : Type} : ∀ {l : List α} {j : Nat} {x y : α}, l[j]? = some y → (y :: l.set j x).Perm (x :: l)
  | [], _, _, _, h => by simp at h
  | a :: l, 0, x, y, h => by simp at h; subst h; exact .swap x a l
  | a :: l, j + 1, x, y, h => by
    have ih := set_perm (l := l) (j := j) (x := x) (y := y) (by simpa using h)
    exact (List.Perm.swap a y _).trans ((ih.cons a).trans (.swap x a l))
theorem swapdel {α : Type} {l : List α} {j : Nat} {y z : α} (hy : l[j]? = some y) (hz : l[l.length - 1]? = some z) : (y :: (l.set j z).take (l.length - 1)).Perm l := by
  have hj := (List.getElem?_eq_some_iff.1 hy).1
  have hsplit : l = l.take (l.length - 1) ++ [z] := by
    have := take_snoc hz
    rw [show l.length - 1 + 1 = l.length by omega, List.take_length] at this
    exact this
  generalize hI : l.take (l.length - 1) = I at hsplit
  have hIl : I.length = l.length - 1 := by rw [← hI]; simp
  by_cases hjl : j = l.length - 1
  · subst hjl
    rw [hy] at hz
    cases hz
    have : (l.set (l.length - 1) y).take (l.length - 1) = I := by rw [List.take_set, hI, List.set_eq_of_length_le (by omega)]
    rw [this]
    conv => rhs; rw [hsplit]
    exact (List.perm_append_singleton y I).symm
  · have h1 : (l.set j z).take (l.length - 1) = I.set j z := by rw [List.take_set, hI]
    rw [h1]
    have h2 : I[j]? = some y := by
      rw [← hI, List.getElem?_take, if_pos (by omega)]
      exact hy
    refine (set_perm h2).trans ?_
    conv => rhs; rw [hsplit]
    exact (List.perm_append_singleton z I).symm
section
variable {α : Type} {f : α → Term}
structure Sel (f : α → Term) (K S W : List α) (m : Nat) : Prop where
  le : m ≤ W.length
  perm : (S ++ W.take m).Perm K
  sort : S.Pairwise fun a b => aheadT (f a) (f b)
  low : ∀ s ∈ S, ∀ y ∈ W.take m, aheadT (f s) (f y)
theorem Sel.zero {K : List α} : Sel f K [] K K.length := ⟨Nat.le_refl _, by simp, by simp, by simp⟩
theorem Sel.step {K S W : List α} {m j : Nat} {y z : α} (h : Sel f K S W m) (hnd : K.Pairwise fun a b => f a ≠ f b) (hy : W[j]? = some y) (hj : j < m) (hz : W[m - 1]? = some z) (hmin : ∀ i, i < m → ∀ x, W[i]? = some x → ¬ aheadT (f x) (f y)) :
    Sel f K (S ++ [y]) (W.set j z) (m - 1) := by
  have hle := h.le
  generalize hl : W.take m = l at *
  have hll : l.length = m := by rw [← hl]; simp; omega
  have hly : l[j]? = some y := by rw [← hl, List.getElem?_take, if_pos hj]; exact hy
  have hlz : l[l.length - 1]? = some z := by rw [hll, ← hl, List.getElem?_take, if_pos (by omega)]; exact hz
  have hp := swapdel hly hlz
  have e : (W.set j z).take (m - 1) = (l.set j z).take (l.length - 1) := by
    rw [hll, ← hl, ← List.take_set, List.take_take, Nat.min_eq_left (by omega)]
  have hperm := h.perm
  rw [hl] at hperm
  have hndl : (y :: (l.set j z).take (l.length - 1)).Pairwise fun a b => f a ≠ f b := by
    have h1 : (S ++ l).Pairwise fun a b => f a ≠ f b := (hperm.pairwise_iff fun {a b} hab => Ne.symm hab).2 hnd
    exact (hp.pairwise_iff fun {a b} hab => Ne.symm hab).2 (List.pairwise_append.1 h1).2.1
  have hlow := h.low
  rw [hl] at hlow
  have hyl : y ∈ l := List.mem_of_getElem? hly
  refine ⟨by simp; omega, ?_, ?_, ?_⟩
  · rw [e, List.append_assoc]
    exact (hp.append_left S).trans hperm
  · rw [List.pairwise_append]
    refine ⟨h.sort, by simp, fun a ha b hb => ?_⟩
    simp at hb
    subst hb
    exact hlow a ha b hyl
  · rw [e]
    intro s hs x hx
    have hxl : x ∈ l := hp.mem_iff.1 (List.mem_cons_of_mem _ hx)
    rcases List.mem_append.1 hs with hs | hs
    · exact hlow s hs x hxl
    · simp at hs
      subst hs
      have hne := (List.pairwise_cons.1 hndl).1 x hx
      obtain ⟨i, hi, hix⟩ := List.getElem_of_mem hxl
      have h2 : W[i]? = some x := by
        have : l[i]? = some x := by rw [List.getElem?_eq_getElem hi, hix]
        rw [← hl, List.getElem?_take, if_pos (by omega)] at this
        exact this
      rcases ahead_total hne with k | k
      · exact k
      · exact absurd k (hmin i (by omega) x h2)
theorem Sel.fin {K S W : List α} (h : Sel f K S W 0) : S.Perm K ∧ S.Pairwise fun a b => aheadT (f a) (f b) := by
  have := h.perm
  simp at this
  exact ⟨this, h.sort⟩
end
theorem formT_sel {l k : List Term} {n : Nat} (hl : ∀ t ∈ l, t.Ok n) (hp : k.Perm (grG covT l)) (hs : k.Pairwise aheadT) : k = formT l := by
  have ha := grG_anti covT_trans l fun t ht => covT_refl (hl t ht)
  have hok : ∀ t ∈ grG covT l, t.Ok n := fun t ht => hl t (ha.sub t ht)
  have tot : (grG covT l).Pairwise fun x y => x ≠ y := ha.anti.imp_of_mem fun {a b} hma _ hab e => hab.1 (by rw [← e]; exact covT_refl (hok a hma))
  exact srt_uniq ahead_irrefl ahead_trans (tot.imp ahead_total) hp hs
theorem grG_differ {l : List Term} {n : Nat} (hl : ∀ t ∈ l, t.Ok n) : (grG covT l).Pairwise fun x y => x ≠ y := by
  have ha := grG_anti covT_trans l fun t ht => covT_refl (hl t ht)
  exact ha.anti.imp_of_mem fun {a b} hma _ hab e => hab.1 (by rw [← e]; exact covT_refl (hl a (ha.sub a hma)))
end Go.Proofs.YtaiondckookpiaaGreatDoor
namespace Go.Proofs.YtaiondckookpiaaGreatDoor
open Go Go.Vx
def tTail (l : List Str) : Str := (l.map fun m => (45 : UInt8) :: m).flatten
def ttxt (t : Term) : Str := t.p ++ tTail t.less
def sepT (l : List Term) : Str := ((l.map fun t => (43 : UInt8) :: ttxt t).flatten).drop 1
open Classical in
noncomputable def textS (l : List Term) : Str := if l = [] then [110, 111, 110, 101] else sepT l
def preT (l : List Term) (i : Nat) : Str := if i = 0 then [] else sepT (l.take i) ++ [43]
theorem tTail_snoc {l : List Str} {j : Nat} {m : Str} (h : l[j]? = some m) : tTail (l.take (j + 1)) = tTail (l.take j) ++ [45] ++ m := by
  unfold tTail
  rw [take_snoc h]
  simp
theorem sepT_step {l : List Term} {i : Nat} {t : Term} (h : l[i]? = some t) : sepT (l.take (i + 1)) = preT l i ++ ttxt t := by
  have hi := (List.getElem?_eq_some_iff.1 h).1
  unfold preT
  split
  · rename_i h0
    subst h0
    rw [take_snoc h]
    simp [sepT]
  · rename_i h0
    rw [take_snoc h]
    unfold sepT
    rw [List.map_append, List.flatten_append, List.drop_append_of_le_length]
    · simp
    · cases l with
      | nil => simp at h
      | cons a r =>
        cases i with
        | zero => exact absurd rfl h0
        | succ i => simp
theorem sepT_nil : sepT [] = [] := rfl
def szS (l : List Term) : Nat := (l.map fun t => 1 + t.less.length).sum
theorem tTail_len {l : List Str} (h : ∀ m ∈ l, m.length ≤ 256) : (tTail l).length ≤ 257 * l.length := by
  induction l with
  | nil => simp [tTail]
  | cons m l ih =>
    have h1 := ih fun x hx => h x (by simp [hx])
    have h2 := h m (by simp)
    unfold tTail at h1 ⊢
    rw [List.map_cons, List.flatten_cons, List.length_append, List.length_cons, List.length_cons]
    omega
theorem ttxt_len {t : Term} (hp : t.p.length ≤ 256) (h : ∀ m ∈ t.less, m.length ≤ 256) : (ttxt t).length ≤ 257 * (1 + t.less.length) - 1 := by
  have := tTail_len h
  unfold ttxt
  rw [List.length_append]
  omega
theorem sepT_len {l : List Term} (h : ∀ t ∈ l, t.p.length ≤ 256 ∧ ∀ m ∈ t.less, m.length ≤ 256) : (sepT l).length ≤ 257 * szS l := by
  have key : ((l.map fun t => (43 : UInt8) :: ttxt t).flatten).length ≤ 257 * szS l := by
    induction l with
    | nil => simp
    | cons t l ih =>
      have h1 := ih fun x hx => h x (by simp [hx])
      have h2 := ttxt_len (h t (by simp)).1 (h t (by simp)).2
      simp only [szS, List.map_cons, List.flatten_cons, List.length_append, List.length_cons, List.sum_cons] at h1 ⊢
      rw [Nat.mul_add]
      omega
  unfold sepT
  rw [List.length_drop]
  omega
theorem szS_take (l : List Term) (i : Nat) : szS (l.take i) ≤ szS l := by
  unfold szS
  conv => rhs; rw [← List.take_append_drop i l]
  rw [List.map_append, List.sum_append]
  omega
theorem szS_mem {l : List Term} {t : Term} (h : t ∈ l) : 1 + t.less.length ≤ szS l := by
  unfold szS
  induction l with
  | nil => simp at h
  | cons a l ih =>
    simp only [List.map_cons, List.sum_cons]
    rcases List.mem_cons.1 h with rfl | h
    · omega
    · have := ih h; omega
theorem szS_len (l : List Term) : l.length ≤ szS l := by
  unfold szS
  induction l with
  | nil => simp
  | cons a l ih => simp only [List.map_cons, List.sum_cons, List.length_cons]; omega
theorem key_at {n : Nat} {p : Str} : ∀ {less : List Str} {j : Nat} {m : Str}, p.length = n → (∀ x ∈ less, x.length = n) → less[j]? = some m → ((p ++ less.flatten).take (n * (j + 1) + n)).drop (n * (j + 1)) = m
  | [], j, m, _, _, h => by simp at h
  | x :: less, 0, m, hp, hl, h => by
    simp at h
    subst h
    have hx := hl x (by simp)
    rw [List.flatten_cons, ← List.append_assoc, show n * (0 + 1) + n = (p ++ x).length by simp [hp, hx]]
    rw [List.take_left', show n * (0 + 1) = p.length by simp [hp]]
    · exact List.drop_left' rfl
    · rfl
  | x :: less, j + 1, m, hp, hl, h => by
    have hx := hl x (by simp)
    have ih := key_at (p := x) (less := less) (j := j) (m := m) hx (fun y hy => hl y (by simp [hy])) (by simpa using h)
    rw [List.flatten_cons]
    have e1 : n * (j + 1 + 1) = p.length + n * (j + 1) := by rw [hp, Nat.mul_add n (j + 1) 1]; omega
    rw [e1, Nat.add_assoc, List.take_append]
    rw [List.take_of_length_le (by omega), show p.length + (n * (j + 1) + n) - p.length = n * (j + 1) + n by omega, List.drop_append, List.drop_of_length_le (by omega), List.nil_append,
      show p.length + n * (j + 1) - p.length = n * (j + 1) by omega]
    exact ih
theorem key_head {n : Nat} {p : Str} {less : List Str} (hp : p.length = n) : (p ++ less.flatten).take n = p := List.take_left' hp
theorem key_len {n : Nat} {p : Str} {less : List Str} (hp : p.length = n) (h : ∀ x ∈ less, x.length = n) : (p ++ less.flatten).length = n * (less.length + 1) := by
  rw [List.length_append, hp, Nat.mul_add, Nat.mul_one, Nat.add_comm]
  congr 1
  induction less with
  | nil => simp
  | cons x l ih =>
    have := ih fun y hy => h y (by simp [hy])
    rw [List.flatten_cons, List.length_append, h x (by simp), this, List.length_cons, Nat.mul_add]
    omega
end Go.Proofs.YtaiondckookpiaaGreatDoor
namespace Go.Proofs.YtaiondckookpiaaGreatDoor
open Go Go.Vx
def okC (t : Str) : Prop := CT t ∧ t ≠ []
open Classical in
noncomputable def zer (t : Str) : Str := if okC t then t else []
open Classical in
noncomputable def perr (t : Str) : Int := if 256 < t.length then 2 else if okC t then 0 else 10
theorem zer_of {t : Str} (h : okC t) : zer t = t := by unfold zer; rw [if_pos h]
theorem zer_not {t : Str} (h : ¬ okC t) : zer t = [] := by unfold zer; rw [if_neg h]
theorem eqCube : EqT Tryz.prog 46 [.i .i64, .i .u64, .i .u64, .i .u64, .i .u64, .i .u64, .i .u64, .i .u64, .i .u64] := EqT.of_b tok (ti := _) rfl rfl (by kernel_rfl)
@[simp] theorem wof_car_nil (k : Nat) : wof (car []) k = 0#64 := BitVec.eq_of_getLsbD_eq fun i hi => by rw [wof_get _ _ _ hi]; simp [car]
@[simp] theorem wof_one_nil (k : Nat) : wof (one []) k = 0#64 := BitVec.eq_of_getLsbD_eq fun i hi => by rw [wof_get _ _ _ hi]; simp [one]
def cubOk (t : Str) : Prop := ∀ b ∈ t, b = 48 ∨ b = 49 ∨ b = 120
theorem cubOk_step {t : Str} {i : Nat} {b : UInt8} (h : cubOk (t.take i)) (hb : t[i]? = some b) (hd : b = 48 ∨ b = 49 ∨ b = 120) : cubOk (t.take (i + 1)) := by
  intro x hx
  rw [List.take_add_one, hb] at hx
  rcases List.mem_append.1 hx with hx | hx
  · exact h x hx
  · simp at hx; rw [hx]; exact hd
theorem u8_ne {b c : UInt8} (h : b ≠ c) : ¬ ((b.toNat : Nat) : Int) = ((c.toNat : Nat) : Int) := fun e => h (UInt8.toNat_inj.1 (by omega))
set_option maxHeartbeats 4000000 in
theorem parse_at (t : Str) : FSpec Tryz.prog T 45 [.s t] (fun d rows => d = .tup [.agg (crow (zer t)), .i .i64 (perr t)] ∧ rows = []) := by
  refine FSpec.of_ok tok Tryz.func45 rfl Tryz.call45 (by simp) ?_
  (try (conv => whnf)); repeat' (first | ((with_reducible_and_instances (first | refine nShr (by assumption) ?_ | refine nShl1' rfl (by assumption) ?_ | refine nAnd ?_ | refine nOr ?_ | refine nXor ?_ | refine nAndNot ?_ | refine nAnd1' rfl ?_)); conv => whnf) | refine Ok.seq ?_ | refine OkL.cons ?_ | ((first | refine Ok.region tok ?_ | refine Ok.region_draw tok follows (by kernel_rfl) ?_ | refine Ok.cond ?_); conv => whnf) | refine Ok.block ?_ | ((first | refine Ok.skip ?_ | refine Ok.exit ?_ | refine Ok.ret ?_ | refine nI ?_ | refine ix _ (by assumption) ?_ | refine ixI (by omega) (by assumption) ?_ | refine ix_new _ (by omega) fun _ _ => ?_ | refine ixI_new (by omega) (by omega) fun _ _ => ?_ | refine ⟨_, by assumption, ?_⟩ | refine Alt2.l (aI ?_) | refine Alt2.r (aI ?_)); conv => whnf) | (refine Ok.scope ?_) | ((first | refine Ok.label ?_ | refine rd rfl (by assumption) ?_ | refine ⟨_, .inl ⟨rfl, rfl⟩, ?_⟩ | refine ⟨_, _, rfl, rfl, ?_⟩); conv => whnf) | (refine ⟨fun _ => ?_, fun _ => ?_⟩ <;> (conv => whnf) <;> (try (exfalso; omega))) | ((first | refine aJ ?_ | refine num_any ?_ | refine ⟨_, rfl, ?_⟩); conv => whnf) | fail)
  · rename_i h
    refine Or.inl ?_; (conv => whnf)
    refine ⟨?_, rfl⟩
    rw [zer_not (fun h2 => by have := h2.1.len; omega), crow_nil]
    unfold perr
    rw [if_pos (by omega)]
    rfl
  · rename_i h0 h
    refine Or.inl ?_; (conv => whnf)
    refine ⟨?_, rfl⟩
    rw [zer_not (fun h2 => h2.2 h), crow_nil]
    unfold perr
    rw [if_neg (by omega), if_neg (fun h2 => h2.2 h)]
    rfl
  · rename_i h0 h1
    have hlen : t.length ≤ 256 := by omega
    have hne : t ≠ [] := h1
    refine Ok.loopU [0, 2, 4, 17] [18] 0 2 (fun (i : Nat) => [.i .i64 (i : Nat)]) (fun (i : Nat) (_ : List (List D)) => [[.i .i64 0, .i .u64 0, .i .u64 0, .i .u64 0, .i .u64 0, .i .u64 0, .i .u64 0, .i .u64 0, .i .u64 0], cells9 t.length (car (t.take i)) (one (t.take i))]) (fun _ r => r) (fun (i : Nat) => i ≤ t.length ∧ cubOk (t.take i)) (fun (i : Nat) => t.length - i) (0) (⟨Nat.zero_le _, by simp [cubOk]⟩) ?_; (conv => whnf); refine ⟨by ((conv => whnf); first | rfl | (simp [envCat, List.take_of_length_le, cells9]; done) | (simp [envCat, List.take_of_length_le, cells9]; rw [IntKind.wrap_i64]; omega)), ?_⟩
    rintro i ⟨hi, hok⟩
    (conv => whnf)
    by_cases hit : i < t.length
    · obtain ⟨b, hb⟩ : ∃ b, t[i]? = some b := ⟨_, List.getElem?_eq_getElem hit⟩
      have hbI : t[((i : Nat) : Int).toNat]? = some b := hb
      obtain ⟨q, r, hqr, hr, hq⟩ := split64 i (by omega)
      have hrem := rem64 hqr hr
      have hquo := quo64 hqr hr (by omega)
      have hrr : ((r : Nat) : Int) = ((r : Nat) : Int) ∧ r < 64 := ⟨rfl, hr⟩
      by_cases h49 : b = 49
      · subst h49
        have hn : (((49 : UInt8).toNat : Nat) : Int) = 49 := rfl
        rcases hq with rfl | rfl | rfl | rfl
        all_goals
          (try (conv => whnf)); repeat' (first | ((with_reducible_and_instances (first | refine nShr (by assumption) ?_ | refine nShl1' rfl (by assumption) ?_ | refine nAnd ?_ | refine nOr ?_ | refine nXor ?_ | refine nAndNot ?_ | refine nAnd1' rfl ?_)); conv => whnf) | refine Ok.seq ?_ | refine OkL.cons ?_ | ((first | refine Ok.region tok ?_ | refine ⟨_, (hquo.symm).symm, ?_⟩ | refine ⟨_, (hrem.symm).symm, ?_⟩ | refine Ok.region_draw tok follows (by kernel_rfl) ?_ | refine Ok.cond ?_); conv => whnf) | refine Ok.block ?_ | ((first | refine Ok.skip ?_ | refine Ok.exit ?_ | refine Ok.ret ?_ | refine nI ?_ | refine ix _ (by assumption) ?_ | refine ixI (by omega) (by assumption) ?_ | refine ix_new _ (by omega) fun _ _ => ?_ | refine ixI_new (by omega) (by omega) fun _ _ => ?_ | refine ⟨_, by assumption, ?_⟩ | refine Alt2.l (aI ?_) | refine Alt2.r (aI ?_)); conv => whnf) | (refine Ok.scope ?_) | ((first | refine Ok.label ?_ | refine rd rfl (by assumption) ?_ | refine ⟨_, .inl ⟨rfl, rfl⟩, ?_⟩ | refine ⟨_, _, rfl, rfl, ?_⟩); conv => whnf) | (refine ⟨fun _ => ?_, fun _ => ?_⟩ <;> (conv => whnf) <;> (try (exfalso; omega))) | ((first | refine aJ ?_ | refine num_any ?_ | refine ⟨_, rfl, ?_⟩); conv => whnf) | fail)
          refine Or.inr (Or.inr (Or.inl ?_)); (conv => whnf); refine ⟨_, _, Tryz.func101, rfl, Tryz.call101, ?_⟩; (conv => whnf)
          (try (conv => whnf)); repeat' (first | ((with_reducible_and_instances (first | refine nShr (by assumption) ?_ | refine nShl1' rfl (by assumption) ?_ | refine nAnd ?_ | refine nOr ?_ | refine nXor ?_ | refine nAndNot ?_ | refine nAnd1' rfl ?_)); conv => whnf) | refine Ok.seq ?_ | refine OkL.cons ?_ | ((first | refine Ok.region tok ?_ | refine Ok.region_plan (id := 0) tok follows [(5, 12, [])] [.q 0, .q 1, .q 2, .q 3, .q 4, .q 5, .q 6, .q 7, .q 8, .q 9, .q 10, .q 11, .l 12] (by kernel_rfl) ?_ | refine ⟨_, (hquo.symm).symm, ?_⟩ | refine ⟨_, (hrem.symm).symm, ?_⟩ | refine Ok.region_draw tok follows (by kernel_rfl) ?_ | refine Ok.cond ?_); conv => whnf) | refine Ok.block ?_ | ((first | refine Ok.skip ?_ | refine Ok.exit ?_ | refine Ok.ret ?_ | refine nI ?_ | refine ix _ (by assumption) ?_ | refine ixI (by omega) (by assumption) ?_ | refine ix_new _ (by omega) fun _ _ => ?_ | refine ixI_new (by omega) (by omega) fun _ _ => ?_ | refine ⟨_, by assumption, ?_⟩ | refine Alt2.l (aI ?_) | refine Alt2.r (aI ?_)); conv => whnf) | (refine Ok.scope ?_) | ((first | refine Ok.label ?_ | refine rd rfl (by assumption) ?_ | refine ⟨_, .inl ⟨rfl, rfl⟩, ?_⟩ | refine ⟨_, _, rfl, rfl, ?_⟩); conv => whnf) | (refine ⟨fun _ => ?_, fun _ => ?_⟩ <;> (conv => whnf) <;> (try (exfalso; omega))) | ((first | refine aJ ?_ | refine num_any ?_ | refine ⟨_, rfl, ?_⟩); conv => whnf) | fail)
          refine Or.inr (Or.inr (Or.inl ?_)); (conv => whnf); refine ⟨_, _, Tryz.func101, rfl, Tryz.call101, ?_⟩; (conv => whnf)
          (try (conv => whnf)); repeat' (first | ((with_reducible_and_instances (first | refine nShr (by assumption) ?_ | refine nShl1' rfl (by assumption) ?_ | refine nAnd ?_ | refine nOr ?_ | refine nXor ?_ | refine nAndNot ?_ | refine nAnd1' rfl ?_)); conv => whnf) | refine Ok.seq ?_ | refine OkL.cons ?_ | ((first | refine Ok.region tok ?_ | refine Ok.region_plan (id := 0) tok follows [(5, 12, [])] [.q 0, .q 1, .q 2, .q 3, .q 4, .q 5, .q 6, .q 7, .q 8, .q 9, .q 10, .q 11, .l 12] (by kernel_rfl) ?_ | refine ⟨_, (hquo.symm).symm, ?_⟩ | refine ⟨_, (hrem.symm).symm, ?_⟩ | refine Ok.region_draw tok follows (by kernel_rfl) ?_ | refine Ok.cond ?_); conv => whnf) | refine Ok.block ?_ | ((first | refine Ok.skip ?_ | refine Ok.exit ?_ | refine Ok.ret ?_ | refine nI ?_ | refine ix _ (by assumption) ?_ | refine ixI (by omega) (by assumption) ?_ | refine ix_new _ (by omega) fun _ _ => ?_ | refine ixI_new (by omega) (by omega) fun _ _ => ?_ | refine ⟨_, by assumption, ?_⟩ | refine Alt2.l (aI ?_) | refine Alt2.r (aI ?_)); conv => whnf) | (refine Ok.scope ?_) | ((first | refine Ok.label ?_ | refine rd rfl (by assumption) ?_ | refine ⟨_, .inl ⟨rfl, rfl⟩, ?_⟩ | refine ⟨_, _, rfl, rfl, ?_⟩); conv => whnf) | (refine ⟨fun _ => ?_, fun _ => ?_⟩ <;> (conv => whnf) <;> (try (exfalso; omega))) | ((first | refine aJ ?_ | refine num_any ?_ | refine ⟨_, rfl, ?_⟩); conv => whnf) | fail)
          refine ⟨i + 1, by omega, ⟨by omega, cubOk_step hok hb (by simp)⟩, ?_⟩
          have c0 := (put_word (f := car (t.take i)) (g := car (t.take (i + 1))) hqr hr (car_put hb rfl) 0).trans (by first | exact if_pos rfl | exact if_neg (by decide))
          have c1 := (put_word (f := car (t.take i)) (g := car (t.take (i + 1))) hqr hr (car_put hb rfl) 1).trans (by first | exact if_pos rfl | exact if_neg (by decide))
          have c2 := (put_word (f := car (t.take i)) (g := car (t.take (i + 1))) hqr hr (car_put hb rfl) 2).trans (by first | exact if_pos rfl | exact if_neg (by decide))
          have c3 := (put_word (f := car (t.take i)) (g := car (t.take (i + 1))) hqr hr (car_put hb rfl) 3).trans (by first | exact if_pos rfl | exact if_neg (by decide))
          have o0 := (put_word (f := one (t.take i)) (g := one (t.take (i + 1))) hqr hr (one_put hb) 0).trans (by first | exact if_pos rfl | exact if_neg (by decide))
          have o1 := (put_word (f := one (t.take i)) (g := one (t.take (i + 1))) hqr hr (one_put hb) 1).trans (by first | exact if_pos rfl | exact if_neg (by decide))
          have o2 := (put_word (f := one (t.take i)) (g := one (t.take (i + 1))) hqr hr (one_put hb) 2).trans (by first | exact if_pos rfl | exact if_neg (by decide))
          have o3 := (put_word (f := one (t.take i)) (g := one (t.take (i + 1))) hqr hr (one_put hb) 3).trans (by first | exact if_pos rfl | exact if_neg (by decide))
          (conv => whnf)
          simp only [envCat, cells9, c0, c1, c2, c3, o0, o1, o2, o3]
          rfl
      by_cases h48 : b = 48
      · subst h48
        have hn : (((48 : UInt8).toNat : Nat) : Int) = 48 := rfl
        rcases hq with rfl | rfl | rfl | rfl
        all_goals
          (try (conv => whnf)); repeat' (first | ((with_reducible_and_instances (first | refine nShr (by assumption) ?_ | refine nShl1' rfl (by assumption) ?_ | refine nAnd ?_ | refine nOr ?_ | refine nXor ?_ | refine nAndNot ?_ | refine nAnd1' rfl ?_)); conv => whnf) | refine Ok.seq ?_ | refine OkL.cons ?_ | ((first | refine Ok.region tok ?_ | refine ⟨_, (hquo.symm).symm, ?_⟩ | refine ⟨_, (hrem.symm).symm, ?_⟩ | refine Ok.region_draw tok follows (by kernel_rfl) ?_ | refine Ok.cond ?_); conv => whnf) | refine Ok.block ?_ | ((first | refine Ok.skip ?_ | refine Ok.exit ?_ | refine Ok.ret ?_ | refine nI ?_ | refine ix _ (by assumption) ?_ | refine ixI (by omega) (by assumption) ?_ | refine ix_new _ (by omega) fun _ _ => ?_ | refine ixI_new (by omega) (by omega) fun _ _ => ?_ | refine ⟨_, by assumption, ?_⟩ | refine Alt2.l (aI ?_) | refine Alt2.r (aI ?_)); conv => whnf) | (refine Ok.scope ?_) | ((first | refine Ok.label ?_ | refine rd rfl (by assumption) ?_ | refine ⟨_, .inl ⟨rfl, rfl⟩, ?_⟩ | refine ⟨_, _, rfl, rfl, ?_⟩); conv => whnf) | (refine ⟨fun _ => ?_, fun _ => ?_⟩ <;> (conv => whnf) <;> (try (exfalso; omega))) | ((first | refine aJ ?_ | refine num_any ?_ | refine ⟨_, rfl, ?_⟩); conv => whnf) | fail)
          refine Or.inr (Or.inr (Or.inl ?_)); (conv => whnf); refine ⟨_, _, Tryz.func101, rfl, Tryz.call101, ?_⟩; (conv => whnf)
          (try (conv => whnf)); repeat' (first | ((with_reducible_and_instances (first | refine nShr (by assumption) ?_ | refine nShl1' rfl (by assumption) ?_ | refine nAnd ?_ | refine nOr ?_ | refine nXor ?_ | refine nAndNot ?_ | refine nAnd1' rfl ?_)); conv => whnf) | refine Ok.seq ?_ | refine OkL.cons ?_ | ((first | refine Ok.region tok ?_ | refine Ok.region_plan (id := 0) tok follows [(5, 12, [])] [.q 0, .q 1, .q 2, .q 3, .q 4, .q 5, .q 6, .q 7, .q 8, .q 9, .q 10, .q 11, .l 12] (by kernel_rfl) ?_ | refine ⟨_, (hquo.symm).symm, ?_⟩ | refine ⟨_, (hrem.symm).symm, ?_⟩ | refine Ok.region_draw tok follows (by kernel_rfl) ?_ | refine Ok.cond ?_); conv => whnf) | refine Ok.block ?_ | ((first | refine Ok.skip ?_ | refine Ok.exit ?_ | refine Ok.ret ?_ | refine nI ?_ | refine ix _ (by assumption) ?_ | refine ixI (by omega) (by assumption) ?_ | refine ix_new _ (by omega) fun _ _ => ?_ | refine ixI_new (by omega) (by omega) fun _ _ => ?_ | refine ⟨_, by assumption, ?_⟩ | refine Alt2.l (aI ?_) | refine Alt2.r (aI ?_)); conv => whnf) | (refine Ok.scope ?_) | ((first | refine Ok.label ?_ | refine rd rfl (by assumption) ?_ | refine ⟨_, .inl ⟨rfl, rfl⟩, ?_⟩ | refine ⟨_, _, rfl, rfl, ?_⟩); conv => whnf) | (refine ⟨fun _ => ?_, fun _ => ?_⟩ <;> (conv => whnf) <;> (try (exfalso; omega))) | ((first | refine aJ ?_ | refine num_any ?_ | refine ⟨_, rfl, ?_⟩); conv => whnf) | fail)
          refine ⟨i + 1, by omega, ⟨by omega, cubOk_step hok hb (by simp)⟩, ?_⟩
          have c0 := (put_word (f := car (t.take i)) (g := car (t.take (i + 1))) hqr hr (car_put hb rfl) 0).trans (by first | exact if_pos rfl | exact if_neg (by decide))
          have c1 := (put_word (f := car (t.take i)) (g := car (t.take (i + 1))) hqr hr (car_put hb rfl) 1).trans (by first | exact if_pos rfl | exact if_neg (by decide))
          have c2 := (put_word (f := car (t.take i)) (g := car (t.take (i + 1))) hqr hr (car_put hb rfl) 2).trans (by first | exact if_pos rfl | exact if_neg (by decide))
          have c3 := (put_word (f := car (t.take i)) (g := car (t.take (i + 1))) hqr hr (car_put hb rfl) 3).trans (by first | exact if_pos rfl | exact if_neg (by decide))
          have o0 := one_same hb (by decide) 0
          have o1 := one_same hb (by decide) 1
          have o2 := one_same hb (by decide) 2
          have o3 := one_same hb (by decide) 3
          (conv => whnf)
          simp only [envCat, cells9, c0, c1, c2, c3, o0, o1, o2, o3]
          rfl
      have hn49 := u8_ne h49
      have hn48 := u8_ne h48
      have e49 : (((49 : UInt8).toNat : Nat) : Int) = 49 := rfl
      have e48 : (((48 : UInt8).toNat : Nat) : Int) = 48 := rfl
      rw [e49] at hn49
      rw [e48] at hn48
      by_cases h120 : b = 120
      · subst h120
        have hn : (((120 : UInt8).toNat : Nat) : Int) = 120 := rfl
        (try (conv => whnf)); repeat' (first | ((with_reducible_and_instances (first | refine nShr (by assumption) ?_ | refine nShl1' rfl (by assumption) ?_ | refine nAnd ?_ | refine nOr ?_ | refine nXor ?_ | refine nAndNot ?_ | refine nAnd1' rfl ?_)); conv => whnf) | refine Ok.seq ?_ | refine OkL.cons ?_ | ((first | refine Ok.region tok ?_ | refine Ok.region_draw tok follows (by kernel_rfl) ?_ | refine Ok.cond ?_); conv => whnf) | refine Ok.block ?_ | ((first | refine Ok.skip ?_ | refine Ok.exit ?_ | refine Ok.ret ?_ | refine nI ?_ | refine ix _ (by assumption) ?_ | refine ixI (by omega) (by assumption) ?_ | refine ix_new _ (by omega) fun _ _ => ?_ | refine ixI_new (by omega) (by omega) fun _ _ => ?_ | refine ⟨_, by assumption, ?_⟩ | refine Alt2.l (aI ?_) | refine Alt2.r (aI ?_)); conv => whnf) | (refine Ok.scope ?_) | ((first | refine Ok.label ?_ | refine rd rfl (by assumption) ?_ | refine ⟨_, .inl ⟨rfl, rfl⟩, ?_⟩ | refine ⟨_, _, rfl, rfl, ?_⟩); conv => whnf) | (refine ⟨fun _ => ?_, fun _ => ?_⟩ <;> (conv => whnf) <;> (try (exfalso; omega))) | ((first | refine aJ ?_ | refine num_any ?_ | refine ⟨_, rfl, ?_⟩); conv => whnf) | fail)
        refine ⟨i + 1, by omega, ⟨by omega, cubOk_step hok hb (by simp)⟩, ?_⟩
        have c0 := car_same hb rfl 0
        have c1 := car_same hb rfl 1
        have c2 := car_same hb rfl 2
        have c3 := car_same hb rfl 3
        have o0 := one_same hb (by decide) 0
        have o1 := one_same hb (by decide) 1
        have o2 := one_same hb (by decide) 2
        have o3 := one_same hb (by decide) 3
        (conv => whnf)
        simp only [envCat, cells9, c0, c1, c2, c3, o0, o1, o2, o3]
        rfl
      · have hn120 := u8_ne h120
        have e120 : (((120 : UInt8).toNat : Nat) : Int) = 120 := rfl
        rw [e120] at hn120
        (try (conv => whnf)); repeat' (first | ((with_reducible_and_instances (first | refine nShr (by assumption) ?_ | refine nShl1' rfl (by assumption) ?_ | refine nAnd ?_ | refine nOr ?_ | refine nXor ?_ | refine nAndNot ?_ | refine nAnd1' rfl ?_)); conv => whnf) | refine Ok.seq ?_ | refine OkL.cons ?_ | ((first | refine Ok.region tok ?_ | refine Ok.region_draw tok follows (by kernel_rfl) ?_ | refine Ok.cond ?_); conv => whnf) | refine Ok.block ?_ | ((first | refine Ok.skip ?_ | refine Ok.exit ?_ | refine Ok.ret ?_ | refine nI ?_ | refine ix _ (by assumption) ?_ | refine ixI (by omega) (by assumption) ?_ | refine ix_new _ (by omega) fun _ _ => ?_ | refine ixI_new (by omega) (by omega) fun _ _ => ?_ | refine ⟨_, by assumption, ?_⟩ | refine Alt2.l (aI ?_) | refine Alt2.r (aI ?_)); conv => whnf) | (refine Ok.scope ?_) | ((first | refine Ok.label ?_ | refine rd rfl (by assumption) ?_ | refine ⟨_, .inl ⟨rfl, rfl⟩, ?_⟩ | refine ⟨_, _, rfl, rfl, ?_⟩); conv => whnf) | (refine ⟨fun _ => ?_, fun _ => ?_⟩ <;> (conv => whnf) <;> (try (exfalso; omega))) | ((first | refine aJ ?_ | refine num_any ?_ | refine ⟨_, rfl, ?_⟩); conv => whnf) | fail)
        refine Or.inl ?_; (conv => whnf)
        refine ⟨?_, rfl⟩
        have hno : ¬ okC t := fun h2 => by
          rcases h2.1.cub b (List.mem_of_getElem? hb) with e | e | e
          · exact h48 e
          · exact h49 e
          · exact h120 e
        rw [zer_not hno, crow_nil]
        unfold perr
        rw [if_neg (by omega), if_neg hno]
        rfl
    · have he : i = t.length := by omega
      subst he
      rw [List.take_length] at *
      (try (conv => whnf)); repeat' (first | ((with_reducible_and_instances (first | refine nShr (by assumption) ?_ | refine nShl1' rfl (by assumption) ?_ | refine nAnd ?_ | refine nOr ?_ | refine nXor ?_ | refine nAndNot ?_ | refine nAnd1' rfl ?_)); conv => whnf) | refine Ok.seq ?_ | refine OkL.cons ?_ | ((first | refine Ok.region tok ?_ | refine Ok.region_draw tok follows (by kernel_rfl) ?_ | refine Ok.cond ?_); conv => whnf) | refine Ok.block ?_ | ((first | refine Ok.skip ?_ | refine Ok.exit ?_ | refine Ok.ret ?_ | refine nI ?_ | refine ix _ (by assumption) ?_ | refine ixI (by omega) (by assumption) ?_ | refine ix_new _ (by omega) fun _ _ => ?_ | refine ixI_new (by omega) (by omega) fun _ _ => ?_ | refine ⟨_, by assumption, ?_⟩ | refine Alt2.l (aI ?_) | refine Alt2.r (aI ?_)); conv => whnf) | (refine Ok.scope ?_) | ((first | refine Ok.label ?_ | refine rd rfl (by assumption) ?_ | refine ⟨_, .inl ⟨rfl, rfl⟩, ?_⟩ | refine ⟨_, _, rfl, rfl, ?_⟩); conv => whnf) | (refine ⟨fun _ => ?_, fun _ => ?_⟩ <;> (conv => whnf) <;> (try (exfalso; omega))) | ((first | refine aJ ?_ | refine num_any ?_ | refine ⟨_, rfl, ?_⟩); conv => whnf) | fail)
      refine Or.inl ?_; (conv => whnf)
      refine ⟨?_, rfl⟩
      have hyes : okC t := ⟨⟨hlen, hok⟩, hne⟩
      rw [zer_of hyes]
      unfold perr
      rw [if_neg (by omega), if_pos hyes]
      rfl
end Go.Proofs.YtaiondckookpiaaGreatDoor
namespace Go.Proofs.YtaiondckookpiaaGreatDoor
open Go Go.Vx
theorem fits_at (c d : Str) : FSpec Tryz.prog T 119 [.agg (crow c), .agg (crow d)] (fun r _ => r = .b (c.length = d.length ∧ 0 < c.length)) := by
  refine FSpec.of_ok tok Tryz.func119 rfl Tryz.call119 (by simp) ?_
  (try (conv => whnf)); repeat' (first | ((with_reducible_and_instances (first | refine nShr (by assumption) ?_ | refine nShl1' rfl (by assumption) ?_ | refine nAnd ?_ | refine nOr ?_ | refine nXor ?_ | refine nAndNot ?_ | refine nAnd1' rfl ?_)); conv => whnf) | refine Ok.seq ?_ | refine OkL.cons ?_ | ((first | refine Ok.region tok ?_ | refine Ok.region_draw tok follows (by kernel_rfl) ?_ | refine Ok.cond ?_); conv => whnf) | refine Ok.block ?_ | ((first | refine Ok.skip ?_ | refine Ok.exit ?_ | refine Ok.ret ?_ | refine nI ?_ | refine ix _ (by assumption) ?_ | refine ixI (by omega) (by assumption) ?_ | refine ix_new _ (by omega) fun _ _ => ?_ | refine ixI_new (by omega) (by omega) fun _ _ => ?_ | refine ⟨_, by assumption, ?_⟩ | refine Alt2.l (aI ?_) | refine Alt2.r (aI ?_)); conv => whnf) | (refine Ok.scope ?_) | ((first | refine Ok.label ?_ | refine rd rfl (by assumption) ?_ | refine ⟨_, .inl ⟨rfl, rfl⟩, ?_⟩ | refine ⟨_, _, rfl, rfl, ?_⟩); conv => whnf) | (refine ⟨fun _ => ?_, fun _ => ?_⟩ <;> (conv => whnf) <;> (try (exfalso; omega))) | ((first | refine aJ ?_ | refine num_any ?_ | refine ⟨_, rfl, ?_⟩); conv => whnf) | fail)
  all_goals
    refine Or.inl ?_; (conv => whnf)
    simp [oneD]
    omega
theorem mt_none {c d : Str} (h : meetT c d = none) : (D.tup [.agg [.i .i64 0, .i .u64 0, .i .u64 0, .i .u64 0, .i .u64 0, .i .u64 0, .i .u64 0, .i .u64 0, .i .u64 0], .b False]) = .tup [.agg (crow ((meetT c d).getD [])), .b ((meetT c d).isSome = true)] := by
  rw [h]
  simp [crow_nil]
set_option maxHeartbeats 4000000 in
theorem meet_at (c d : Str) (hc : CT c) (hd : CT d) : FSpec Tryz.prog T 71 [.agg (crow c), .agg (crow d)] (fun r rows => r = .tup [.agg (crow ((meetT c d).getD [])), .b ((meetT c d).isSome = true)] ∧ rows = []) := by
  refine FSpec.of_ok tok Tryz.func71 rfl Tryz.call71 (by simp) ?_
  (try (conv => whnf)); repeat' (first | ((with_reducible_and_instances (first | refine nShr (by assumption) ?_ | refine nShl1' rfl (by assumption) ?_ | refine nAnd ?_ | refine nOr ?_ | refine nXor ?_ | refine nAndNot ?_ | refine nAnd1' rfl ?_)); conv => whnf) | refine Ok.seq ?_ | refine OkL.cons ?_ | ((first | refine Ok.region tok ?_ | refine Ok.region_plan (id := 8) tok follows [(3, 11, []), (7, 11, [])] [.q 0, .q 1, .q 2, .q 3, .q 4, .q 5, .q 6, .q 7, .q 8, .q 9, .q 10, .l 11] (by kernel_rfl) ?_ | refine Ok.region_plan (id := 9) tok follows [(3, 11, []), (7, 11, [])] [.q 0, .q 1, .q 2, .q 3, .q 4, .q 5, .q 6, .q 7, .q 8, .q 9, .q 10, .l 11] (by kernel_rfl) ?_ | refine Ok.region_draw tok follows (by kernel_rfl) ?_ | refine Ok.cond ?_); conv => whnf) | refine Ok.block ?_ | ((first | refine Ok.skip ?_ | refine Ok.exit ?_ | refine Ok.ret ?_ | refine nI ?_ | refine ix _ (by assumption) ?_ | refine ixI (by omega) (by assumption) ?_ | refine ix_new _ (by omega) fun _ _ => ?_ | refine ixI_new (by omega) (by omega) fun _ _ => ?_ | refine ⟨_, by assumption, ?_⟩); conv => whnf) | (refine Or.inl ?_; (conv => whnf); (repeat (refine aI ?_; conv => whnf)); refine ⟨_, fits_at c d, rfl, ?_⟩; conv => whnf) | (refine ⟨_, fits_at c d, rfl, ?_⟩; conv => whnf) | (refine Or.inr (Or.inl ?_); (conv => whnf); (repeat (refine aI ?_; conv => whnf)); refine ⟨_, fits_at c d, ?_⟩; rintro _ _ ⟨rfl, rfl⟩; conv => whnf) | ((first | refine Alt2.l (aI ?_) | refine Alt2.r (aI ?_)); conv => whnf) | (refine Ok.scope ?_) | ((first | refine Ok.label ?_ | refine rd rfl (by assumption) ?_ | refine ⟨_, .inl ⟨rfl, rfl⟩, ?_⟩ | refine ⟨_, _, rfl, rfl, ?_⟩); conv => whnf) | (refine ⟨fun _ => ?_, fun _ => ?_⟩ <;> (conv => whnf) <;> (try (exfalso; omega))) | ((first | refine aJ ?_ | refine num_any ?_ | refine ⟨_, rfl, ?_⟩); conv => whnf) | fail)
  · rename_i h
    refine Or.inl ?_; (conv => whnf)
    refine ⟨mt_none ?_, rfl⟩
    unfold meetT
    split
    · rfl
    · rename_i hne
      cases hm : meetL c d with
      | none => rfl
      | some m => exact absurd ⟨by have := meetL_len hm; omega, List.length_pos_iff.2 hne⟩ h
  · rename_i h
    have hfit : c.length = d.length ∧ 0 < c.length := Classical.not_not.1 h
    have hne : c ≠ [] := List.length_pos_iff.1 hfit.2
    refine Ok.loopU [2, 3, 4] [12] 0 3 (fun (w : Nat) => [.i .i64 (w : Nat)]) (fun (w : Nat) (_ : List (List D)) => [mcells c.length w c d, crow d, [.i .i64 0, .i .u64 0, .i .u64 0, .i .u64 0, .i .u64 0, .i .u64 0, .i .u64 0, .i .u64 0, .i .u64 0]]) (fun _ r => r) (fun (w : Nat) => w ≤ 4 ∧ ∀ k, k < w → ((wof (cfl c d) k).toNat : Int) = 0) (fun (w : Nat) => 4 - w) (0) (⟨by omega, fun k hk => absurd hk (by omega)⟩) ?_; (conv => whnf); refine ⟨by ((conv => whnf); first | rfl | (simp [envCat, List.take_of_length_le, cells9, mcells]; done) | (simp [envCat, List.take_of_length_le, cells9, mcells]; rw [IntKind.wrap_i64]; omega)), ?_⟩
    rintro w ⟨hw, hz⟩
    (conv => whnf)
    by_cases hw4 : w = 4
    · subst hw4
      obtain ⟨m, hm, m1, m2⟩ := cfl_some hc hd hfit.1 hne (no_cfl hc hz)
      have hml := (meetT_ct hm hc hd).2.1
      (try (conv => whnf)); repeat' (first | ((with_reducible_and_instances (first | refine nShr (by assumption) ?_ | refine nShl1' rfl (by assumption) ?_ | refine nAnd ?_ | refine nOr ?_ | refine nXor ?_ | refine nAndNot ?_ | refine nAnd1' rfl ?_)); conv => whnf) | refine Ok.seq ?_ | refine OkL.cons ?_ | ((first | refine Ok.region tok ?_ | refine Ok.region_plan (id := 8) tok follows [(3, 11, []), (7, 11, [])] [.q 0, .q 1, .q 2, .q 3, .q 4, .q 5, .q 6, .q 7, .q 8, .q 9, .q 10, .l 11] (by kernel_rfl) ?_ | refine Ok.region_plan (id := 9) tok follows [(3, 11, []), (7, 11, [])] [.q 0, .q 1, .q 2, .q 3, .q 4, .q 5, .q 6, .q 7, .q 8, .q 9, .q 10, .l 11] (by kernel_rfl) ?_ | refine Ok.region_draw tok follows (by kernel_rfl) ?_ | refine Ok.cond ?_); conv => whnf) | refine Ok.block ?_ | ((first | refine Ok.skip ?_ | refine Ok.exit ?_ | refine Ok.ret ?_ | refine nI ?_ | refine ix _ (by assumption) ?_ | refine ixI (by omega) (by assumption) ?_ | refine ix_new _ (by omega) fun _ _ => ?_ | refine ixI_new (by omega) (by omega) fun _ _ => ?_ | refine ⟨_, by assumption, ?_⟩ | refine Alt2.l (aI ?_) | refine Alt2.r (aI ?_)); conv => whnf) | (refine Ok.scope ?_) | ((first | refine Ok.label ?_ | refine rd rfl (by assumption) ?_ | refine ⟨_, .inl ⟨rfl, rfl⟩, ?_⟩ | refine ⟨_, _, rfl, rfl, ?_⟩); conv => whnf) | (refine ⟨fun _ => ?_, fun _ => ?_⟩ <;> (conv => whnf) <;> (try (exfalso; omega))) | ((first | refine aJ ?_ | refine num_any ?_ | refine ⟨_, rfl, ?_⟩); conv => whnf) | fail)
      refine Or.inl ?_; (conv => whnf)
      refine ⟨?_, rfl⟩
      have hme := mcells_end hml m1 m2
      rw [hm]
      show D.tup [.agg (mcells c.length 4 c d), .b True] = _
      rw [hme]
      simp
    · rcases (by omega : w = 0 ∨ w = 1 ∨ w = 2 ∨ w = 3) with rfl | rfl | rfl | rfl
      · (try (conv => whnf)); repeat' (first | ((with_reducible_and_instances (first | refine nShr (by assumption) ?_ | refine nShl1' rfl (by assumption) ?_ | refine nAnd ?_ | refine nOr ?_ | refine nXor ?_ | refine nAndNot ?_ | refine nAnd1' rfl ?_)); conv => whnf) | refine Ok.seq ?_ | refine OkL.cons ?_ | ((first | refine Ok.region tok ?_ | refine Ok.region_plan (id := 8) tok follows [(3, 11, []), (7, 11, [])] [.q 0, .q 1, .q 2, .q 3, .q 4, .q 5, .q 6, .q 7, .q 8, .q 9, .q 10, .l 11] (by kernel_rfl) ?_ | refine Ok.region_plan (id := 9) tok follows [(3, 11, []), (7, 11, [])] [.q 0, .q 1, .q 2, .q 3, .q 4, .q 5, .q 6, .q 7, .q 8, .q 9, .q 10, .l 11] (by kernel_rfl) ?_ | refine Ok.region_draw tok follows (by kernel_rfl) ?_ | refine Ok.cond ?_); conv => whnf) | refine Ok.block ?_ | ((first | refine Ok.skip ?_ | refine Ok.exit ?_ | refine Ok.ret ?_ | refine nI ?_ | refine ix _ (by assumption) ?_ | refine ixI (by omega) (by assumption) ?_ | refine ix_new _ (by omega) fun _ _ => ?_ | refine ixI_new (by omega) (by omega) fun _ _ => ?_ | refine ⟨_, by assumption, ?_⟩ | refine Alt2.l (aI ?_) | refine Alt2.r (aI ?_)); conv => whnf) | (refine Ok.scope ?_) | ((first | refine Ok.label ?_ | refine rd rfl (by assumption) ?_ | refine ⟨_, .inl ⟨rfl, rfl⟩, ?_⟩ | refine ⟨_, _, rfl, rfl, ?_⟩); conv => whnf) | (refine ⟨fun _ => ?_, fun _ => ?_⟩ <;> (conv => whnf) <;> (try (exfalso; omega))) | ((first | refine aJ ?_ | refine num_any ?_ | refine ⟨_, rfl, ?_⟩); conv => whnf) | fail)
        · rename_i hx
          refine Or.inl ?_; (conv => whnf)
          have hx2 : ¬ ((wof (cfl c d) 0).toNat : Int) = 0 := by
            rw [← word_cfl]
            exact hx
          obtain ⟨i, hi⟩ := wof_nz hx2
          exact ⟨mt_none (cfl_none hc hd hi), rfl⟩
        · rename_i hx
          have hx2 : ((wof (cfl c d) 0).toNat : Int) = 0 := by
            rw [← word_cfl]
            exact Classical.not_not.1 hx
          refine ⟨1, by omega, ⟨by omega, fun k hk => ?_⟩, ?_⟩
          · by_cases hk2 : k = 0
            · rw [hk2]; exact hx2
            · exact hz k (by omega)
          · (conv => whnf)
            rfl
      · (try (conv => whnf)); repeat' (first | ((with_reducible_and_instances (first | refine nShr (by assumption) ?_ | refine nShl1' rfl (by assumption) ?_ | refine nAnd ?_ | refine nOr ?_ | refine nXor ?_ | refine nAndNot ?_ | refine nAnd1' rfl ?_)); conv => whnf) | refine Ok.seq ?_ | refine OkL.cons ?_ | ((first | refine Ok.region tok ?_ | refine Ok.region_plan (id := 8) tok follows [(3, 11, []), (7, 11, [])] [.q 0, .q 1, .q 2, .q 3, .q 4, .q 5, .q 6, .q 7, .q 8, .q 9, .q 10, .l 11] (by kernel_rfl) ?_ | refine Ok.region_plan (id := 9) tok follows [(3, 11, []), (7, 11, [])] [.q 0, .q 1, .q 2, .q 3, .q 4, .q 5, .q 6, .q 7, .q 8, .q 9, .q 10, .l 11] (by kernel_rfl) ?_ | refine Ok.region_draw tok follows (by kernel_rfl) ?_ | refine Ok.cond ?_); conv => whnf) | refine Ok.block ?_ | ((first | refine Ok.skip ?_ | refine Ok.exit ?_ | refine Ok.ret ?_ | refine nI ?_ | refine ix _ (by assumption) ?_ | refine ixI (by omega) (by assumption) ?_ | refine ix_new _ (by omega) fun _ _ => ?_ | refine ixI_new (by omega) (by omega) fun _ _ => ?_ | refine ⟨_, by assumption, ?_⟩ | refine Alt2.l (aI ?_) | refine Alt2.r (aI ?_)); conv => whnf) | (refine Ok.scope ?_) | ((first | refine Ok.label ?_ | refine rd rfl (by assumption) ?_ | refine ⟨_, .inl ⟨rfl, rfl⟩, ?_⟩ | refine ⟨_, _, rfl, rfl, ?_⟩); conv => whnf) | (refine ⟨fun _ => ?_, fun _ => ?_⟩ <;> (conv => whnf) <;> (try (exfalso; omega))) | ((first | refine aJ ?_ | refine num_any ?_ | refine ⟨_, rfl, ?_⟩); conv => whnf) | fail)
        · rename_i hx
          refine Or.inl ?_; (conv => whnf)
          have hx2 : ¬ ((wof (cfl c d) 1).toNat : Int) = 0 := by
            rw [← word_cfl]
            exact hx
          obtain ⟨i, hi⟩ := wof_nz hx2
          exact ⟨mt_none (cfl_none hc hd hi), rfl⟩
        · rename_i hx
          have hx2 : ((wof (cfl c d) 1).toNat : Int) = 0 := by
            rw [← word_cfl]
            exact Classical.not_not.1 hx
          refine ⟨2, by omega, ⟨by omega, fun k hk => ?_⟩, ?_⟩
          · by_cases hk2 : k = 1
            · rw [hk2]; exact hx2
            · exact hz k (by omega)
          · (conv => whnf)
            rfl
      · (try (conv => whnf)); repeat' (first | ((with_reducible_and_instances (first | refine nShr (by assumption) ?_ | refine nShl1' rfl (by assumption) ?_ | refine nAnd ?_ | refine nOr ?_ | refine nXor ?_ | refine nAndNot ?_ | refine nAnd1' rfl ?_)); conv => whnf) | refine Ok.seq ?_ | refine OkL.cons ?_ | ((first | refine Ok.region tok ?_ | refine Ok.region_plan (id := 8) tok follows [(3, 11, []), (7, 11, [])] [.q 0, .q 1, .q 2, .q 3, .q 4, .q 5, .q 6, .q 7, .q 8, .q 9, .q 10, .l 11] (by kernel_rfl) ?_ | refine Ok.region_plan (id := 9) tok follows [(3, 11, []), (7, 11, [])] [.q 0, .q 1, .q 2, .q 3, .q 4, .q 5, .q 6, .q 7, .q 8, .q 9, .q 10, .l 11] (by kernel_rfl) ?_ | refine Ok.region_draw tok follows (by kernel_rfl) ?_ | refine Ok.cond ?_); conv => whnf) | refine Ok.block ?_ | ((first | refine Ok.skip ?_ | refine Ok.exit ?_ | refine Ok.ret ?_ | refine nI ?_ | refine ix _ (by assumption) ?_ | refine ixI (by omega) (by assumption) ?_ | refine ix_new _ (by omega) fun _ _ => ?_ | refine ixI_new (by omega) (by omega) fun _ _ => ?_ | refine ⟨_, by assumption, ?_⟩ | refine Alt2.l (aI ?_) | refine Alt2.r (aI ?_)); conv => whnf) | (refine Ok.scope ?_) | ((first | refine Ok.label ?_ | refine rd rfl (by assumption) ?_ | refine ⟨_, .inl ⟨rfl, rfl⟩, ?_⟩ | refine ⟨_, _, rfl, rfl, ?_⟩); conv => whnf) | (refine ⟨fun _ => ?_, fun _ => ?_⟩ <;> (conv => whnf) <;> (try (exfalso; omega))) | ((first | refine aJ ?_ | refine num_any ?_ | refine ⟨_, rfl, ?_⟩); conv => whnf) | fail)
        · rename_i hx
          refine Or.inl ?_; (conv => whnf)
          have hx2 : ¬ ((wof (cfl c d) 2).toNat : Int) = 0 := by
            rw [← word_cfl]
            exact hx
          obtain ⟨i, hi⟩ := wof_nz hx2
          exact ⟨mt_none (cfl_none hc hd hi), rfl⟩
        · rename_i hx
          have hx2 : ((wof (cfl c d) 2).toNat : Int) = 0 := by
            rw [← word_cfl]
            exact Classical.not_not.1 hx
          refine ⟨3, by omega, ⟨by omega, fun k hk => ?_⟩, ?_⟩
          · by_cases hk2 : k = 2
            · rw [hk2]; exact hx2
            · exact hz k (by omega)
          · (conv => whnf)
            rfl
      · (try (conv => whnf)); repeat' (first | ((with_reducible_and_instances (first | refine nShr (by assumption) ?_ | refine nShl1' rfl (by assumption) ?_ | refine nAnd ?_ | refine nOr ?_ | refine nXor ?_ | refine nAndNot ?_ | refine nAnd1' rfl ?_)); conv => whnf) | refine Ok.seq ?_ | refine OkL.cons ?_ | ((first | refine Ok.region tok ?_ | refine Ok.region_plan (id := 8) tok follows [(3, 11, []), (7, 11, [])] [.q 0, .q 1, .q 2, .q 3, .q 4, .q 5, .q 6, .q 7, .q 8, .q 9, .q 10, .l 11] (by kernel_rfl) ?_ | refine Ok.region_plan (id := 9) tok follows [(3, 11, []), (7, 11, [])] [.q 0, .q 1, .q 2, .q 3, .q 4, .q 5, .q 6, .q 7, .q 8, .q 9, .q 10, .l 11] (by kernel_rfl) ?_ | refine Ok.region_draw tok follows (by kernel_rfl) ?_ | refine Ok.cond ?_); conv => whnf) | refine Ok.block ?_ | ((first | refine Ok.skip ?_ | refine Ok.exit ?_ | refine Ok.ret ?_ | refine nI ?_ | refine ix _ (by assumption) ?_ | refine ixI (by omega) (by assumption) ?_ | refine ix_new _ (by omega) fun _ _ => ?_ | refine ixI_new (by omega) (by omega) fun _ _ => ?_ | refine ⟨_, by assumption, ?_⟩ | refine Alt2.l (aI ?_) | refine Alt2.r (aI ?_)); conv => whnf) | (refine Ok.scope ?_) | ((first | refine Ok.label ?_ | refine rd rfl (by assumption) ?_ | refine ⟨_, .inl ⟨rfl, rfl⟩, ?_⟩ | refine ⟨_, _, rfl, rfl, ?_⟩); conv => whnf) | (refine ⟨fun _ => ?_, fun _ => ?_⟩ <;> (conv => whnf) <;> (try (exfalso; omega))) | ((first | refine aJ ?_ | refine num_any ?_ | refine ⟨_, rfl, ?_⟩); conv => whnf) | fail)
        · rename_i hx
          refine Or.inl ?_; (conv => whnf)
          have hx2 : ¬ ((wof (cfl c d) 3).toNat : Int) = 0 := by
            rw [← word_cfl]
            exact hx
          obtain ⟨i, hi⟩ := wof_nz hx2
          exact ⟨mt_none (cfl_none hc hd hi), rfl⟩
        · rename_i hx
          have hx2 : ((wof (cfl c d) 3).toNat : Int) = 0 := by
            rw [← word_cfl]
            exact Classical.not_not.1 hx
          refine ⟨4, by omega, ⟨by omega, fun k hk => ?_⟩, ?_⟩
          · by_cases hk2 : k = 3
            · rw [hk2]; exact hx2
            · exact hz k (by omega)
          · (conv => whnf)
            rfl
set_option maxRecDepth 100000 in
theorem within_at (c d : Str) (hc : CT c) (hd : CT d) : FSpec Tryz.prog T 133 [.agg (crow c), .agg (crow d)] (fun r _ => r = .b (inT c d)) := by
  refine FSpec.of_ok tok Tryz.func133 rfl Tryz.call133 (by simp) ?_
  (try (conv => whnf)); repeat' (first | ((with_reducible_and_instances (first | refine nShr (by assumption) ?_ | refine nShl1' rfl (by assumption) ?_ | refine nAnd ?_ | refine nOr ?_ | refine nXor ?_ | refine nAndNot ?_ | refine nAnd1' rfl ?_)); conv => whnf) | refine Ok.seq ?_ | refine OkL.cons ?_ | ((first | refine Ok.region tok ?_ | refine Ok.region_draw tok follows (by kernel_rfl) ?_ | refine Ok.cond ?_); conv => whnf) | refine Ok.block ?_ | ((first | refine Ok.skip ?_ | refine Ok.exit ?_ | refine Ok.ret ?_ | refine nI ?_ | refine ix _ (by assumption) ?_ | refine ixI (by omega) (by assumption) ?_ | refine ix_new _ (by omega) fun _ _ => ?_ | refine ixI_new (by omega) (by omega) fun _ _ => ?_ | refine ⟨_, by assumption, ?_⟩); conv => whnf) | (refine Or.inl ?_; (conv => whnf); (repeat (refine aI ?_; conv => whnf)); refine ⟨_, meet_at c d hc hd, rfl, ?_⟩; conv => whnf) | (refine ⟨_, meet_at c d hc hd, rfl, ?_⟩; conv => whnf) | (refine Or.inr (Or.inl ?_); (conv => whnf); (repeat (refine aI ?_; conv => whnf)); refine ⟨_, meet_at c d hc hd, ?_⟩; rintro _ _ ⟨rfl, rfl⟩; conv => whnf) | ((first | refine Alt2.l (aI ?_) | refine Alt2.r (aI ?_)); conv => whnf) | (refine Ok.scope ?_) | ((first | refine Ok.label ?_ | refine rd rfl (by assumption) ?_ | refine ⟨_, .inl ⟨rfl, rfl⟩, ?_⟩ | refine ⟨_, _, rfl, rfl, ?_⟩); conv => whnf) | (refine ⟨fun _ => ?_, fun _ => ?_⟩ <;> (conv => whnf) <;> (try (exfalso; omega))) | ((first | refine aJ ?_ | refine num_any ?_ | refine ⟨_, rfl, ?_⟩); conv => whnf) | fail)
  · rename_i h
    refine ⟨_, eqCube, by kernel_rfl, ?_⟩
    (conv => whnf)
    (try (conv => whnf)); repeat' (first | ((with_reducible_and_instances (first | refine nShr (by assumption) ?_ | refine nShl1' rfl (by assumption) ?_ | refine nAnd ?_ | refine nOr ?_ | refine nXor ?_ | refine nAndNot ?_ | refine nAnd1' rfl ?_)); conv => whnf) | refine Ok.seq ?_ | refine OkL.cons ?_ | ((first | refine Ok.region tok ?_ | refine Ok.region_draw tok follows (by kernel_rfl) ?_ | refine Ok.cond ?_); conv => whnf) | refine Ok.block ?_ | ((first | refine Ok.skip ?_ | refine Ok.exit ?_ | refine Ok.ret ?_ | refine nI ?_ | refine ix _ (by assumption) ?_ | refine ixI (by omega) (by assumption) ?_ | refine ix_new _ (by omega) fun _ _ => ?_ | refine ixI_new (by omega) (by omega) fun _ _ => ?_ | refine ⟨_, by assumption, ?_⟩ | refine Alt2.l (aI ?_) | refine Alt2.r (aI ?_)); conv => whnf) | (refine Ok.scope ?_) | ((first | refine Ok.label ?_ | refine rd rfl (by assumption) ?_ | refine ⟨_, .inl ⟨rfl, rfl⟩, ?_⟩ | refine ⟨_, _, rfl, rfl, ?_⟩); conv => whnf) | (refine ⟨fun _ => ?_, fun _ => ?_⟩ <;> (conv => whnf) <;> (try (exfalso; omega))) | ((first | refine aJ ?_ | refine num_any ?_ | refine ⟨_, rfl, ?_⟩); conv => whnf) | fail)
    refine Or.inl ?_; (conv => whnf)
    obtain ⟨m, hm⟩ := Option.isSome_iff_exists.1 h
    have hmc := (meetT_ct hm hc hd).1
    show D.b (eqDs (crow ((meetT c d).getD [])) (crow c)) = D.b (inT c d)
    rw [hm, inT_meet, hm]
    refine congrArg D.b (propext ⟨fun h => ?_, fun h => ?_⟩)
    · rw [crow_inj hmc hc h]
    · cases h
      exact eqDs_self _
  · rename_i h
    refine Or.inl ?_; (conv => whnf)
    show D.b False = D.b (inT c d)
    refine congrArg D.b (propext ⟨fun h => h.elim, fun h2 => ?_⟩)
    rw [inT_meet] at h2
    rw [h2] at h
    exact h rfl
end Go.Proofs.YtaiondckookpiaaGreatDoor
namespace Go.Proofs.YtaiondckookpiaaGreatDoor
open Go Go.Vx
theorem fill_at {t : Str} {i : Nat} (hi : i < t.length) : (t.take i ++ List.replicate (t.length - i) (0 : UInt8))[i]? = some 0 := by
  rw [List.getElem?_append_right (by simp; omega)]
  simp [List.getElem?_replicate]
  omega
theorem fill_set {t : Str} {i : Nat} {b : UInt8} (h : t[i]? = some b) : (t.take i ++ List.replicate (t.length - i) (0 : UInt8)).set i b = t.take (i + 1) ++ List.replicate (t.length - (i + 1)) 0 := by
  have hi : i < t.length := (List.getElem?_eq_some_iff.1 h).1
  rw [List.set_append, if_neg (by simp; omega)]
  rw [show t.length - i = (t.length - (i + 1)) + 1 by omega, List.replicate_succ]
  rw [show i - (t.take i).length = 0 by simp; omega]
  rw [List.set_cons_zero, List.take_add_one, h]
  simp
set_option maxHeartbeats 4000000 in
theorem text_at (t : Str) (ht : CT t) : FSpec Tryz.prog T 33 [.agg (crow t)] (fun r _ => r = .s t) := by
  have hlen := ht.len
  refine FSpec.of_ok tok Tryz.func33 rfl Tryz.call33 (by simp) ?_
  (try (conv => whnf)); repeat' (first | ((with_reducible_and_instances (first | refine nShr (by assumption) ?_ | refine nShl1' rfl (by assumption) ?_ | refine nAnd ?_ | refine nOr ?_ | refine nXor ?_ | refine nAndNot ?_ | refine nAnd1' rfl ?_)); conv => whnf) | refine Ok.seq ?_ | refine OkL.cons ?_ | ((first | refine Ok.region tok ?_ | refine Ok.region_draw tok follows (by kernel_rfl) ?_ | refine Ok.cond ?_); conv => whnf) | refine Ok.block ?_ | ((first | refine Ok.skip ?_ | refine Ok.exit ?_ | refine Ok.ret ?_ | refine nI ?_ | refine ix _ (by assumption) ?_ | refine ixI (by omega) (by assumption) ?_ | refine ix_new _ (by omega) fun _ _ => ?_ | refine ixI_new (by omega) (by omega) fun _ _ => ?_ | refine ⟨_, by assumption, ?_⟩ | refine Alt2.l (aI ?_) | refine Alt2.r (aI ?_)); conv => whnf) | (refine Ok.scope ?_) | ((first | refine Ok.label ?_ | refine rd rfl (by assumption) ?_ | refine ⟨_, .inl ⟨rfl, rfl⟩, ?_⟩ | refine ⟨_, _, rfl, rfl, ?_⟩); conv => whnf) | (refine ⟨fun _ => ?_, fun _ => ?_⟩ <;> (conv => whnf) <;> (try (exfalso; omega))) | ((first | refine aJ ?_ | refine num_any ?_ | refine ⟨_, rfl, ?_⟩); conv => whnf) | fail)
  refine Ok.loopU [1, 3, 9] [10] 1 1 (fun (i : Nat) => [.i .i64 (i : Nat)]) (fun (i : Nat) (_ : List (List D)) => [crow t]) (fun (i : Nat) (_ : Vx.Rows) => [some (5, (t.take i ++ List.replicate (t.length - i) 0).map bcell)]) (fun (i : Nat) => i ≤ t.length) (fun (i : Nat) => t.length - i) (0) (Nat.zero_le _) ?_; (conv => whnf); refine ⟨by ((conv => whnf); first | rfl | (simp [envCat, List.take_of_length_le, cells9, bcell]; done) | (simp [envCat, List.take_of_length_le, cells9, bcell]; rw [IntKind.wrap_i64]; omega)), ?_⟩
  rintro i hi
  have hll : (t.take i ++ List.replicate (t.length - i) (0 : UInt8)).length = t.length := by simp; omega
  have hlm : ((t.take i ++ List.replicate (t.length - i) (0 : UInt8)).map bcell).length = t.length := by rw [List.length_map, hll]
  (conv => whnf)
  by_cases hit : i < t.length
  · obtain ⟨b, hb⟩ : ∃ b, t[i]? = some b := ⟨_, List.getElem?_eq_getElem hit⟩
    obtain ⟨q, r, hqr, hr, hq⟩ := split64 i (by omega)
    have hrem := rem64 hqr hr
    have hquo := quo64 hqr hr (by omega)
    have hrr : ((r : Nat) : Int) = ((r : Nat) : Int) ∧ r < 64 := ⟨rfl, hr⟩
    have hca := at_word (f := car t) hqr hr
    have hoa := at_word (f := one t) hqr hr
    rw [(at_b hb).1] at hca
    rw [(at_b hb).2] at hoa
    have hfa := fill_at hit
    have hfs := fill_set hb
    rcases ht.cub b (List.mem_of_getElem? hb) with rfl | rfl | rfl
    · have hc := hca.2 rfl
      have ho : ¬ _ := fun e => absurd (hoa.1 e) (by decide)
      clear hca hoa
      rcases hq with rfl | rfl | rfl | rfl
      all_goals
        (try (conv => whnf)); repeat' (first | ((with_reducible_and_instances (first | refine nShr (by assumption) ?_ | refine nShl1' rfl (by assumption) ?_ | refine nAnd ?_ | refine nOr ?_ | refine nXor ?_ | refine nAndNot ?_ | refine nAnd1' rfl ?_)); conv => whnf) | refine Ok.seq ?_ | refine OkL.cons ?_ | ((first | refine Ok.region tok ?_ | refine ⟨_, (hquo.symm).symm, ?_⟩ | refine ⟨_, (hrem.symm).symm, ?_⟩ | refine Ok.region_draw tok follows (by kernel_rfl) ?_ | refine Ok.cond ?_); conv => whnf) | refine Ok.block ?_ | ((first | refine Ok.skip ?_ | refine Ok.exit ?_ | refine Ok.ret ?_ | refine nI ?_ | refine ix _ (by assumption) ?_ | refine ixI (by omega) (by assumption) ?_ | refine ix_new _ (by omega) fun _ _ => ?_ | refine ixI_new (by omega) (by omega) fun _ _ => ?_ | refine ⟨_, by assumption, ?_⟩ | refine Alt2.l (aI ?_) | refine Alt2.r (aI ?_)); conv => whnf) | (refine Ok.scope ?_) | ((first | refine Ok.label ?_ | refine rd rfl (by assumption) ?_ | refine ⟨_, .inl ⟨rfl, rfl⟩, ?_⟩ | refine ⟨_, _, rfl, rfl, ?_⟩); conv => whnf) | (refine ⟨fun _ => ?_, fun _ => ?_⟩ <;> (conv => whnf) <;> (try (exfalso; omega))) | ((first | refine aJ ?_ | refine num_any ?_ | refine ⟨_, rfl, ?_⟩); conv => whnf) | fail)
        refine Or.inr (Or.inr (Or.inl ?_)); (conv => whnf); refine ⟨_, _, Tryz.func89, rfl, Tryz.call89, ?_⟩; (conv => whnf)
        (try (conv => whnf)); repeat' (first | ((with_reducible_and_instances (first | refine nShr (by assumption) ?_ | refine nShl1' rfl (by assumption) ?_ | refine nAnd ?_ | refine nOr ?_ | refine nXor ?_ | refine nAndNot ?_ | refine nAnd1' rfl ?_)); conv => whnf) | refine Ok.seq ?_ | refine OkL.cons ?_ | ((first | refine Ok.region tok ?_ | refine ⟨_, (hquo.symm).symm, ?_⟩ | refine ⟨_, (hrem.symm).symm, ?_⟩ | refine Ok.region_draw tok follows (by kernel_rfl) ?_ | refine Ok.cond ?_); conv => whnf) | refine Ok.block ?_ | ((first | refine Ok.skip ?_ | refine Ok.exit ?_ | refine Ok.ret ?_ | refine nI ?_ | refine ix _ (by assumption) ?_ | refine ixI (by omega) (by assumption) ?_ | refine ix_new _ (by omega) fun _ _ => ?_ | refine ixI_new (by omega) (by omega) fun _ _ => ?_ | refine ⟨_, by assumption, ?_⟩ | refine Alt2.l (aI ?_) | refine Alt2.r (aI ?_)); conv => whnf) | (refine Ok.scope ?_) | ((first | refine Ok.label ?_ | refine rd rfl (by assumption) ?_ | refine ⟨_, .inl ⟨rfl, rfl⟩, ?_⟩ | refine ⟨_, _, rfl, rfl, ?_⟩); conv => whnf) | (refine ⟨fun _ => ?_, fun _ => ?_⟩ <;> (conv => whnf) <;> (try (exfalso; omega))) | ((first | refine aJ ?_ | refine num_any ?_ | refine ⟨_, rfl, ?_⟩); conv => whnf) | fail)
        refine Or.inr (Or.inr (Or.inl ?_)); (conv => whnf); refine ⟨_, _, Tryz.func89, rfl, Tryz.call89, ?_⟩; (conv => whnf)
        (try (conv => whnf)); repeat' (first | ((with_reducible_and_instances (first | refine nShr (by assumption) ?_ | refine nShl1' rfl (by assumption) ?_ | refine nAnd ?_ | refine nOr ?_ | refine nXor ?_ | refine nAndNot ?_ | refine nAnd1' rfl ?_)); conv => whnf) | refine Ok.seq ?_ | refine OkL.cons ?_ | ((first | refine Ok.region tok ?_ | refine ⟨_, (hquo.symm).symm, ?_⟩ | refine ⟨_, (hrem.symm).symm, ?_⟩ | refine Ok.region_draw tok follows (by kernel_rfl) ?_ | refine Ok.cond ?_); conv => whnf) | refine Ok.block ?_ | ((first | refine Ok.skip ?_ | refine Ok.exit ?_ | refine Ok.ret ?_ | refine nI ?_ | refine ix _ (by assumption) ?_ | refine ixI (by omega) (by assumption) ?_ | refine ix_new _ (by omega) fun _ _ => ?_ | refine ixI_new (by omega) (by omega) fun _ _ => ?_ | refine ⟨_, by assumption, ?_⟩ | refine Alt2.l (aI ?_) | refine Alt2.r (aI ?_)); conv => whnf) | (refine Ok.scope ?_) | ((first | refine Ok.label ?_ | refine rd rfl (by assumption) ?_ | refine ⟨_, .inl ⟨rfl, rfl⟩, ?_⟩ | refine ⟨_, _, rfl, rfl, ?_⟩); conv => whnf) | (refine ⟨fun _ => ?_, fun _ => ?_⟩ <;> (conv => whnf) <;> (try (exfalso; omega))) | ((first | refine aJ ?_ | refine num_any ?_ | refine ⟨_, rfl, ?_⟩); conv => whnf) | fail)
        refine st 48 hfa (by simp [bcell]) (by simp [setCells, bcell]) ?_
        (try (conv => whnf)); repeat' (first | ((with_reducible_and_instances (first | refine nShr (by assumption) ?_ | refine nShl1' rfl (by assumption) ?_ | refine nAnd ?_ | refine nOr ?_ | refine nXor ?_ | refine nAndNot ?_ | refine nAnd1' rfl ?_)); conv => whnf) | refine Ok.seq ?_ | refine OkL.cons ?_ | ((first | refine Ok.region tok ?_ | refine Ok.region_draw tok follows (by kernel_rfl) ?_ | refine Ok.cond ?_); conv => whnf) | refine Ok.block ?_ | ((first | refine Ok.skip ?_ | refine Ok.exit ?_ | refine Ok.ret ?_ | refine nI ?_ | refine ix _ (by assumption) ?_ | refine ixI (by omega) (by assumption) ?_ | refine ix_new _ (by omega) fun _ _ => ?_ | refine ixI_new (by omega) (by omega) fun _ _ => ?_ | refine ⟨_, by assumption, ?_⟩ | refine Alt2.l (aI ?_) | refine Alt2.r (aI ?_)); conv => whnf) | (refine Ok.scope ?_) | ((first | refine Ok.label ?_ | refine rd rfl (by assumption) ?_ | refine ⟨_, .inl ⟨rfl, rfl⟩, ?_⟩ | refine ⟨_, _, rfl, rfl, ?_⟩); conv => whnf) | (refine ⟨fun _ => ?_, fun _ => ?_⟩ <;> (conv => whnf) <;> (try (exfalso; omega))) | ((first | refine aJ ?_ | refine num_any ?_ | refine ⟨_, rfl, ?_⟩); conv => whnf) | fail)
        refine ⟨i + 1, by omega, by omega, ?_⟩
        (conv => whnf)
        simp only [toNat_cast, hfs, envCat]
        rfl
    · have hc := hca.2 rfl
      have ho := hoa.2 rfl
      clear hca hoa
      rcases hq with rfl | rfl | rfl | rfl
      all_goals
        (try (conv => whnf)); repeat' (first | ((with_reducible_and_instances (first | refine nShr (by assumption) ?_ | refine nShl1' rfl (by assumption) ?_ | refine nAnd ?_ | refine nOr ?_ | refine nXor ?_ | refine nAndNot ?_ | refine nAnd1' rfl ?_)); conv => whnf) | refine Ok.seq ?_ | refine OkL.cons ?_ | ((first | refine Ok.region tok ?_ | refine ⟨_, (hquo.symm).symm, ?_⟩ | refine ⟨_, (hrem.symm).symm, ?_⟩ | refine Ok.region_draw tok follows (by kernel_rfl) ?_ | refine Ok.cond ?_); conv => whnf) | refine Ok.block ?_ | ((first | refine Ok.skip ?_ | refine Ok.exit ?_ | refine Ok.ret ?_ | refine nI ?_ | refine ix _ (by assumption) ?_ | refine ixI (by omega) (by assumption) ?_ | refine ix_new _ (by omega) fun _ _ => ?_ | refine ixI_new (by omega) (by omega) fun _ _ => ?_ | refine ⟨_, by assumption, ?_⟩ | refine Alt2.l (aI ?_) | refine Alt2.r (aI ?_)); conv => whnf) | (refine Ok.scope ?_) | ((first | refine Ok.label ?_ | refine rd rfl (by assumption) ?_ | refine ⟨_, .inl ⟨rfl, rfl⟩, ?_⟩ | refine ⟨_, _, rfl, rfl, ?_⟩); conv => whnf) | (refine ⟨fun _ => ?_, fun _ => ?_⟩ <;> (conv => whnf) <;> (try (exfalso; omega))) | ((first | refine aJ ?_ | refine num_any ?_ | refine ⟨_, rfl, ?_⟩); conv => whnf) | fail)
        refine Or.inr (Or.inr (Or.inl ?_)); (conv => whnf); refine ⟨_, _, Tryz.func89, rfl, Tryz.call89, ?_⟩; (conv => whnf)
        (try (conv => whnf)); repeat' (first | ((with_reducible_and_instances (first | refine nShr (by assumption) ?_ | refine nShl1' rfl (by assumption) ?_ | refine nAnd ?_ | refine nOr ?_ | refine nXor ?_ | refine nAndNot ?_ | refine nAnd1' rfl ?_)); conv => whnf) | refine Ok.seq ?_ | refine OkL.cons ?_ | ((first | refine Ok.region tok ?_ | refine ⟨_, (hquo.symm).symm, ?_⟩ | refine ⟨_, (hrem.symm).symm, ?_⟩ | refine Ok.region_draw tok follows (by kernel_rfl) ?_ | refine Ok.cond ?_); conv => whnf) | refine Ok.block ?_ | ((first | refine Ok.skip ?_ | refine Ok.exit ?_ | refine Ok.ret ?_ | refine nI ?_ | refine ix _ (by assumption) ?_ | refine ixI (by omega) (by assumption) ?_ | refine ix_new _ (by omega) fun _ _ => ?_ | refine ixI_new (by omega) (by omega) fun _ _ => ?_ | refine ⟨_, by assumption, ?_⟩ | refine Alt2.l (aI ?_) | refine Alt2.r (aI ?_)); conv => whnf) | (refine Ok.scope ?_) | ((first | refine Ok.label ?_ | refine rd rfl (by assumption) ?_ | refine ⟨_, .inl ⟨rfl, rfl⟩, ?_⟩ | refine ⟨_, _, rfl, rfl, ?_⟩); conv => whnf) | (refine ⟨fun _ => ?_, fun _ => ?_⟩ <;> (conv => whnf) <;> (try (exfalso; omega))) | ((first | refine aJ ?_ | refine num_any ?_ | refine ⟨_, rfl, ?_⟩); conv => whnf) | fail)
        refine Or.inr (Or.inr (Or.inl ?_)); (conv => whnf); refine ⟨_, _, Tryz.func89, rfl, Tryz.call89, ?_⟩; (conv => whnf)
        (try (conv => whnf)); repeat' (first | ((with_reducible_and_instances (first | refine nShr (by assumption) ?_ | refine nShl1' rfl (by assumption) ?_ | refine nAnd ?_ | refine nOr ?_ | refine nXor ?_ | refine nAndNot ?_ | refine nAnd1' rfl ?_)); conv => whnf) | refine Ok.seq ?_ | refine OkL.cons ?_ | ((first | refine Ok.region tok ?_ | refine ⟨_, (hquo.symm).symm, ?_⟩ | refine ⟨_, (hrem.symm).symm, ?_⟩ | refine Ok.region_draw tok follows (by kernel_rfl) ?_ | refine Ok.cond ?_); conv => whnf) | refine Ok.block ?_ | ((first | refine Ok.skip ?_ | refine Ok.exit ?_ | refine Ok.ret ?_ | refine nI ?_ | refine ix _ (by assumption) ?_ | refine ixI (by omega) (by assumption) ?_ | refine ix_new _ (by omega) fun _ _ => ?_ | refine ixI_new (by omega) (by omega) fun _ _ => ?_ | refine ⟨_, by assumption, ?_⟩ | refine Alt2.l (aI ?_) | refine Alt2.r (aI ?_)); conv => whnf) | (refine Ok.scope ?_) | ((first | refine Ok.label ?_ | refine rd rfl (by assumption) ?_ | refine ⟨_, .inl ⟨rfl, rfl⟩, ?_⟩ | refine ⟨_, _, rfl, rfl, ?_⟩); conv => whnf) | (refine ⟨fun _ => ?_, fun _ => ?_⟩ <;> (conv => whnf) <;> (try (exfalso; omega))) | ((first | refine aJ ?_ | refine num_any ?_ | refine ⟨_, rfl, ?_⟩); conv => whnf) | fail)
        refine st 49 hfa (by simp [bcell]) (by simp [setCells, bcell]) ?_
        (try (conv => whnf)); repeat' (first | ((with_reducible_and_instances (first | refine nShr (by assumption) ?_ | refine nShl1' rfl (by assumption) ?_ | refine nAnd ?_ | refine nOr ?_ | refine nXor ?_ | refine nAndNot ?_ | refine nAnd1' rfl ?_)); conv => whnf) | refine Ok.seq ?_ | refine OkL.cons ?_ | ((first | refine Ok.region tok ?_ | refine Ok.region_draw tok follows (by kernel_rfl) ?_ | refine Ok.cond ?_); conv => whnf) | refine Ok.block ?_ | ((first | refine Ok.skip ?_ | refine Ok.exit ?_ | refine Ok.ret ?_ | refine nI ?_ | refine ix _ (by assumption) ?_ | refine ixI (by omega) (by assumption) ?_ | refine ix_new _ (by omega) fun _ _ => ?_ | refine ixI_new (by omega) (by omega) fun _ _ => ?_ | refine ⟨_, by assumption, ?_⟩ | refine Alt2.l (aI ?_) | refine Alt2.r (aI ?_)); conv => whnf) | (refine Ok.scope ?_) | ((first | refine Ok.label ?_ | refine rd rfl (by assumption) ?_ | refine ⟨_, .inl ⟨rfl, rfl⟩, ?_⟩ | refine ⟨_, _, rfl, rfl, ?_⟩); conv => whnf) | (refine ⟨fun _ => ?_, fun _ => ?_⟩ <;> (conv => whnf) <;> (try (exfalso; omega))) | ((first | refine aJ ?_ | refine num_any ?_ | refine ⟨_, rfl, ?_⟩); conv => whnf) | fail)
        refine ⟨i + 1, by omega, by omega, ?_⟩
        (conv => whnf)
        simp only [toNat_cast, hfs, envCat]
        rfl
    · have hc : ¬ _ := fun e => absurd (hca.1 e) (by decide)
      clear hca hoa
      rcases hq with rfl | rfl | rfl | rfl
      all_goals
        (try (conv => whnf)); repeat' (first | ((with_reducible_and_instances (first | refine nShr (by assumption) ?_ | refine nShl1' rfl (by assumption) ?_ | refine nAnd ?_ | refine nOr ?_ | refine nXor ?_ | refine nAndNot ?_ | refine nAnd1' rfl ?_)); conv => whnf) | refine Ok.seq ?_ | refine OkL.cons ?_ | ((first | refine Ok.region tok ?_ | refine ⟨_, (hquo.symm).symm, ?_⟩ | refine ⟨_, (hrem.symm).symm, ?_⟩ | refine Ok.region_draw tok follows (by kernel_rfl) ?_ | refine Ok.cond ?_); conv => whnf) | refine Ok.block ?_ | ((first | refine Ok.skip ?_ | refine Ok.exit ?_ | refine Ok.ret ?_ | refine nI ?_ | refine ix _ (by assumption) ?_ | refine ixI (by omega) (by assumption) ?_ | refine ix_new _ (by omega) fun _ _ => ?_ | refine ixI_new (by omega) (by omega) fun _ _ => ?_ | refine ⟨_, by assumption, ?_⟩ | refine Alt2.l (aI ?_) | refine Alt2.r (aI ?_)); conv => whnf) | (refine Ok.scope ?_) | ((first | refine Ok.label ?_ | refine rd rfl (by assumption) ?_ | refine ⟨_, .inl ⟨rfl, rfl⟩, ?_⟩ | refine ⟨_, _, rfl, rfl, ?_⟩); conv => whnf) | (refine ⟨fun _ => ?_, fun _ => ?_⟩ <;> (conv => whnf) <;> (try (exfalso; omega))) | ((first | refine aJ ?_ | refine num_any ?_ | refine ⟨_, rfl, ?_⟩); conv => whnf) | fail)
        refine Or.inr (Or.inr (Or.inl ?_)); (conv => whnf); refine ⟨_, _, Tryz.func89, rfl, Tryz.call89, ?_⟩; (conv => whnf)
        (try (conv => whnf)); repeat' (first | ((with_reducible_and_instances (first | refine nShr (by assumption) ?_ | refine nShl1' rfl (by assumption) ?_ | refine nAnd ?_ | refine nOr ?_ | refine nXor ?_ | refine nAndNot ?_ | refine nAnd1' rfl ?_)); conv => whnf) | refine Ok.seq ?_ | refine OkL.cons ?_ | ((first | refine Ok.region tok ?_ | refine ⟨_, (hquo.symm).symm, ?_⟩ | refine ⟨_, (hrem.symm).symm, ?_⟩ | refine Ok.region_draw tok follows (by kernel_rfl) ?_ | refine Ok.cond ?_); conv => whnf) | refine Ok.block ?_ | ((first | refine Ok.skip ?_ | refine Ok.exit ?_ | refine Ok.ret ?_ | refine nI ?_ | refine ix _ (by assumption) ?_ | refine ixI (by omega) (by assumption) ?_ | refine ix_new _ (by omega) fun _ _ => ?_ | refine ixI_new (by omega) (by omega) fun _ _ => ?_ | refine ⟨_, by assumption, ?_⟩ | refine Alt2.l (aI ?_) | refine Alt2.r (aI ?_)); conv => whnf) | (refine Ok.scope ?_) | ((first | refine Ok.label ?_ | refine rd rfl (by assumption) ?_ | refine ⟨_, .inl ⟨rfl, rfl⟩, ?_⟩ | refine ⟨_, _, rfl, rfl, ?_⟩); conv => whnf) | (refine ⟨fun _ => ?_, fun _ => ?_⟩ <;> (conv => whnf) <;> (try (exfalso; omega))) | ((first | refine aJ ?_ | refine num_any ?_ | refine ⟨_, rfl, ?_⟩); conv => whnf) | fail)
        refine st 120 hfa (by simp [bcell]) (by simp [setCells, bcell]) ?_
        (try (conv => whnf)); repeat' (first | ((with_reducible_and_instances (first | refine nShr (by assumption) ?_ | refine nShl1' rfl (by assumption) ?_ | refine nAnd ?_ | refine nOr ?_ | refine nXor ?_ | refine nAndNot ?_ | refine nAnd1' rfl ?_)); conv => whnf) | refine Ok.seq ?_ | refine OkL.cons ?_ | ((first | refine Ok.region tok ?_ | refine Ok.region_draw tok follows (by kernel_rfl) ?_ | refine Ok.cond ?_); conv => whnf) | refine Ok.block ?_ | ((first | refine Ok.skip ?_ | refine Ok.exit ?_ | refine Ok.ret ?_ | refine nI ?_ | refine ix _ (by assumption) ?_ | refine ixI (by omega) (by assumption) ?_ | refine ix_new _ (by omega) fun _ _ => ?_ | refine ixI_new (by omega) (by omega) fun _ _ => ?_ | refine ⟨_, by assumption, ?_⟩ | refine Alt2.l (aI ?_) | refine Alt2.r (aI ?_)); conv => whnf) | (refine Ok.scope ?_) | ((first | refine Ok.label ?_ | refine rd rfl (by assumption) ?_ | refine ⟨_, .inl ⟨rfl, rfl⟩, ?_⟩ | refine ⟨_, _, rfl, rfl, ?_⟩); conv => whnf) | (refine ⟨fun _ => ?_, fun _ => ?_⟩ <;> (conv => whnf) <;> (try (exfalso; omega))) | ((first | refine aJ ?_ | refine num_any ?_ | refine ⟨_, rfl, ?_⟩); conv => whnf) | fail)
        refine ⟨i + 1, by omega, by omega, ?_⟩
        (conv => whnf)
        simp only [toNat_cast, hfs, envCat]
        rfl
  · have he : i = t.length := by omega
    subst he
    rw [List.take_length, Nat.sub_self, List.replicate_zero, List.append_nil] at *
    (try (conv => whnf)); repeat' (first | ((with_reducible_and_instances (first | refine nShr (by assumption) ?_ | refine nShl1' rfl (by assumption) ?_ | refine nAnd ?_ | refine nOr ?_ | refine nXor ?_ | refine nAndNot ?_ | refine nAnd1' rfl ?_)); conv => whnf) | refine Ok.seq ?_ | refine OkL.cons ?_ | ((first | refine Ok.region tok ?_ | refine Ok.region_draw tok follows (by kernel_rfl) ?_ | refine Ok.cond ?_); conv => whnf) | refine Ok.block ?_ | ((first | refine Ok.skip ?_ | refine Ok.exit ?_ | refine Ok.ret ?_ | refine nI ?_ | refine ix _ (by assumption) ?_ | refine ixI (by omega) (by assumption) ?_ | refine ix_new _ (by omega) fun _ _ => ?_ | refine ixI_new (by omega) (by omega) fun _ _ => ?_ | refine ⟨_, by assumption, ?_⟩ | refine Alt2.l (aI ?_) | refine Alt2.r (aI ?_)); conv => whnf) | (refine Ok.scope ?_) | ((first | refine Ok.label ?_ | refine rd rfl (by assumption) ?_ | refine ⟨_, .inl ⟨rfl, rfl⟩, ?_⟩ | refine ⟨_, _, rfl, rfl, ?_⟩); conv => whnf) | (refine ⟨fun _ => ?_, fun _ => ?_⟩ <;> (conv => whnf) <;> (try (exfalso; omega))) | ((first | refine aJ ?_ | refine num_any ?_ | refine ⟨_, rfl, ?_⟩); conv => whnf) | fail)
    refine ⟨t, take_all bcell t, ?_⟩
    (try (conv => whnf)); repeat' (first | ((with_reducible_and_instances (first | refine nShr (by assumption) ?_ | refine nShl1' rfl (by assumption) ?_ | refine nAnd ?_ | refine nOr ?_ | refine nXor ?_ | refine nAndNot ?_ | refine nAnd1' rfl ?_)); conv => whnf) | refine Ok.seq ?_ | refine OkL.cons ?_ | ((first | refine Ok.region tok ?_ | refine Ok.region_draw tok follows (by kernel_rfl) ?_ | refine Ok.cond ?_); conv => whnf) | refine Ok.block ?_ | ((first | refine Ok.skip ?_ | refine Ok.exit ?_ | refine Ok.ret ?_ | refine nI ?_ | refine ix _ (by assumption) ?_ | refine ixI (by omega) (by assumption) ?_ | refine ix_new _ (by omega) fun _ _ => ?_ | refine ixI_new (by omega) (by omega) fun _ _ => ?_ | refine ⟨_, by assumption, ?_⟩ | refine Alt2.l (aI ?_) | refine Alt2.r (aI ?_)); conv => whnf) | (refine Ok.scope ?_) | ((first | refine Ok.label ?_ | refine rd rfl (by assumption) ?_ | refine ⟨_, .inl ⟨rfl, rfl⟩, ?_⟩ | refine ⟨_, _, rfl, rfl, ?_⟩); conv => whnf) | (refine ⟨fun _ => ?_, fun _ => ?_⟩ <;> (conv => whnf) <;> (try (exfalso; omega))) | ((first | refine aJ ?_ | refine num_any ?_ | refine ⟨_, rfl, ?_⟩); conv => whnf) | fail)
    refine Or.inl ?_; (conv => whnf)
    rfl
end Go.Proofs.YtaiondckookpiaaGreatDoor
namespace Go.Proofs.YtaiondckookpiaaGreatDoor
open Go Go.Vx
def CN (c : Str) : Prop := CT c ∧ c ≠ []
theorem within2_at (c d : Str) (hc : CT c) (hd : CT d) : FSpec Tryz.prog T 121 [.agg (crow c), .agg (crow d)] (fun r _ => r = .b (inT c d)) := by
  refine FSpec.of_ok tok Tryz.func121 rfl Tryz.call121 (by simp) ?_
  (try (conv => whnf)); repeat' (first | refine Ok.seq ?_ | refine OkL.cons ?_ | ((first | refine Ok.region tok ?_ | refine Ok.region_draw tok follows (by kernel_rfl) ?_ | refine Ok.cond ?_); conv => whnf) | refine Ok.block ?_ | ((first | refine Ok.skip ?_ | refine Ok.exit ?_ | refine Ok.ret ?_ | refine nI ?_ | refine ix _ (by assumption) ?_ | refine ixI (by omega) (by assumption) ?_ | refine ix_new _ (by omega) fun _ _ => ?_ | refine ixI_new (by omega) (by omega) fun _ _ => ?_ | refine ⟨_, by assumption, ?_⟩); conv => whnf) | (refine Or.inl ?_; (conv => whnf); (repeat (refine aI ?_; conv => whnf)); refine ⟨_, within_at c d hc hd, rfl, ?_⟩; conv => whnf) | (refine ⟨_, within_at c d hc hd, rfl, ?_⟩; conv => whnf) | (refine Or.inr (Or.inl ?_); (conv => whnf); (repeat (refine aI ?_; conv => whnf)); refine ⟨_, within_at c d hc hd, ?_⟩; rintro _ _ ⟨rfl, rfl⟩; conv => whnf) | ((first | refine Alt2.l (aI ?_) | refine Alt2.r (aI ?_)); conv => whnf) | (refine Ok.scope ?_) | ((first | refine Ok.label ?_ | refine rd rfl (by assumption) ?_ | refine ⟨_, .inl ⟨rfl, rfl⟩, ?_⟩ | refine ⟨_, _, rfl, rfl, ?_⟩); conv => whnf) | (refine ⟨fun _ => ?_, fun _ => ?_⟩ <;> (conv => whnf) <;> (try (exfalso; omega))) | ((first | refine aJ ?_ | refine num_any ?_ | refine ⟨_, rfl, ?_⟩); conv => whnf) | fail)
  all_goals
    refine Or.inl ?_; (conv => whnf)
    rfl
theorem withinC_at {c d : Str} (hc : CN c) (hd : CN d) : FSpec Tryz.prog T 121 [.agg (crow c), .agg (crow d)] (fun r _ => r = .b (inL c d)) := by
  have := within2_at c d hc.1 hd.1
  rwa [show inT c d = inL c d from propext ⟨fun h => h.2, fun h => ⟨hc.2, h⟩⟩] at this
set_option maxRecDepth 100000 in
set_option maxHeartbeats 4000000 in
theorem greatestC_at (l : List Str) {rl room : List (List D)} (hl : l.length ≤ 1048576) (hok : ∀ x ∈ l, CN x) (h : rl = l.map crow) : FSpec Tryz.prog T 120 [.lst 46 rl room, .fn 121 [] []]
    (fun d rows => ∃ W : List Str, Kept inL l l.length W ∧ d = .own 0 (grG inL l).length ∧ rows = [some (46, W.map crow)]) := by
  subst h
  have hll : (l.map crow).length = l.length := by simp
  refine FSpec.of_ok tok Tryz.func120 rfl Tryz.call120 (by simp) ?_
  (try (conv => whnf)); repeat' (first | refine Ok.seq ?_ | refine OkL.cons ?_ | ((first | refine Ok.region tok ?_ | refine Ok.cond ?_); conv => whnf) | refine Ok.block ?_ | ((first | refine Ok.skip ?_ | refine Ok.exit ?_ | refine Ok.ret ?_ | refine nI ?_ | refine ix _ (by assumption) ?_ | refine ixI (by omega) (by assumption) ?_ | refine ix_new _ (by omega) fun _ _ => ?_ | refine ixI_new (by omega) (by omega) fun _ _ => ?_ | refine ⟨_, by assumption, ?_⟩ | refine Alt2.l (aI ?_) | refine Alt2.r (aI ?_)); conv => whnf) | (refine Ok.scope ?_) | ((first | refine Ok.label ?_ | refine rd rfl (by assumption) ?_ | refine ⟨_, .inl ⟨rfl, rfl⟩, ?_⟩ | refine ⟨_, _, rfl, rfl, ?_⟩); conv => whnf) | (refine ⟨fun _ => ?_, fun _ => ?_⟩ <;> (conv => whnf) <;> (try (exfalso; omega))) | ((first | refine aJ ?_ | refine num_any ?_ | refine ⟨_, rfl, ?_⟩); conv => whnf) | fail)
  refine Ok.ghost 5 46 rfl ?_
  (conv => whnf)
  refine Ok.loopU [1, 13, 14] [5, 15] 1 0 (fun (x : Nat × List Str) => [.own 0 (grG inL (l.take x.1)).length, .i .i64 (x.1 : Nat)]) (fun _ b => b) (fun (x : Nat × List Str) (_ : Vx.Rows) => [some (46, x.2.map crow)]) (fun (x : Nat × List Str) => Kept inL l x.1 x.2) (fun (x : Nat × List Str) => l.length - x.1) ((0, [])) (Kept.zero) ?_; (conv => whnf); refine ⟨by ((conv => whnf); first | rfl | (simp [envCat, List.take_of_length_le, cells9]; done) | (simp [envCat, List.take_of_length_le, cells9]; rw [IntKind.wrap_i64]; omega)), ?_⟩
  rintro ⟨i, W⟩ hK
  dsimp only at hK ⊢
  have hWl : (W.map crow).length = W.length := by simp
  have hKn := hK.n
  have hKw := hK.w
  have hKi := hK.le
  (conv => whnf)
  by_cases hil : i < l.length
  · obtain ⟨x, hx⟩ : ∃ x, l[i]? = some x := ⟨_, List.getElem?_eq_getElem hil⟩
    have hxo := hok x (List.mem_of_getElem? hx)
    have hmem : ∀ y ∈ grG inL (l.take i), CN y := fun y hy => hok y (List.take_subset _ _ (grG_sub inL _ y hy))
    (try (conv => whnf)); repeat' (first | refine Ok.seq ?_ | refine OkL.cons ?_ | ((first | refine Ok.region tok ?_ | refine Ok.region_draw tok follows (by kernel_rfl) ?_ | refine Ok.cond ?_); conv => whnf) | refine Ok.block ?_ | ((first | refine Ok.skip ?_ | refine Ok.exit ?_ | refine Ok.ret ?_ | refine nI ?_ | refine ix _ (by assumption) ?_ | refine ixI (by omega) (by assumption) ?_ | refine ix_new _ (by omega) fun _ _ => ?_ | refine ixI_new (by omega) (by omega) fun _ _ => ?_ | refine ⟨_, by assumption, ?_⟩ | refine Alt2.l (aI ?_) | refine Alt2.r (aI ?_)); conv => whnf) | (refine Ok.scope ?_) | ((first | refine Ok.label ?_ | refine rd rfl (by assumption) ?_ | refine ⟨_, .inl ⟨rfl, rfl⟩, ?_⟩ | refine ⟨_, _, rfl, rfl, ?_⟩); conv => whnf) | (refine ⟨fun _ => ?_, fun _ => ?_⟩ <;> (conv => whnf) <;> (try (exfalso; omega))) | ((first | refine aJ ?_ | refine num_any ?_ | refine ⟨_, rfl, ?_⟩); conv => whnf) | fail)
    generalize hKK : grG inL (l.take i) = K at *
    refine Ok.loopU [1, 5, 7, 13, 14, 15, 19, 20] [21] 1 1 (fun (j : Nat) => [.i .i64 (j : Nat)]) (fun _ b => b) (fun _ r => r) (fun (j : Nat) => j ≤ K.length ∧ ∀ y ∈ K.take j, ¬ inL x y) (fun (j : Nat) => K.length - j) (0) (⟨Nat.zero_le _, by simp⟩) ?_; (conv => whnf); refine ⟨by ((conv => whnf); first | rfl | (simp [envCat, List.take_of_length_le, cells9]; done) | (simp [envCat, List.take_of_length_le, cells9]; rw [IntKind.wrap_i64]; omega)), ?_⟩
    rintro j ⟨hj, hno⟩
    (conv => whnf)
    by_cases hjl : j < K.length
    · obtain ⟨y, hy⟩ : ∃ y, K[j]? = some y := ⟨_, List.getElem?_eq_getElem hjl⟩
      have hyo := hmem y (List.mem_of_getElem? hy)
      have hWj : W[((j : Nat) : Int).toNat]? = some y := by
        have := hK.get (j := j) (by rw [hKK]; exact hjl)
        rw [hKK, hy] at this
        exact this
      (try (conv => whnf)); repeat' (first | refine Ok.seq ?_ | refine OkL.cons ?_ | ((first | refine Ok.region tok ?_ | refine Ok.region_draw tok follows (by kernel_rfl) ?_ | refine Ok.cond ?_); conv => whnf) | refine Ok.block ?_ | ((first | refine Ok.skip ?_ | refine Ok.exit ?_ | refine Ok.ret ?_ | refine nI ?_ | refine ix _ (by assumption) ?_ | refine ixI (by omega) (by assumption) ?_ | refine ix_new _ (by omega) fun _ _ => ?_ | refine ixI_new (by omega) (by omega) fun _ _ => ?_ | refine ⟨_, by assumption, ?_⟩); conv => whnf) | (refine Or.inl ?_; (conv => whnf); (repeat (refine aI ?_; conv => whnf)); refine ⟨_, withinC_at hxo hyo, rfl, ?_⟩; conv => whnf) | (refine ⟨_, withinC_at hxo hyo, rfl, ?_⟩; conv => whnf) | (refine Or.inr (Or.inl ?_); (conv => whnf); (repeat (refine aI ?_; conv => whnf)); refine ⟨_, withinC_at hxo hyo, ?_⟩; rintro _ _ ⟨rfl, rfl⟩; conv => whnf) | ((first | refine Alt2.l (aI ?_) | refine Alt2.r (aI ?_)); conv => whnf) | (refine Ok.scope ?_) | ((first | refine Ok.label ?_ | refine rd rfl (by assumption) ?_ | refine ⟨_, .inl ⟨rfl, rfl⟩, ?_⟩ | refine ⟨_, _, rfl, rfl, ?_⟩); conv => whnf) | (refine ⟨fun _ => ?_, fun _ => ?_⟩ <;> (conv => whnf) <;> (try (exfalso; omega))) | ((first | refine aJ ?_ | refine num_any ?_ | refine ⟨_, rfl, ?_⟩); conv => whnf) | fail)
      · rename_i hxy
        have hin : ∃ y ∈ grG inL (l.take i), inL x y := ⟨y, by rw [hKK]; exact List.mem_of_getElem? hy, hxy⟩
        obtain ⟨hs, he⟩ := hK.skip hx hin
        refine ⟨(i + 1, W), by dsimp only; omega, hs, ?_⟩
        dsimp only
        rw [he, hKK]
        (conv => whnf)
        rfl
      · rename_i hxy
        refine ⟨j + 1, by omega, ⟨by omega, fun z hz => ?_⟩, ?_⟩
        · rw [List.take_add_one, hy] at hz
          rcases List.mem_append.1 hz with hz | hz
          · exact hno z hz
          · simp at hz; rw [hz]; exact hxy
        · (conv => whnf)
          rfl
    · have hje : j = K.length := by omega
      subst hje
      rw [List.take_length] at hno
      (try (conv => whnf)); repeat' (first | refine Ok.seq ?_ | refine OkL.cons ?_ | ((first | refine Ok.region tok ?_ | refine Ok.region_draw tok follows (by kernel_rfl) ?_ | refine Ok.cond ?_); conv => whnf) | refine Ok.block ?_ | ((first | refine Ok.skip ?_ | refine Ok.exit ?_ | refine Ok.ret ?_ | refine nI ?_ | refine ix _ (by assumption) ?_ | refine ixI (by omega) (by assumption) ?_ | refine ix_new _ (by omega) fun _ _ => ?_ | refine ixI_new (by omega) (by omega) fun _ _ => ?_ | refine ⟨_, by assumption, ?_⟩ | refine Alt2.l (aI ?_) | refine Alt2.r (aI ?_)); conv => whnf) | (refine Ok.scope ?_) | ((first | refine Ok.label ?_ | refine rd rfl (by assumption) ?_ | refine ⟨_, .inl ⟨rfl, rfl⟩, ?_⟩ | refine ⟨_, _, rfl, rfl, ?_⟩); conv => whnf) | (refine ⟨fun _ => ?_, fun _ => ?_⟩ <;> (conv => whnf) <;> (try (exfalso; omega))) | ((first | refine aJ ?_ | refine num_any ?_ | refine ⟨_, rfl, ?_⟩); conv => whnf) | fail)
      refine ⟨0, rfl, rfl, by omega, ?_⟩
      (try (conv => whnf)); repeat' (first | refine Ok.seq ?_ | refine OkL.cons ?_ | ((first | refine Ok.region tok ?_ | refine Ok.region_draw tok follows (by kernel_rfl) ?_ | refine Ok.cond ?_); conv => whnf) | refine Ok.block ?_ | ((first | refine Ok.skip ?_ | refine Ok.exit ?_ | refine Ok.ret ?_ | refine nI ?_ | refine ix _ (by assumption) ?_ | refine ixI (by omega) (by assumption) ?_ | refine ix_new _ (by omega) fun _ _ => ?_ | refine ixI_new (by omega) (by omega) fun _ _ => ?_ | refine ⟨_, by assumption, ?_⟩ | refine Alt2.l (aI ?_) | refine Alt2.r (aI ?_)); conv => whnf) | (refine Ok.scope ?_) | ((first | refine Ok.label ?_ | refine rd rfl (by assumption) ?_ | refine ⟨_, .inl ⟨rfl, rfl⟩, ?_⟩ | refine ⟨_, _, rfl, rfl, ?_⟩); conv => whnf) | (refine ⟨fun _ => ?_, fun _ => ?_⟩ <;> (conv => whnf) <;> (try (exfalso; omega))) | ((first | refine aJ ?_ | refine num_any ?_ | refine ⟨_, rfl, ?_⟩); conv => whnf) | fail)
      refine Ok.loopU [1, 7, 13, 14, 15, 32, 33] [10, 34] 1 1 (fun (z : Nat × List Str) => [.own 0 (leftOf inL K x z.1).length, .i .i64 (z.1 : Nat)]) (fun _ b => b) (fun (z : Nat × List Str) (_ : Vx.Rows) => [some (46, z.2.map crow)]) (fun (z : Nat × List Str) => Mid inL K x W z.1 z.2) (fun (z : Nat × List Str) => K.length - z.1) ((0, W)) (Mid.zero) ?_; (conv => whnf); refine ⟨by ((conv => whnf); first | rfl | (simp [envCat, List.take_of_length_le, cells9]; done) | (simp [envCat, List.take_of_length_le, cells9]; rw [IntKind.wrap_i64]; omega)), ?_⟩
      rintro ⟨k, W'⟩ hM
      dsimp only at hM ⊢
      have hMk := hM.le
      have hMl := hM.len
      have hWl' : (W'.map crow).length = W'.length := by simp
      have hkept : W.take K.length = K := by
        have := hK.tk
        rw [hKK] at this
        exact this
      (conv => whnf)
      by_cases hkl : k < K.length
      · obtain ⟨y, hy⟩ : ∃ y, K[k]? = some y := ⟨_, List.getElem?_eq_getElem hkl⟩
        have hyo := hmem y (List.mem_of_getElem? hy)
        have hWj : W'[((k : Nat) : Int).toNat]? = some y := by
          rw [toNat_cast, hM.get hkept hkl, hy]
        by_cases hyx : inL y x
        · obtain ⟨hd, he⟩ := hM.drop hy hyx
          (try (conv => whnf)); repeat' (first | refine Ok.seq ?_ | refine OkL.cons ?_ | ((first | refine Ok.region tok ?_ | refine Ok.region_draw tok follows (by kernel_rfl) ?_ | refine Ok.cond ?_); conv => whnf) | refine Ok.block ?_ | ((first | refine Ok.skip ?_ | refine Ok.exit ?_ | refine Ok.ret ?_ | refine nI ?_ | refine ix _ (by assumption) ?_ | refine ixI (by omega) (by assumption) ?_ | refine ix_new _ (by omega) fun _ _ => ?_ | refine ixI_new (by omega) (by omega) fun _ _ => ?_ | refine ⟨_, by assumption, ?_⟩); conv => whnf) | (refine Or.inl ?_; (conv => whnf); (repeat (refine aI ?_; conv => whnf)); refine ⟨_, withinC_at hyo hxo, rfl, ?_⟩; conv => whnf) | (refine ⟨_, withinC_at hyo hxo, rfl, ?_⟩; conv => whnf) | (refine Or.inr (Or.inl ?_); (conv => whnf); (repeat (refine aI ?_; conv => whnf)); refine ⟨_, withinC_at hyo hxo, ?_⟩; rintro _ _ ⟨rfl, rfl⟩; conv => whnf) | ((first | refine Alt2.l (aI ?_) | refine Alt2.r (aI ?_)); conv => whnf) | (refine Ok.scope ?_) | ((first | refine Ok.label ?_ | refine rd rfl (by assumption) ?_ | refine ⟨_, .inl ⟨rfl, rfl⟩, ?_⟩ | refine ⟨_, _, rfl, rfl, ?_⟩); conv => whnf) | (refine ⟨fun _ => ?_, fun _ => ?_⟩ <;> (conv => whnf) <;> (try (exfalso; omega))) | ((first | refine aJ ?_ | refine num_any ?_ | refine ⟨_, rfl, ?_⟩); conv => whnf) | fail)
          · exact absurd hyx (by assumption)
          · refine ⟨(k + 1, W'), by dsimp only; omega, hd, ?_⟩
            dsimp only
            rw [he]
            (conv => whnf)
            rfl
        · obtain ⟨hd, he, hlt⟩ := hM.keep hKn hy hyx
          have hlt2 : (leftOf inL K x k).length < (W'.map crow).length := by omega
          have hnle : ¬ (leftOf inL K x k).length = (W'.map crow).length := by omega
          (try (conv => whnf)); repeat' (first | refine Ok.seq ?_ | refine OkL.cons ?_ | ((first | refine Ok.region tok ?_ | refine Ok.region_draw tok follows (by kernel_rfl) ?_ | refine Ok.cond ?_); conv => whnf) | refine Ok.block ?_ | ((first | refine Ok.skip ?_ | refine Ok.exit ?_ | refine Ok.ret ?_ | refine nI ?_ | refine ix _ (by assumption) ?_ | refine ixI (by omega) (by assumption) ?_ | refine ix_new _ (by omega) fun _ _ => ?_ | refine ixI_new (by omega) (by omega) fun _ _ => ?_ | refine ⟨_, by assumption, ?_⟩); conv => whnf) | (refine Or.inl ?_; (conv => whnf); (repeat (refine aI ?_; conv => whnf)); refine ⟨_, withinC_at hyo hxo, rfl, ?_⟩; conv => whnf) | (refine ⟨_, withinC_at hyo hxo, rfl, ?_⟩; conv => whnf) | (refine Or.inr (Or.inl ?_); (conv => whnf); (repeat (refine aI ?_; conv => whnf)); refine ⟨_, withinC_at hyo hxo, ?_⟩; rintro _ _ ⟨rfl, rfl⟩; conv => whnf) | ((first | refine Alt2.l (aI ?_) | refine Alt2.r (aI ?_)); conv => whnf) | (refine Ok.scope ?_) | ((first | refine Ok.label ?_ | refine rd rfl (by assumption) ?_ | refine ⟨_, .inl ⟨rfl, rfl⟩, ?_⟩ | refine ⟨_, _, rfl, rfl, ?_⟩); conv => whnf) | (refine ⟨fun _ => ?_, fun _ => ?_⟩ <;> (conv => whnf) <;> (try (exfalso; omega))) | ((first | refine aJ ?_ | refine num_any ?_ | refine ⟨_, rfl, ?_⟩); conv => whnf) | fail)
          · refine ⟨(k + 1, W'.set (leftOf inL K x k).length y), by dsimp only; omega, hd, ?_⟩
            dsimp only
            rw [he, List.length_append, List.map_set]
            (conv => whnf)
            rfl
          · rename_i hh
            exact absurd hyx hh
      · have hke : k = K.length := by omega
        subst hke
        obtain ⟨se, sl, sg⟩ := hK.step hx (by rw [hKK]; exact hno) (by rw [hKK]; exact hM)
        rw [hKK] at se sl sg
        by_cases hm : (leftOf inL K x K.length).length = W'.length
        · have hm2 : (leftOf inL K x K.length).length = (W'.map crow).length := by omega
          (try (conv => whnf)); repeat' (first | refine Ok.seq ?_ | refine OkL.cons ?_ | ((first | refine Ok.region tok ?_ | refine Ok.region_draw tok follows (by kernel_rfl) ?_ | refine Ok.cond ?_); conv => whnf) | refine Ok.block ?_ | ((first | refine Ok.skip ?_ | refine Ok.exit ?_ | refine Ok.ret ?_ | refine nI ?_ | refine ix _ (by assumption) ?_ | refine ixI (by omega) (by assumption) ?_ | refine ix_new _ (by omega) fun _ _ => ?_ | refine ixI_new (by omega) (by omega) fun _ _ => ?_ | refine ⟨_, by assumption, ?_⟩ | refine Alt2.l (aI ?_) | refine Alt2.r (aI ?_)); conv => whnf) | (refine Ok.scope ?_) | ((first | refine Ok.label ?_ | refine rd rfl (by assumption) ?_ | refine ⟨_, .inl ⟨rfl, rfl⟩, ?_⟩ | refine ⟨_, _, rfl, rfl, ?_⟩); conv => whnf) | (refine ⟨fun _ => ?_, fun _ => ?_⟩ <;> (conv => whnf) <;> (try (exfalso; omega))) | ((first | refine aJ ?_ | refine num_any ?_ | refine ⟨_, rfl, ?_⟩); conv => whnf) | fail)
          refine ⟨(i + 1, W' ++ [x]), by dsimp only; omega, sg hm, ?_⟩
          dsimp only
          rw [se, List.map_append]
          (conv => whnf)
          simp [envCat, hm]
        · have hle2 := hM.tk
          have hlt : (leftOf inL K x K.length).length < W'.length := by
            have := congrArg List.length hM.tk
            rw [List.length_take] at this
            omega
          have hlt2 : (leftOf inL K x K.length).length < (W'.map crow).length := by omega
          (try (conv => whnf)); repeat' (first | refine Ok.seq ?_ | refine OkL.cons ?_ | ((first | refine Ok.region tok ?_ | refine Ok.region_draw tok follows (by kernel_rfl) ?_ | refine Ok.cond ?_); conv => whnf) | refine Ok.block ?_ | ((first | refine Ok.skip ?_ | refine Ok.exit ?_ | refine Ok.ret ?_ | refine nI ?_ | refine ix _ (by assumption) ?_ | refine ixI (by omega) (by assumption) ?_ | refine ix_new _ (by omega) fun _ _ => ?_ | refine ixI_new (by omega) (by omega) fun _ _ => ?_ | refine ⟨_, by assumption, ?_⟩ | refine Alt2.l (aI ?_) | refine Alt2.r (aI ?_)); conv => whnf) | (refine Ok.scope ?_) | ((first | refine Ok.label ?_ | refine rd rfl (by assumption) ?_ | refine ⟨_, .inl ⟨rfl, rfl⟩, ?_⟩ | refine ⟨_, _, rfl, rfl, ?_⟩); conv => whnf) | (refine ⟨fun _ => ?_, fun _ => ?_⟩ <;> (conv => whnf) <;> (try (exfalso; omega))) | ((first | refine aJ ?_ | refine num_any ?_ | refine ⟨_, rfl, ?_⟩); conv => whnf) | fail)
          refine ⟨(i + 1, W'.set (leftOf inL K x K.length).length x), by dsimp only; omega, sl hlt, ?_⟩
          dsimp only
          rw [se, List.length_append, List.map_set]
          (conv => whnf)
          rfl
  · have hie : i = l.length := by omega
    subst hie
    rw [List.take_length] at *
    (try (conv => whnf)); repeat' (first | refine Ok.seq ?_ | refine OkL.cons ?_ | ((first | refine Ok.region tok ?_ | refine Ok.region_draw tok follows (by kernel_rfl) ?_ | refine Ok.cond ?_); conv => whnf) | refine Ok.block ?_ | ((first | refine Ok.skip ?_ | refine Ok.exit ?_ | refine Ok.ret ?_ | refine nI ?_ | refine ix _ (by assumption) ?_ | refine ixI (by omega) (by assumption) ?_ | refine ix_new _ (by omega) fun _ _ => ?_ | refine ixI_new (by omega) (by omega) fun _ _ => ?_ | refine ⟨_, by assumption, ?_⟩ | refine Alt2.l (aI ?_) | refine Alt2.r (aI ?_)); conv => whnf) | (refine Ok.scope ?_) | ((first | refine Ok.label ?_ | refine rd rfl (by assumption) ?_ | refine ⟨_, .inl ⟨rfl, rfl⟩, ?_⟩ | refine ⟨_, _, rfl, rfl, ?_⟩); conv => whnf) | (refine ⟨fun _ => ?_, fun _ => ?_⟩ <;> (conv => whnf) <;> (try (exfalso; omega))) | ((first | refine aJ ?_ | refine num_any ?_ | refine ⟨_, rfl, ?_⟩); conv => whnf) | fail)
    refine Or.inr (Or.inl ?_); (conv => whnf)
    exact ⟨W, hK, rfl, rfl⟩
structure TR where
  t : Term
  room : List (List D)
@[reducible] def trow (x : TR) : List D := [.i .i64 (x.t.p.length : Int), .i .u64 ((wof (car x.t.p) 0).toNat : Int), .i .u64 ((wof (car x.t.p) 1).toNat : Int), .i .u64 ((wof (car x.t.p) 2).toNat : Int), .i .u64 ((wof (car x.t.p) 3).toNat : Int), .i .u64 ((wof (one x.t.p) 0).toNat : Int), .i .u64 ((wof (one x.t.p) 1).toNat : Int), .i .u64 ((wof (one x.t.p) 2).toNat : Int), .i .u64 ((wof (one x.t.p) 3).toNat : Int), .lst 46 (x.t.less.map crow) x.room, .s x.t.key]
structure TN (x : TR) : Prop where
  p : CN x.t.p
  less : ∀ m ∈ x.t.less, CN m
  n : x.t.less.length ≤ 1048576
def covR (a b : TR) : Prop := covT a.t b.t
set_option maxHeartbeats 4000000 in
theorem covered_at {a b : TR} (ha : TN a) (hb : TN b) : FSpec Tryz.prog T 114 [.agg (trow a), .agg (trow b)] (fun r _ => r = .b (covR a b)) := by
  refine FSpec.of_ok tok Tryz.func114 rfl Tryz.call114 (by simp) ?_
  (try (conv => whnf)); repeat' (first | refine Ok.seq ?_ | refine OkL.cons ?_ | ((first | refine Ok.region tok ?_ | refine Ok.region_draw tok follows (by kernel_rfl) ?_ | refine Ok.cond ?_); conv => whnf) | refine Ok.block ?_ | ((first | refine Ok.skip ?_ | refine Ok.exit ?_ | refine Ok.ret ?_ | refine nI ?_ | refine ix _ (by assumption) ?_ | refine ixI (by omega) (by assumption) ?_ | refine ix_new _ (by omega) fun _ _ => ?_ | refine ixI_new (by omega) (by omega) fun _ _ => ?_ | refine ⟨_, by assumption, ?_⟩); conv => whnf) | (refine Or.inl ?_; (conv => whnf); (repeat (refine aI ?_; conv => whnf)); refine ⟨_, within_at a.t.p b.t.p ha.p.1 hb.p.1, rfl, ?_⟩; conv => whnf) | (refine ⟨_, within_at a.t.p b.t.p ha.p.1 hb.p.1, rfl, ?_⟩; conv => whnf) | (refine Or.inr (Or.inl ?_); (conv => whnf); (repeat (refine aI ?_; conv => whnf)); refine ⟨_, within_at a.t.p b.t.p ha.p.1 hb.p.1, ?_⟩; rintro _ _ ⟨rfl, rfl⟩; conv => whnf) | ((first | refine Alt2.l (aI ?_) | refine Alt2.r (aI ?_)); conv => whnf) | (refine Ok.scope ?_) | ((first | refine Ok.label ?_ | refine rd rfl (by assumption) ?_ | refine ⟨_, .inl ⟨rfl, rfl⟩, ?_⟩ | refine ⟨_, _, rfl, rfl, ?_⟩); conv => whnf) | (refine ⟨fun _ => ?_, fun _ => ?_⟩ <;> (conv => whnf) <;> (try (exfalso; omega))) | ((first | refine aJ ?_ | refine num_any ?_ | refine ⟨_, rfl, ?_⟩); conv => whnf) | fail)
  · rename_i h
    refine Or.inl ?_; (conv => whnf)
    show D.b False = _
    exact congrArg D.b (propext ⟨fun h => h.elim, fun h2 => h h2.1⟩)
  · rename_i h
    have hin : inT a.t.p b.t.p := Classical.not_not.1 h
    have hbn := hb.n
    have han := ha.n
    have hbl : (b.t.less.map crow).length = b.t.less.length := by simp
    have hal : (a.t.less.map crow).length = a.t.less.length := by simp
    refine Ok.loopU [2, 18, 19] [20] 0 2 (fun (i : Nat) => [.i .i64 (i : Nat)]) (fun _ b => b) (fun _ r => r) (fun (i : Nat) => i ≤ b.t.less.length ∧ ∀ m ∈ b.t.less.take i, ∀ c, meetT m a.t.p = some c → ∃ n ∈ a.t.less, inT c n) (fun (i : Nat) => b.t.less.length - i) (0) (⟨Nat.zero_le _, by simp⟩) ?_; (conv => whnf); refine ⟨by ((conv => whnf); first | rfl | (simp [envCat, List.take_of_length_le, cells9]; done) | (simp [envCat, List.take_of_length_le, cells9]; rw [IntKind.wrap_i64]; omega)), ?_⟩
    rintro i ⟨hi, hall⟩
    (conv => whnf)
    by_cases hil : i < b.t.less.length
    · obtain ⟨m, hm⟩ : ∃ m, b.t.less[i]? = some m := ⟨_, List.getElem?_eq_getElem hil⟩
      have hmo := hb.less m (List.mem_of_getElem? hm)
      have step : (∀ c, meetT m a.t.p = some c → ∃ n ∈ a.t.less, inT c n) → ∀ z ∈ b.t.less.take (i + 1), ∀ c, meetT z a.t.p = some c → ∃ n ∈ a.t.less, inT c n := fun h z hz => by
        rw [List.take_add_one, hm] at hz
        rcases List.mem_append.1 hz with hz | hz
        · exact hall z hz
        · simp at hz; rw [hz]; exact h
      cases hmt : meetT m a.t.p with
      | none =>
        have hsp := meet_at m a.t.p hmo.1 ha.p.1
        rw [hmt] at hsp
        (try (conv => whnf)); repeat' (first | refine Ok.seq ?_ | refine OkL.cons ?_ | ((first | refine Ok.region tok ?_ | refine Ok.region_draw tok follows (by kernel_rfl) ?_ | refine Ok.cond ?_); conv => whnf) | refine Ok.block ?_ | ((first | refine Ok.skip ?_ | refine Ok.exit ?_ | refine Ok.ret ?_ | refine nI ?_ | refine ix _ (by assumption) ?_ | refine ixI (by omega) (by assumption) ?_ | refine ix_new _ (by omega) fun _ _ => ?_ | refine ixI_new (by omega) (by omega) fun _ _ => ?_ | refine ⟨_, by assumption, ?_⟩); conv => whnf) | (refine Or.inl ?_; (conv => whnf); (repeat (refine aI ?_; conv => whnf)); refine ⟨_, hsp, rfl, ?_⟩; conv => whnf) | (refine ⟨_, hsp, rfl, ?_⟩; conv => whnf) | (refine Or.inr (Or.inl ?_); (conv => whnf); (repeat (refine aI ?_; conv => whnf)); refine ⟨_, hsp, ?_⟩; rintro _ _ ⟨rfl, rfl⟩; conv => whnf) | ((first | refine Alt2.l (aI ?_) | refine Alt2.r (aI ?_)); conv => whnf) | (refine Ok.scope ?_) | ((first | refine Ok.label ?_ | refine rd rfl (by assumption) ?_ | refine ⟨_, .inl ⟨rfl, rfl⟩, ?_⟩ | refine ⟨_, _, rfl, rfl, ?_⟩); conv => whnf) | (refine ⟨fun _ => ?_, fun _ => ?_⟩ <;> (conv => whnf) <;> (try (exfalso; omega))) | ((first | refine aJ ?_ | refine num_any ?_ | refine ⟨_, rfl, ?_⟩); conv => whnf) | fail)
        · refine ⟨i + 1, by omega, ⟨by omega, step fun c hc => by rw [hmt] at hc; cases hc⟩, ?_⟩
          (conv => whnf)
          rfl
        · rename_i h2
          exact absurd (by simp) h2
      | some c =>
        have hsp := meet_at m a.t.p hmo.1 ha.p.1
        have hcc := meetT_ct hmt hmo.1 ha.p.1
        rw [hmt] at hsp
        (try (conv => whnf)); repeat' (first | refine Ok.seq ?_ | refine OkL.cons ?_ | ((first | refine Ok.region tok ?_ | refine Ok.region_draw tok follows (by kernel_rfl) ?_ | refine Ok.cond ?_); conv => whnf) | refine Ok.block ?_ | ((first | refine Ok.skip ?_ | refine Ok.exit ?_ | refine Ok.ret ?_ | refine nI ?_ | refine ix _ (by assumption) ?_ | refine ixI (by omega) (by assumption) ?_ | refine ix_new _ (by omega) fun _ _ => ?_ | refine ixI_new (by omega) (by omega) fun _ _ => ?_ | refine ⟨_, by assumption, ?_⟩); conv => whnf) | (refine Or.inl ?_; (conv => whnf); (repeat (refine aI ?_; conv => whnf)); refine ⟨_, hsp, rfl, ?_⟩; conv => whnf) | (refine ⟨_, hsp, rfl, ?_⟩; conv => whnf) | (refine Or.inr (Or.inl ?_); (conv => whnf); (repeat (refine aI ?_; conv => whnf)); refine ⟨_, hsp, ?_⟩; rintro _ _ ⟨rfl, rfl⟩; conv => whnf) | ((first | refine Alt2.l (aI ?_) | refine Alt2.r (aI ?_)); conv => whnf) | (refine Ok.scope ?_) | ((first | refine Ok.label ?_ | refine rd rfl (by assumption) ?_ | refine ⟨_, .inl ⟨rfl, rfl⟩, ?_⟩ | refine ⟨_, _, rfl, rfl, ?_⟩); conv => whnf) | (refine ⟨fun _ => ?_, fun _ => ?_⟩ <;> (conv => whnf) <;> (try (exfalso; omega))) | ((first | refine aJ ?_ | refine num_any ?_ | refine ⟨_, rfl, ?_⟩); conv => whnf) | fail)
        · rename_i h2
          exact absurd rfl h2
        · refine Ok.loopU [2, 7, 18, 19, 20, 34, 35] [36] 0 4 (fun (j : Nat) => [.i .i64 (j : Nat)]) (fun _ b => b) (fun _ r => r) (fun (j : Nat) => j ≤ a.t.less.length ∧ ∀ n ∈ a.t.less.take j, ¬ inT c n) (fun (j : Nat) => a.t.less.length - j) (0) (⟨Nat.zero_le _, by simp⟩) ?_; (conv => whnf); refine ⟨by ((conv => whnf); first | rfl | (simp [envCat, List.take_of_length_le, cells9]; done) | (simp [envCat, List.take_of_length_le, cells9]; rw [IntKind.wrap_i64]; omega)), ?_⟩
          rintro j ⟨hj, hno⟩
          (conv => whnf)
          by_cases hjl : j < a.t.less.length
          · obtain ⟨n, hn⟩ : ∃ n, a.t.less[j]? = some n := ⟨_, List.getElem?_eq_getElem hjl⟩
            have hno' := ha.less n (List.mem_of_getElem? hn)
            (try (conv => whnf)); repeat' (first | refine Ok.seq ?_ | refine OkL.cons ?_ | ((first | refine Ok.region tok ?_ | refine Ok.region_draw tok follows (by kernel_rfl) ?_ | refine Ok.cond ?_); conv => whnf) | refine Ok.block ?_ | ((first | refine Ok.skip ?_ | refine Ok.exit ?_ | refine Ok.ret ?_ | refine nI ?_ | refine ix _ (by assumption) ?_ | refine ixI (by omega) (by assumption) ?_ | refine ix_new _ (by omega) fun _ _ => ?_ | refine ixI_new (by omega) (by omega) fun _ _ => ?_ | refine ⟨_, by assumption, ?_⟩); conv => whnf) | (refine Or.inl ?_; (conv => whnf); (repeat (refine aI ?_; conv => whnf)); refine ⟨_, within_at c n hcc.1 hno'.1, rfl, ?_⟩; conv => whnf) | (refine ⟨_, within_at c n hcc.1 hno'.1, rfl, ?_⟩; conv => whnf) | (refine Or.inr (Or.inl ?_); (conv => whnf); (repeat (refine aI ?_; conv => whnf)); refine ⟨_, within_at c n hcc.1 hno'.1, ?_⟩; rintro _ _ ⟨rfl, rfl⟩; conv => whnf) | ((first | refine Alt2.l (aI ?_) | refine Alt2.r (aI ?_)); conv => whnf) | (refine Ok.scope ?_) | ((first | refine Ok.label ?_ | refine rd rfl (by assumption) ?_ | refine ⟨_, .inl ⟨rfl, rfl⟩, ?_⟩ | refine ⟨_, _, rfl, rfl, ?_⟩); conv => whnf) | (refine ⟨fun _ => ?_, fun _ => ?_⟩ <;> (conv => whnf) <;> (try (exfalso; omega))) | ((first | refine aJ ?_ | refine num_any ?_ | refine ⟨_, rfl, ?_⟩); conv => whnf) | fail)
            · rename_i hcn
              refine ⟨i + 1, by omega, ⟨by omega, step fun c' hc' => ?_⟩, ?_⟩
              · rw [hmt] at hc'
                cases hc'
                exact ⟨n, List.mem_of_getElem? hn, hcn⟩
              · (conv => whnf)
                rfl
            · rename_i hcn
              refine ⟨j + 1, by omega, ⟨by omega, fun z hz => ?_⟩, ?_⟩
              · rw [List.take_add_one, hn] at hz
                rcases List.mem_append.1 hz with hz | hz
                · exact hno z hz
                · simp at hz; rw [hz]; exact hcn
              · (conv => whnf)
                rfl
          · have hje : j = a.t.less.length := by omega
            subst hje
            rw [List.take_length] at hno
            (try (conv => whnf)); repeat' (first | refine Ok.seq ?_ | refine OkL.cons ?_ | ((first | refine Ok.region tok ?_ | refine Ok.region_draw tok follows (by kernel_rfl) ?_ | refine Ok.cond ?_); conv => whnf) | refine Ok.block ?_ | ((first | refine Ok.skip ?_ | refine Ok.exit ?_ | refine Ok.ret ?_ | refine nI ?_ | refine ix _ (by assumption) ?_ | refine ixI (by omega) (by assumption) ?_ | refine ix_new _ (by omega) fun _ _ => ?_ | refine ixI_new (by omega) (by omega) fun _ _ => ?_ | refine ⟨_, by assumption, ?_⟩ | refine Alt2.l (aI ?_) | refine Alt2.r (aI ?_)); conv => whnf) | (refine Ok.scope ?_) | ((first | refine Ok.label ?_ | refine rd rfl (by assumption) ?_ | refine ⟨_, .inl ⟨rfl, rfl⟩, ?_⟩ | refine ⟨_, _, rfl, rfl, ?_⟩); conv => whnf) | (refine ⟨fun _ => ?_, fun _ => ?_⟩ <;> (conv => whnf) <;> (try (exfalso; omega))) | ((first | refine aJ ?_ | refine num_any ?_ | refine ⟨_, rfl, ?_⟩); conv => whnf) | fail)
            refine Or.inl ?_; (conv => whnf)
            show D.b False = _
            refine congrArg D.b (propext ⟨fun h => h.elim, fun h2 => ?_⟩)
            obtain ⟨n, hn, hcn⟩ := h2.2 m (List.mem_of_getElem? hm) c hmt
            exact hno n hn hcn
    · have hie : i = b.t.less.length := by omega
      subst hie
      rw [List.take_length] at hall
      (try (conv => whnf)); repeat' (first | refine Ok.seq ?_ | refine OkL.cons ?_ | ((first | refine Ok.region tok ?_ | refine Ok.region_draw tok follows (by kernel_rfl) ?_ | refine Ok.cond ?_); conv => whnf) | refine Ok.block ?_ | ((first | refine Ok.skip ?_ | refine Ok.exit ?_ | refine Ok.ret ?_ | refine nI ?_ | refine ix _ (by assumption) ?_ | refine ixI (by omega) (by assumption) ?_ | refine ix_new _ (by omega) fun _ _ => ?_ | refine ixI_new (by omega) (by omega) fun _ _ => ?_ | refine ⟨_, by assumption, ?_⟩ | refine Alt2.l (aI ?_) | refine Alt2.r (aI ?_)); conv => whnf) | (refine Ok.scope ?_) | ((first | refine Ok.label ?_ | refine rd rfl (by assumption) ?_ | refine ⟨_, .inl ⟨rfl, rfl⟩, ?_⟩ | refine ⟨_, _, rfl, rfl, ?_⟩); conv => whnf) | (refine ⟨fun _ => ?_, fun _ => ?_⟩ <;> (conv => whnf) <;> (try (exfalso; omega))) | ((first | refine aJ ?_ | refine num_any ?_ | refine ⟨_, rfl, ?_⟩); conv => whnf) | fail)
      refine Or.inl ?_; (conv => whnf)
      show D.b True = _
      exact congrArg D.b (propext ⟨fun _ => ⟨hin, hall⟩, fun _ => trivial⟩)
end Go.Proofs.YtaiondckookpiaaGreatDoor
