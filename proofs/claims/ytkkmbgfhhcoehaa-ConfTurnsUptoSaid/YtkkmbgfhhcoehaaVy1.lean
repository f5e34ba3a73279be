/- The plain-data machine, part 14: from the form's reading of the arguments to plain data. -/
import Derived.Test.YtkkmbgfhhcoehaaVx13
import Derived.Test.YtkkmbgfhhcoehaaRows
import Derived.ProofKit
import Derived.Deep.Slices
namespace Go.Vx
open Go.RowKit Go.ChangeShapes Go.WideShapes
open Go.Proofs.Ytkkmbgfhhcoehaa (Rows.uptoBulk Rows.uptoBulkAll)

/-! ### Types of plain data -/
/-- What a cell holds: a number, a text, a bool, a slice of rows of such cells. -/
inductive Shp where
  | bool | int (k : IntKind) | str | slice (e : TypeId) (cells : List Shp)
def shpFs (F : TypeId → Option (List Shp)) : Nat → List (Nat × TypeId) → Option (List Shp)
  | _, [] => some []
  | k, (o, t) :: r => match Nat.beq o k, F t with
    | true, some l => (match shpFs F (k + l.length) r with | some m => some (l ++ m) | none => none)
    | _, _ => none
def lenIs (s : Nat) (o : Option (List Shp)) : Option (List Shp) := match o with | some l => (match Nat.beq s l.length with | true => some l | false => none) | none => none
/-- The cells of a type of numbers, texts, bools, structs and slices, all known. -/
def shpC (T : Tab) : Nat → TypeId → Option (List Shp)
  | 0, _ => none
  | f + 1, t => match T t with
    | some ⟨s, _, .bool, _⟩ => lenIs s (some [.bool])
    | some ⟨s, _, .int k, _⟩ => lenIs s (some [.int k])
    | some ⟨s, _, .str, _⟩ => lenIs s (some [.str])
    | some ⟨s, _, .slice e, _⟩ => lenIs s (match shpC T f e with | some l => some [.slice e l] | none => none)
    | some ⟨s, _, .struct fs, _⟩ => lenIs s (shpFs (shpC T f) 0 fs)
    | _ => none
mutual
/-- A cell of such a type; lists and texts of at most B. -/
def TyS (B : Nat) : Shp → D → Prop
  | .bool, d => ∃ p, d = .b p
  | .int k, d => ∃ n, d = .i k n ∧ (Lit.int k n).wf = true
  | .str, d => ∃ l, d = .s l ∧ l.length ≤ B
  | .slice e l, d => ∃ rows room, d = .lst e rows room ∧ rows.length + room.length ≤ B ∧ ∀ r, r ∈ rows ++ room → TySs B l r
/-- .. a row of cells. -/
def TySs (B : Nat) : List Shp → List D → Prop
  | [], [] => True
  | s :: ss, d :: ds => TyS B s d ∧ TySs B ss ds
  | [], _ :: _ => False
  | _ :: _, [] => False
end
/-- .. a value of such a type. -/
def TyA (T : Tab) (B : Nat) (t : TypeId) (l : List Shp) (x : D) : Prop :=
  match T t with
  | some ⟨_, _, .struct _, _⟩ => ∃ row, x = .agg row ∧ TySs B l row
  | _ => TySs B l [x]

theorem TySs.append {B : Nat} : ∀ {ts us : List Shp} {ds es : List D}, TySs B ts ds → TySs B us es → TySs B (ts ++ us) (ds ++ es)
  | [], _, [], _, _, h => h
  | _ :: _, _, _ :: _, _, h, h' => by
    simp only [TySs, List.cons_append] at h ⊢
    exact ⟨h.1, TySs.append h.2 h'⟩
  | [], _, _ :: _, _, h, _ => by simp [TySs] at h
  | _ :: _, _, [], _, h, _ => by simp [TySs] at h
theorem lenIs_some {s : Nat} {o : Option (List Shp)} {l : List Shp} (h : lenIs s o = some l) : o = some l ∧ s = l.length := by
  unfold lenIs at h
  split at h
  · split at h
    · rename_i hb
      cases h
      exact ⟨rfl, Nat.eq_of_beq_eq_true hb⟩
    · cases h
  · cases h
theorem shpC_len {T : Tab} {f : Nat} {t : TypeId} {l : List Shp} (h : shpC T f t = some l) : szOf T t = l.length ∧ ∃ ti, T t = some ti := by
  cases f with
  | zero => simp [shpC] at h
  | succ f =>
    simp only [shpC] at h
    split at h
    all_goals first
      | (cases h)
      | (rename_i ht; have := lenIs_some h; rw [szOf_eq ht]; exact ⟨this.2, _, ht⟩)

section
variable {H : Type} {enc : TypeId × Value → H} {P : Program} {T : Tab} {w : World} {held : Bool}

theorem bulk_mem {d : DataW H} : ∀ {l : List (DataW H)}, d ∈ l → Rows.uptoBulk d ≤ Rows.uptoBulkAll l
  | [], h => by cases h
  | x :: r, h => by
    simp only [Rows.uptoBulkAll]
    rcases List.mem_cons.1 h with rfl | h
    · omega
    · have := bulk_mem h; omega
theorem bulk_one (d : DataW H) : 1 ≤ Rows.uptoBulk d := by
  cases d with
  | lit l => cases l <;> simp [Rows.uptoBulk]
  | _ => simp [Rows.uptoBulk]
theorem bulk_length : ∀ (l : List (DataW H)), l.length ≤ Rows.uptoBulkAll l
  | [] => by simp [Rows.uptoBulkAll]
  | x :: r => by have := bulk_one x; have := bulk_length r; simp only [Rows.uptoBulkAll, List.length_cons]; omega

/-- The cells of one reading, and their data. -/
def CellsR (T : Tab) (w : World) (cs : List Value) (row : List D) : Prop :=
  cs.length = row.length ∧ ∀ (j : Nat) v d, cs[j]? = some v → row[j]? = some d → RI (szOf T) (heapV w) v d ∧ v.oneCell' = true
theorem CellsR.append {cs cs' : List Value} {row row' : List D} (h : CellsR T w cs row) (h' : CellsR T w cs' row') : CellsR T w (cs ++ cs') (row ++ row') := by
  refine ⟨by simp [h.1, h'.1], fun j v d h1 h2 => ?_⟩
  by_cases hj : j < cs.length
  · rw [List.getElem?_append_left hj] at h1
    rw [List.getElem?_append_left (by rw [← h.1]; exact hj)] at h2
    exact h.2 j v d h1 h2
  · rw [List.getElem?_append_right (by omega)] at h1
    rw [List.getElem?_append_right (by rw [← h.1]; omega), ← h.1] at h2
    exact h'.2 _ v d h1 h2
theorem CellsR.one {v : Value} {d : D} (h : RI (szOf T) (heapV w) v d) (h1 : v.oneCell' = true) : CellsR T w [v] [d] := by
  refine ⟨rfl, fun j v' d' h2 h3 => ?_⟩
  cases j with
  | zero => simp at h2 h3; subst h2 h3; exact ⟨h, h1⟩
  | succ j => simp at h2

theorem cells_of (hT : TOk P T) {t : TypeId} (h : ∃ ti, T t = some ti) : szOf T t = P.cellsOf t := by
  obtain ⟨ti, ht⟩ := h
  obtain ⟨i, z, h1, h2, _⟩ := (hT t ti ht).info
  rw [szOf_eq ht]
  simp [Program.cellsOf, h1, h2]
theorem fields_ri {f B : Nat} {k : Nat} (ih : ∀ t cs x l, shpC T f t = some l → (B = maxLen ∨ Rows.uptoBulk x.1 ≤ B) → DataW.trod enc P w 0 (fun _ => true) held k t cs = some x → ∃ row, TySs B l row ∧ CellsR T w cs row)
    (hT : TOk P T) (cs : List Value) :
    ∀ (fs : List (Nat × TypeId)) (o : Nat) (xs : List (DataW H × List MemPlace)) (l : List Shp), shpFs (shpC T f) o fs = some l →
      (B = maxLen ∨ Rows.uptoBulkAll (xs.map (·.1)) ≤ B) → xs.length = fs.length →
      (∀ (i : Nat) p, fs[i]? = some p → DataW.trod enc P w 0 (fun _ => true) held k p.2 ((cs.drop p.1).take (P.cellsOf p.2)) = xs[i]?) →
      cs.length = o + l.length → ∃ row, TySs B l row ∧ CellsR T w (cs.drop o) row
  | [], o, xs, l, h1, _, _, _, hl => ⟨[], by simp [shpFs] at h1; subst h1; simp [TySs], by
      simp [shpFs] at h1
      subst h1
      have : cs.drop o = [] := List.drop_of_length_le (by rw [hl]; simp)
      rw [this]
      exact ⟨rfl, fun j v d h => by simp at h⟩⟩
  | (o', t) :: r, o, xs, l, h1, hB, hxl, hx, hl => by
    simp only [shpFs] at h1
    split at h1
    case h_2 => cases h1
    rename_i l0 hb ht
    split at h1
    case h_2 => cases h1
    rename_i m hm
    cases h1
    have ho : o' = o := Nat.eq_of_beq_eq_true hb
    obtain ⟨hs, hti⟩ := shpC_len ht
    subst ho
    cases xs with
    | nil => simp at hxl
    | cons x0 xs =>
      have h0 := hx 0 _ rfl
      simp only [List.getElem?_cons_zero] at h0
      have hb0 : B = maxLen ∨ Rows.uptoBulk x0.1 ≤ B := by
        rcases hB with hB | hB
        · exact .inl hB
        · right; simp only [List.map_cons, Rows.uptoBulkAll] at hB; omega
      have hb1 : B = maxLen ∨ Rows.uptoBulkAll (xs.map (·.1)) ≤ B := by
        rcases hB with hB | hB
        · exact .inl hB
        · right; simp only [List.map_cons, Rows.uptoBulkAll] at hB; omega
      simp only [List.length_append] at hl
      obtain ⟨row0, a0, r0⟩ := ih _ _ _ _ ht hb0 h0
      obtain ⟨row1, a1, r1⟩ := fields_ri ih hT cs r (o' + l0.length) xs m hm hb1 (by simpa using hxl) (fun i p hp => by
        have := hx (i + 1) p (by simpa using hp)
        simpa using this) (by omega)
      refine ⟨row0 ++ row1, a0.append a1, ?_⟩
      have hc : cs.drop o' = (cs.drop o').take (P.cellsOf t) ++ cs.drop (o' + l0.length) := by
        rw [← cells_of hT hti, hs, ← List.drop_drop, List.take_append_drop]
      rw [hc]
      exact r0.append r1

theorem trod_ri (hT : TOk P T) (B : Nat) (hBm : B ≤ maxLen) : ∀ (f k : Nat) (t : TypeId) (cs : List Value) (x : DataW H × List MemPlace) (l : List Shp), shpC T f t = some l → (B = maxLen ∨ Rows.uptoBulk x.1 ≤ B) →
    DataW.trod enc P w 0 (fun _ => true) held k t cs = some x → ∃ row, TySs B l row ∧ CellsR T w cs row
  | 0, _, _, _, _, _, h, _, _ => by simp [shpC] at h
  | f + 1, k, t, cs, x, l, hok, hB, h => by
    cases ht : T t with
    | none => simp [shpC, ht] at hok
    | some ti =>
      obtain ⟨s, b, kd, z⟩ := ti
      have hG := (hT t _ ht).kind
      cases kd with
      | bool =>
        obtain ⟨v, rfl, rfl⟩ := DataW.trod_bool hG h
        simp only [shpC, ht] at hok
        obtain ⟨hok, _⟩ := lenIs_some hok
        cases hok
        refine ⟨[.b (v = true)], ?_, .one (.b _ _ Iff.rfl) rfl⟩
        simp only [TySs, TyS, and_true]
        exact ⟨_, rfl⟩
      | int kk =>
        obtain ⟨n, rfl, rfl, hw⟩ := DataW.trod_int hG h
        simp only [shpC, ht] at hok
        obtain ⟨hok, _⟩ := lenIs_some hok
        cases hok
        refine ⟨[.i kk n], ?_, .one (.i _ _) rfl⟩
        simp [TySs, TyS, hw]
      | str =>
        obtain ⟨v, rfl, rfl, hl⟩ := DataW.trod_string hG h
        simp only [shpC, ht] at hok
        obtain ⟨hok, _⟩ := lenIs_some hok
        cases hok
        refine ⟨[.s v.data.toList], ?_, .one (by have := RI.s (sz := szOf T) (V := heapV w) v.data.toList; rwa [bstr_data] at this) rfl⟩
        simp only [TySs, TyS, and_true]
        refine ⟨_, rfl, ?_⟩
        have hl' : v.data.toList.length ≤ maxLen := by rw [Array.length_toList]; exact hl
        rcases hB with rfl | hB
        · exact hl'
        · simp only [Rows.uptoBulk] at hB; omega
      | slice e =>
        simp only [shpC, ht] at hok
        obtain ⟨hok, _⟩ := lenIs_some hok
        split at hok
        case h_2 => cases hok
        rename_i le hle
        cases hok
        obtain ⟨hse, hti⟩ := shpC_len hle
        have hce := cells_of hT hti
        rcases Go.Deep.open_slice hG h with ⟨rfl, rfl⟩ | ⟨a, len, cap, m, n, Df, Pl, rfl, _, hlc, hcm, hm, rfl, hx⟩
        · refine ⟨[.lst e [] []], ?_, .one (RI.lst e [] [] none ⟨0, 0, none⟩ 0 (fun _ _ => undef) (by simp) (by unfold maxLen; omega) (by simp) (by simp) (by simp) (by simp) (by simp)) rfl⟩
          simp only [TySs, TyS, and_true]
          exact ⟨[], [], rfl, Nat.zero_le _, fun r hr => by cases hr⟩
        · simp only [if_true] at hm
          subst hm
          have hbi : ∀ i, i < m → (B = maxLen ∨ Rows.uptoBulk (Df i) ≤ B) := by
            intro i hi
            rcases hB with hB | hB
            · exact .inl hB
            · right
              simp only [Rows.uptoBulk] at hB
              by_cases hil : i < len
              · have := bulk_mem (d := Df i) (l := (List.range len).map Df) (List.mem_map.2 ⟨i, by simpa using hil, rfl⟩)
                omega
              · have := bulk_mem (d := Df i) (l := (List.range (m - len)).map fun j => Df (len + j)) (List.mem_map.2 ⟨i - len, by simp; omega, by rw [show len + (i - len) = i by omega]⟩)
                omega
          have hmB : m ≤ B := by
            rcases hB with rfl | hB
            · exact hcm
            · simp only [Rows.uptoBulk] at hB
              have h1 := bulk_length ((List.range len).map Df)
              have h2 := bulk_length ((List.range (m - len)).map fun j => Df (len + j))
              simp at h1 h2
              omega
          have key : ∀ i, i < m → ∃ p : List Value × List D, w.cells? 0 (a.add (i * szOf T e)) (szOf T e) = some p.1 ∧ TySs B le p.2 ∧ CellsR T w p.1 p.2 := by
            intro i hi
            obtain ⟨cs', h1, h2⟩ := hx i hi
            obtain ⟨row, h3, h4⟩ := trod_ri hT B hBm f n e cs' _ le hle (hbi i hi) h2
            exact ⟨(cs', row), by rw [hce]; exact h1, h3, h4⟩
          obtain ⟨g, hg⟩ := Go.Deep.choose_lt key
          have hat : ∀ (i : Nat) row, (((List.range len).map fun i => (g i).2) ++ ((List.range (m - len)).map fun j => (g (len + j)).2))[i]? = some row → i < m ∧ row = (g i).2 := by
            intro i row hr
            by_cases hil : i < len
            · rw [List.getElem?_append_left (by simpa using hil)] at hr
              simp [hil] at hr
              exact ⟨by omega, hr.symm⟩
            · rw [List.getElem?_append_right (by simp; omega)] at hr
              simp only [List.length_map, List.length_range, List.getElem?_map, Option.map_eq_some_iff] at hr
              obtain ⟨j, hj, rfl⟩ := hr
              have hj2 := List.getElem?_eq_some_iff.1 hj
              obtain ⟨hj3, hj4⟩ := hj2
              simp at hj3 hj4
              refine ⟨by omega, by rw [← hj4, show len + (i - len) = i by omega]⟩
          have hcell : ∀ i, i < m → (g i).1.length = szOf T e ∧ ∀ j, j < szOf T e → w.cell? ((a.add (i * szOf T e)).add j) = (g i).1[j]? := by
            intro i hi
            obtain ⟨_, h2, h3⟩ := World.cells?_some (hg i hi).1
            exact ⟨h2, h3⟩
          refine ⟨[.lst e ((List.range len).map fun i => (g i).2) ((List.range (m - len)).map fun j => (g (len + j)).2)], ?_, .one ?_ rfl⟩
          · simp only [TySs, TyS, and_true]
            refine ⟨_, _, rfl, by simp; omega, fun r hr => ?_⟩
            obtain ⟨i, hi⟩ := List.getElem?_of_mem hr
            obtain ⟨h1, rfl⟩ := hat i r hi
            exact (hg i h1).2.1
          · have hres := RI.lst (sz := szOf T) (V := heapV w) e ((List.range len).map fun i => (g i).2) ((List.range (m - len)).map fun j => (g (len + j)).2) (some a) a m (fun i j => (g i).1.getD j undef)
              (by simp; omega) hcm (fun _ => rfl) (fun hno => by cases hno)
              (fun i row hr => by
                obtain ⟨h1, rfl⟩ := hat i row hr
                rw [← (hg i h1).2.2.1, (hcell i h1).1])
              (fun i row j d hr hd => by
                obtain ⟨h1, rfl⟩ := hat i row hr
                have hj : j < (g i).1.length := by rw [(hg i h1).2.2.1]; exact (List.getElem?_eq_some_iff.1 hd).1
                have h2 := (hcell i h1).2 j (by rw [← (hcell i h1).1]; exact hj)
                have hv : (g i).1[j]? = some ((g i).1.getD j undef) := by simp [List.getD, List.getElem?_eq_getElem hj]
                refine ⟨?_, ((hg i h1).2.2.2 j _ d hv hd).2⟩
                show w.cell? _ = _
                rw [← add_add, h2, hv])
              (fun i row j d hr hd => by
                obtain ⟨h1, rfl⟩ := hat i row hr
                have hj : j < (g i).1.length := by rw [(hg i h1).2.2.1]; exact (List.getElem?_eq_some_iff.1 hd).1
                have hv : (g i).1[j]? = some ((g i).1.getD j undef) := by simp [List.getD, List.getElem?_eq_getElem hj]
                exact ((hg i h1).2.2.2 j _ d hv hd).1)
            simpa using hres
      | struct fs =>
        simp only [shpC, ht] at hok
        obtain ⟨hok, hs⟩ := lenIs_some hok
        obtain ⟨fa, hu, hfa⟩ := hG
        obtain ⟨xs, n, _, rfl, hl, hxl, hx⟩ := DataW.trod_struct hu h
        have hc : P.cellsOf t = s := by
          obtain ⟨i, z', h1, h2, _⟩ := (hT t _ ht).info
          simp [Program.cellsOf, h1, h2]
        have hfl : fs.length = fa.size := by rw [← hfa]; simp
        obtain ⟨row, h1, h2⟩ := fields_ri (fun t cs x l a b c => trod_ri hT B hBm f n t cs x l a b c) hT cs fs 0 xs l hok (by
            rcases hB with hB | hB
            · exact .inl hB
            · right; simp only [Rows.uptoBulk] at hB; omega) (by rw [hxl, hfl]) (fun i p hp => by
            rw [← hfa] at hp
            simp only [List.getElem?_map, Option.map_eq_some_iff] at hp
            obtain ⟨fd, h3, rfl⟩ := hp
            exact hx i fd (by simpa using h3)) (by rw [hl, hc, hs, Nat.zero_add])
        exact ⟨row, h1, by simpa using h2⟩
      | array n e => simp [shpC, ht] at hok
      | ptr e => simp [shpC, ht] at hok
      | other => simp [shpC, ht] at hok
end
end Go.Vx
