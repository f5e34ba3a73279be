/- The plain-data machine, part 13: == at a struct type, cell by cell. Nothing here speaks of one program. -/
import Derived.Test.YtkkmbgfhhcoehaaVx12
import Derived.Laws.StructEq
namespace Go.Vx
open Go.RowKit

def eqFs (T : Tab) (E : TypeId → List Sh → Bool) : List Field → Nat → List Sh → Bool
  | [], _, sh => sh.isEmpty
  | f :: r, off, sh => f.name != "_" && f.offset == off && (match T f.type with
    | some ti => Nat.ble 1 ti.size && Nat.ble ti.size sh.length && E f.type (sh.take ti.size) && eqFs T E r (off + ti.size) (sh.drop ti.size)
    | none => false)
/-- The cells of a type are these, and == looks at them one by one. -/
def eqB (P : Program) (T : Tab) : Nat → TypeId → List Sh → Bool
  | 0, _, _ => false
  | d + 1, t, sh => match T t with
    | some ⟨1, _, .int k, _⟩ => match sh with | [.i k'] => Nat.beq (ikn k') (ikn k) | _ => false
    | some ⟨1, _, .str, _⟩ => match sh with | [.s] => true | _ => false
    | some ⟨_, _, .struct _, _⟩ => !P.stoodInHeld t && (match P.underlying t with | some (.struct fa) => eqFs T (eqB P T d) fa.toList 0 sh | _ => false)
    | _ => false

/-- A value that holds such cells. -/
def Holds (ti : TI) (v : Value) (x : List D) : Prop :=
  match ti.agg with
  | true => ∃ vs : Array Value, v = .agg vs ∧ vs.size = x.length ∧ ∀ (j : Nat) u d, vs[j]? = some u → x[j]? = some d → u = plainV d u
  | false => ∃ d, x = [d] ∧ v = plainV d v
def EqD (P : Program) (T : Tab) (dd : Nat) (t : TypeId) (sh : List Sh) : Prop :=
  ∀ (w : World) (ti : TI) (a b : Value) (x y : List D), T t = some ti → shB sh x = true → shB sh y = true → Holds ti a x → Holds ti b y → ∃ r : Bool, (Op.equalIn dd t a b).run P w = .ok r w ∧ (r = true ↔ eqDs x y)

theorem eqDs_cons (a b : D) (x y : List D) (h : x.length = y.length) : eqDs (a :: x) (b :: y) ↔ eqD a b ∧ eqDs x y := by
  cases x with
  | nil => cases y with
    | nil => simp [eqDs]
    | cons => simp at h
  | cons c x => cases y with
    | nil => simp at h
    | cons d y => simp [eqDs]
theorem eqDs_append : ∀ (x1 y1 x2 y2 : List D), x1.length = y1.length → x2.length = y2.length → (eqDs (x1 ++ x2) (y1 ++ y2) ↔ eqDs x1 y1 ∧ eqDs x2 y2)
  | [], [], x2, y2, _, _ => by simp [eqDs]
  | [], _ :: _, _, _, h, _ => by simp at h
  | _ :: _, [], _, _, h, _ => by simp at h
  | a :: x1, b :: y1, x2, y2, h1, h2 => by
    simp only [List.length_cons, Nat.add_right_cancel_iff] at h1
    rw [List.cons_append, List.cons_append, eqDs_cons _ _ _ _ (by simp [h1, h2]), eqDs_cons _ _ _ _ h1, eqDs_append x1 y1 x2 y2 h1 h2, and_assoc]
theorem shB_length : ∀ {sh : List Sh} {x : List D}, shB sh x = true → x.length = sh.length
  | [], x, h => by rw [shB_nil h]; rfl
  | a :: s, x, h => by
    obtain ⟨c, r, rfl, _, h2⟩ := shB_cons h
    simp [shB_length h2]
theorem shB_take : ∀ {sh : List Sh} {x : List D} (n : Nat), shB sh x = true → shB (sh.take n) (x.take n) = true ∧ shB (sh.drop n) (x.drop n) = true
  | [], x, n, h => by rw [shB_nil h]; simp [shB]
  | a :: s, x, 0, h => by simp [shB, h]
  | a :: s, x, n + 1, h => by
    obtain ⟨c, r, rfl, h1, h2⟩ := shB_cons h
    obtain ⟨h3, h4⟩ := shB_take n h2
    simp [shB, h1, h3, h4]

section
variable {P : Program} {T : Tab}
theorem part_holds (hT : TOk P T) (w : World) {t : TypeId} {ti : TI} (ht : T t = some ti) {xs : Array Value} {x : List D} (hl : xs.size = x.length) (hp : ∀ (j : Nat) u d, xs[j]? = some u → x[j]? = some d → u = plainV d u) {off : Nat} (hle : off + ti.size ≤ x.length) (h1 : ti.agg = false → ti.size = 1) :
    ∃ a, (part t xs off).run P w = .ok a w ∧ Holds ti a ((x.drop off).take ti.size) := by
  have hg := hT t ti ht
  cases hag : ti.agg with
  | true =>
    refine ⟨.agg (xs.extract off (off + ti.size)), ?_, ?_⟩
    · simp [part, hg.agg, hag, hg.size]
    · unfold Holds
      rw [hag]
      refine ⟨_, rfl, by simp; omega, fun j u d h2 h3 => ?_⟩
      rw [Array.getElem?_extract] at h2
      rw [List.getElem?_take] at h3
      split at h2
      · split at h3
        · rw [List.getElem?_drop] at h3
          exact hp _ _ _ h2 h3
        · cases h3
      · cases h2
  | false =>
    have hs := h1 hag
    have hlt : off < xs.size := by omega
    refine ⟨xs[off], ?_, ?_⟩
    · simp [part, hg.agg, hag, hlt]
    · unfold Holds
      rw [hag]
      have hx : off < x.length := by omega
      refine ⟨x[off], ?_, hp off _ _ (Array.getElem?_eq_getElem hlt) (List.getElem?_eq_getElem hx)⟩
      rw [hs, List.drop_eq_getElem_cons hx]
      rfl

theorem eqFs_sound (hT : TOk P T) (w : World) {dd : Nat} {E : TypeId → List Sh → Bool} (hE : ∀ t sh, E t sh = true → EqD P T dd t sh ∧ ∀ ti, T t = some ti → ti.agg = false → ti.size = 1) {xs ys : Array Value} {X Y : List D} (hlx : xs.size = X.length) (hly : ys.size = Y.length)
    (hpx : ∀ (j : Nat) u d, xs[j]? = some u → X[j]? = some d → u = plainV d u) (hpy : ∀ (j : Nat) u d, ys[j]? = some u → Y[j]? = some d → u = plainV d u) :
    ∀ (fs : List Field) (off : Nat) (sh : List Sh), eqFs T E fs off sh = true → shB sh (X.drop off) = true → shB sh (Y.drop off) = true →
      ∃ r : Bool, (Op.eqFields dd xs ys fs).run P w = .ok r w ∧ (r = true ↔ eqDs (X.drop off) (Y.drop off))
  | [], off, sh, h, hx, hy => by
    have : sh = [] := by simpa [eqFs] using h
    subst this
    refine ⟨true, by simp [Op.eqFields], ?_⟩
    rw [shB_nil hx, shB_nil hy]
    simp [eqDs]
  | f :: fs, off, sh, h, hx, hy => by
    simp only [eqFs, Bool.and_eq_true, bne_iff_ne, ne_eq, beq_iff_eq] at h
    obtain ⟨⟨hn, ho⟩, h⟩ := h
    split at h
    case h_2 => cases h
    rename_i ti hti
    simp only [Bool.and_eq_true, Nat.ble_eq] at h
    obtain ⟨⟨⟨hs1, hs2⟩, he⟩, hr⟩ := h
    obtain ⟨hEq, hone⟩ := hE _ _ he
    have hXl := shB_length hx
    have hYl := shB_length hy
    rw [List.length_drop] at hXl hYl
    obtain ⟨a, ha, hA⟩ := part_holds hT w hti hlx hpx (off := off) (by omega) (hone ti hti)
    obtain ⟨b, hb, hB⟩ := part_holds hT w hti hly hpy (off := off) (by omega) (hone ti hti)
    obtain ⟨hx1, hx2⟩ := shB_take ti.size hx
    obtain ⟨hy1, hy2⟩ := shB_take ti.size hy
    obtain ⟨r, hrr, hiff⟩ := hEq w ti a b _ _ hti hx1 hy1 hA hB
    rw [List.drop_drop] at hx2 hy2
    obtain ⟨r', hr', hiff'⟩ := eqFs_sound hT w hE hlx hly hpx hpy fs (off + ti.size) _ hr hx2 hy2
    have hsplit : eqDs (X.drop off) (Y.drop off) ↔ eqDs ((X.drop off).take ti.size) ((Y.drop off).take ti.size) ∧ eqDs (X.drop (off + ti.size)) (Y.drop (off + ti.size)) := by
      have h1 : X.drop off = (X.drop off).take ti.size ++ X.drop (off + ti.size) := by rw [← List.drop_drop, List.take_append_drop]
      have h2 : Y.drop off = (Y.drop off).take ti.size ++ Y.drop (off + ti.size) := by rw [← List.drop_drop, List.take_append_drop]
      have := eqDs_append ((X.drop off).take ti.size) ((Y.drop off).take ti.size) (X.drop (off + ti.size)) (Y.drop (off + ti.size)) (by simp; omega) (by simp; omega)
      rw [← h1, ← h2] at this
      exact this
    rw [hsplit]
    simp only [Op.eqFields, hn, ne_eq, not_false_eq_true, if_true, Sem.run_bind, ho, ha, hb, hrr, Result.andThen_ok]
    cases r with
    | false => exact ⟨false, by simp, by simp; intro e; exact absurd (hiff.2 e) (by simp)⟩
    | true => exact ⟨r', by simpa using hr', by rw [hiff']; simp [hiff.1 rfl]⟩

theorem eqB_sound (hT : TOk P T) (c : Nat) : ∀ (d : Nat) (t : TypeId) (sh : List Sh), eqB P T d t sh = true → EqD P T (c + d) t sh ∧ ∀ ti, T t = some ti → ti.agg = false → ti.size = 1
  | 0, _, _, h => by simp [eqB] at h
  | d + 1, t, sh, h => by
    simp only [eqB] at h
    split at h
    · rename_i bb k z hti
      refine ⟨?_, fun ti h1 _ => by rw [hti] at h1; cases h1; rfl⟩
      split at h
      case h_2 => cases h
      rename_i k'
      have := ikn_inj h
      subst this
      intro w ti a b x y ht hx hy ha hb
      rw [hti] at ht
      cases ht
      obtain ⟨d1, rfl, ha⟩ := ha
      obtain ⟨d2, rfl, hb⟩ := hb
      obtain ⟨_, _, e1, h1, _⟩ := shB_cons hx
      obtain ⟨_, _, e2, h2, _⟩ := shB_cons hy
      cases e1
      cases e2
      rcases sh1_val h1 with ⟨_, n, rfl, e⟩ | ⟨_, _, e⟩ <;> cases e
      rcases sh1_val h2 with ⟨_, m, rfl, e⟩ | ⟨_, _, e⟩ <;> cases e
      simp only [plainV] at ha hb
      subst ha hb
      have hu := (hT _ _ hti).kind
      refine ⟨n == m, by simp [Op.equalIn, run_under hu], by simp [eqDs, eqD]⟩
    · rename_i bb z hti
      refine ⟨?_, fun ti h1 _ => by rw [hti] at h1; cases h1; rfl⟩
      split at h
      case h_2 => cases h
      intro w ti a b x y ht hx hy ha hb
      rw [hti] at ht
      cases ht
      obtain ⟨d1, rfl, ha⟩ := ha
      obtain ⟨d2, rfl, hb⟩ := hb
      obtain ⟨_, _, e1, h1, _⟩ := shB_cons hx
      obtain ⟨_, _, e2, h2, _⟩ := shB_cons hy
      cases e1
      cases e2
      rcases sh1_val h1 with ⟨_, n, _, e⟩ | ⟨l, rfl, e⟩ <;> cases e
      rcases sh1_val h2 with ⟨_, m, _, e⟩ | ⟨m, rfl, e⟩ <;> cases e
      simp only [plainV] at ha hb
      subst ha hb
      have hu := (hT _ _ hti).kind
      refine ⟨bstr l == bstr m, by simp [Op.equalIn, run_under hu], ?_⟩
      rw [beq_toListBytes, bstr_toList, bstr_toList]
      simp [eqDs, eqD]
    · rename_i n bb fs z hti
      refine ⟨?_, fun ti h1 h2 => by rw [hti] at h1; cases h1; simp [TI.agg] at h2⟩
      simp only [Bool.and_eq_true, Bool.not_eq_true'] at h
      obtain ⟨hst, h⟩ := h
      split at h
      case h_2 => cases h
      rename_i fa hu
      intro w ti a b x y ht hx hy ha hb
      rw [hti] at ht
      cases ht
      obtain ⟨xs, rfl, hlx, hpx⟩ := ha
      obtain ⟨ys, rfl, hly, hpy⟩ := hb
      have hfs : P.fieldsOf t = fa := by simp [Program.fieldsOf, hu]
      obtain ⟨r, hr, hiff⟩ := eqFs_sound hT w (fun t sh h => eqB_sound hT c d t sh h) hlx hly hpx hpy fa.toList 0 sh h (by simpa using hx) (by simpa using hy)
      refine ⟨r, ?_, by simpa using hiff⟩
      rw [show c + (d + 1) = (c + d) + 1 from rfl, run_equalIn_struct w (c + d) t xs ys (by rw [hfs]; exact hu) hst, hfs]
      exact hr
    · cases h

/-- == at a struct type. -/
theorem EqT.of_b (hT : TOk P T) {t : TypeId} {sh : List Sh} {ti : TI} (ht : T t = some ti) (hag : ti.agg = true) (h : eqB P T 10 t sh = true) : EqT P t sh := by
  intro x y vs us w hx hy hl1 hl2 hp1 hp2
  have := (eqB_sound hT 9990 10 t sh h).1 w ti (.agg vs) (.agg us) x y ht hx hy (by unfold Holds; rw [hag]; exact ⟨vs, rfl, hl1, hp1⟩) (by unfold Holds; rw [hag]; exact ⟨us, rfl, hl2, hp2⟩)
  exact this

/-- A slice that comes in is no longer than slices are. -/
theorem FSpec.of_len {f : FuncId} {ds : List D} {R : D → Rows → Prop} (hcall : ∀ args w, (callFunc f args).run P w = .ok (.enter f args) w) (j : Nat) {e : TypeId} {rows room : List (List D)} (hj : ds[j]? = some (.lst e rows room))
    (h : rows.length + room.length ≤ 9223372036854775807 → FSpec P T f ds R) : FSpec P T f ds R := by
  refine ⟨hcall, fun V w args hV hl hR => ?_⟩
  have hja : j < args.size := by rw [hl]; exact (List.getElem?_eq_some_iff.1 hj).1
  have := hR j _ _ (Array.getElem?_eq_getElem hja) hj
  refine (h ?_).run V w args hV hl hR
  generalize args[j] = a at this
  cases this with
  | lst _ _ _ A ad c val hc hm => unfold maxLen at hm; omega
end
end Go.Vx
