/- The plain-data machine, part 17: lists of rows us lists of things. -/
import Derived.Test.YtkkmbgfhhcoehaaVy2
import Derived.Test.YtkkmbgfhhcoehaaVx14
namespace Go.Vx
open Go.RowKit
theorem ss_cons {B : Nat} {s : Shp} {ss : List Shp} {r : List D} (h : TySs B (s :: ss) r) : ∃ d ds, r = d :: ds ∧ TySs B [s] [d] ∧ TySs B ss ds := by
  cases r with
  | nil => simp [TySs] at h
  | cons d ds => simp only [TySs] at h; exact ⟨d, ds, rfl, by simpa only [TySs, and_true] using h.1, h.2⟩
theorem ss_nil {B : Nat} {r : List D} (h : TySs B [] r) : r = [] := by
  cases r with
  | nil => rfl
  | cons d ds => simp [TySs] at h
theorem as_cons {T : Tab} {B : Nat} {t : TypeId} {ts : List TypeId} {l : List Shp} {ls : List (List Shp)} {xs : List D} (h : TyAs T B (t :: ts) (l :: ls) xs) : ∃ x r, xs = x :: r ∧ TyA T B t l x ∧ TyAs T B ts ls r := by
  cases xs with
  | nil => exact h.elim
  | cons x r => exact ⟨x, r, rfl, h.1, h.2⟩
theorem as_nil {T : Tab} {B : Nat} {xs : List D} (h : TyAs T B [] [] xs) : xs = [] := by
  cases xs with
  | nil => rfl
  | cons x r => exact h.elim
def isSt : Option TI → Bool | some ⟨_, _, .struct _, _⟩ => true | _ => false
theorem leaf {T : Tab} {B : Nat} {t : TypeId} {l : List Shp} {x : D} (h : TyA T B t l x) (ht : isSt (T t) = false) : TySs B l [x] := by
  unfold TyA at h
  split at h
  · rename_i h1; rw [h1] at ht; cases ht
  · exact h
theorem agg_of {T : Tab} {B : Nat} {t : TypeId} {l : List Shp} {x : D} (h : TyA T B t l x) (ht : isSt (T t) = true) : ∃ row, x = .agg row ∧ TySs B l row := by
  unfold TyA at h
  split at h
  · exact h
  · rename_i h1
    exfalso
    unfold isSt at ht
    split at ht
    · rename_i h2; exact h1 _ _ _ _ h2
    · cases ht
theorem bool_of {B : Nat} {x : D} (h : TySs B [.bool] [x]) : ∃ p, x = .b p := by
  simpa only [TySs, TyS, and_true] using h
theorem list_of {α : Type} {f : α → List D} {p : α → Prop} : ∀ {rows : List (List D)}, (∀ r ∈ rows, ∃ a, r = f a ∧ p a) → ∃ l : List α, rows = l.map f ∧ ∀ a ∈ l, p a
  | [], _ => ⟨[], rfl, by simp⟩
  | r :: rows, h => by
    obtain ⟨a, rfl, ha⟩ := h r (by simp)
    obtain ⟨l, rfl, hl⟩ := list_of (rows := rows) fun r hr => h r (by simp [hr])
    exact ⟨a :: l, rfl, by simpa using ⟨ha, hl⟩⟩
theorem lst_of {B : Nat} {α : Type} {f : α → List D} {p : α → Prop} {e : TypeId} {l : List Shp} {x : D} (h : TySs B [.slice e l] [x]) (hf : ∀ r, TySs B l r → ∃ a, r = f a ∧ p a) :
    ∃ (us : List α) (room : List α), x = .lst e (us.map f) (room.map f) ∧ us.length + room.length ≤ B ∧ (∀ a ∈ us, p a) ∧ ∀ a ∈ room, p a := by
  simp only [TySs, TyS, and_true] at h
  obtain ⟨rows, room, rfl, hl, hr⟩ := h
  obtain ⟨us, rfl, h1⟩ := list_of (f := f) (p := p) (rows := rows) fun r h => hf r (hr r (by simp [h]))
  obtain ⟨bs, rfl, h2⟩ := list_of (f := f) (p := p) (rows := room) fun r h => hf r (hr r (by simp [h]))
  exact ⟨us, bs, rfl, by simpa using hl, h1, h2⟩
theorem int_of {B : Nat} {k : IntKind} {x : D} (h : TySs B [.int k] [x]) : ∃ n, x = .i k n ∧ (Lit.int k n).wf = true := by
  simpa only [TySs, TyS, and_true] using h
theorem str_of {B : Nat} {x : D} (h : TySs B [.str] [x]) : ∃ l, x = .s l ∧ l.length ≤ B := by
  simpa only [TySs, TyS, and_true] using h
theorem ints_of {B : Nat} {k : IntKind} {e : TypeId} {x : D} (h : TySs B [.slice e [.int k]] [x]) : ∃ (us : List Int) (room : List Int), x = .lst e (us.map fun n => [.i k n]) (room.map fun n => [.i k n]) ∧ us.length + room.length ≤ B ∧
    (∀ n ∈ us, (Lit.int k n).wf = true) ∧ ∀ n ∈ room, (Lit.int k n).wf = true :=
  lst_of h fun r hr => by
    obtain ⟨x, _, rfl, h1, h2⟩ := ss_cons hr
    obtain rfl := ss_nil h2
    obtain ⟨n, rfl, h⟩ := int_of h1
    exact ⟨n, rfl, h⟩
theorem wf64 {n : Int} (h : (Lit.int .i64 n).wf = true) : -9223372036854775808 ≤ n ∧ n ≤ 9223372036854775807 := by
  simpa [Lit.wf, IntKind.min, IntKind.max, IntKind.signed, IntKind.bits] using h
end Go.Vx
