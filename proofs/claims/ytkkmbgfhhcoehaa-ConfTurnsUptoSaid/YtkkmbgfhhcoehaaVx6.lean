/- The plain-data machine, part 6: the operations that make or change memory. Nothing here speaks of one program. -/
import Derived.Test.YtkkmbgfhhcoehaaVx5
namespace Go.Vx
open Go.RowKit

/-! ### What they ask -/
def snocK {α : Type} : List α → α → (List α → Prop) → Prop
  | [], x, K => K [x]
  | y :: r, x, K => snocK r x fun r => K (y :: r)
theorem snocK_eq {α : Type} (l : List α) (x : α) : ∀ K : List α → Prop, snocK l x K = K (l ++ [x]) := by
  induction l with
  | nil => intro K; rfl
  | cons y r ih => intro K; simp only [snocK, ih, List.cons_append]
def setK {α : Type} : List α → Nat → α → (List α → Prop) → Prop
  | [], _, _, _ => False
  | _ :: r, 0, x, K => K (x :: r)
  | y :: r, i + 1, x, K => setK r i x fun r => K (y :: r)
theorem setK_iff {α : Type} (l : List α) (x : α) : ∀ (i : Nat) (K : List α → Prop), setK l i x K → i < l.length ∧ K (l.set i x) := by
  induction l with
  | nil => intro i K h; exact h.elim
  | cons y r ih =>
    intro i K h
    cases i with
    | zero => exact ⟨by simp, h⟩
    | succ i => obtain ⟨h1, h2⟩ := ih i _ h; exact ⟨by simpa using h1, h2⟩
/-- A small number, written out. -/
def natLit (n : Nat) (K : Nat → Prop) : Prop :=
  match n with
  | 0 => K 0 | 1 => K 1 | 2 => K 2 | 3 => K 3 | 4 => K 4 | 5 => K 5 | 6 => K 6 | 7 => K 7 | 8 => K 8 | 9 => K 9 | 10 => K 10 | 11 => K 11 | 12 => K 12 | 13 => K 13 | 14 => K 14
  | 15 => K 15 | 16 => K 16 | 17 => K 17 | 18 => K 18 | 19 => K 19 | 20 => K 20 | 21 => K 21 | 22 => K 22 | 23 => K 23 | 24 => K 24 | n => K n
theorem natLit_eq (n : Nat) (K : Nat → Prop) : natLit n K = K n := by
  unfold natLit
  split <;> rfl
def eqN (a b : Nat) (p : Prop) : Prop := match Nat.beq a b with | true => p | false => False
theorem eqN_iff {a b : Nat} {p : Prop} (h : eqN a b p) : a = b ∧ p := by
  unfold eqN at h
  split at h
  · rename_i hb; exact ⟨beq_nat_true hb, h⟩
  · exact h.elim

/-- Handles on row r in what a function value holds, turned. -/
def sub0 (r : Nat) (f : Nat → D) (d : D) (K : D → Prop) : Prop :=
  match d with
  | .own q m => match Nat.beq q r with | true => (f m).force K | false => K (.own q m)
  | .op q e j o => match Nat.beq q r with | true => K .u | false => K (.op q e j o)
  | .agg _ => K .u
  | .tup _ => K .u
  | .fnh .. => K .u
  | d => d.force K
def subL0 (r : Nat) (f : Nat → D) : List D → (List D → Prop) → Prop
  | [], K => K []
  | d :: ds, K => sub0 r f d fun d => subL0 r f ds fun ds => K (d :: ds)
/-- Handles on row r in a datum, turned. -/
def sub1 (r : Nat) (f : Nat → D) (d : D) (K : D → Prop) : Prop :=
  match d with
  | .own q m => match Nat.beq q r with | true => (f m).force K | false => K (.own q m)
  | .op q e j o => match Nat.beq q r with | true => K .u | false => K (.op q e j o)
  | .agg _ => K .u
  | .tup _ => K .u
  | .fnh q x y => subL0 r f x fun x => subL0 r f y fun y => K (.fnh q x y)
  | d => d.force K
def subL (r : Nat) (f : Nat → D) : List D → (List D → Prop) → Prop
  | [], K => K []
  | d :: ds, K => sub1 r f d fun d => subL r f ds fun ds => K (d :: ds)
def sub2 (r : Nat) (f : Nat → D) (d : D) (K : D → Prop) : Prop :=
  match d with
  | .agg cs => subL r f cs fun cs => K (.agg cs)
  | d => sub1 r f d K
def subT (r : Nat) (f : Nat → D) : List D → (List D → Prop) → Prop
  | [], K => K []
  | d :: ds, K => sub2 r f d fun d => subT r f ds fun ds => K (d :: ds)
def subD (r : Nat) (f : Nat → D) (d : D) (K : D → Prop) : Prop :=
  match d with
  | .tup cs => subT r f cs fun cs => K (.tup cs)
  | d => sub2 r f d K
def subE (r : Nat) (f : Nat → D) : List (Nat × D) → (List (Nat × D) → Prop) → Prop
  | [], K => K []
  | (t, d) :: ds, K => subD r f d fun d => subE r f ds fun ds => K ((t, d) :: ds)
def subB (r : Nat) (f : Nat → D) : List (List D) → (List (List D) → Prop) → Prop
  | [], K => K []
  | c :: cs, K => subL r f c fun c => subB r f cs fun cs => K (c :: cs)

/-- As they would be without the forcing. -/
def sub0F (r : Nat) (f : Nat → D) : D → D
  | .own q m => if q = r then f m else .own q m
  | .op q e j o => if q = r then .u else .op q e j o
  | .agg _ => .u
  | .tup _ => .u
  | .fnh .. => .u
  | d => d
def sub1F (r : Nat) (f : Nat → D) : D → D
  | .own q m => if q = r then f m else .own q m
  | .op q e j o => if q = r then .u else .op q e j o
  | .agg _ => .u
  | .tup _ => .u
  | .fnh q x y => .fnh q (x.map (sub0F r f)) (y.map (sub0F r f))
  | d => d
def sub2F (r : Nat) (f : Nat → D) : D → D
  | .agg cs => .agg (cs.map (sub1F r f))
  | d => sub1F r f d
def subDF (r : Nat) (f : Nat → D) : D → D
  | .tup cs => .tup (cs.map (sub2F r f))
  | d => sub2F r f d
theorem sub0_eq (r : Nat) (f : Nat → D) (d : D) (K : D → Prop) : sub0 r f d K = K (sub0F r f d) := by
  cases d <;> simp only [sub0, sub0F, D.force_eq]
  · rename_i q m
    by_cases h : q = r
    · subst h; simp [Nat.beq_refl]
    · have : Nat.beq q r = false := by
        cases hq : Nat.beq q r with
        | false => rfl
        | true => exact absurd (beq_nat_true hq) h
      simp [this, h]
  · rename_i q e j o
    by_cases h : q = r
    · subst h; simp [Nat.beq_refl]
    · have : Nat.beq q r = false := by
        cases hq : Nat.beq q r with
        | false => rfl
        | true => exact absurd (beq_nat_true hq) h
      simp [this, h]
theorem subL0_eq (r : Nat) (f : Nat → D) (l : List D) : ∀ K : List D → Prop, subL0 r f l K = K (l.map (sub0F r f)) := by
  induction l with
  | nil => intro K; rfl
  | cons d l ih => intro K; simp only [subL0, sub0_eq, ih, List.map_cons]
theorem sub1_eq (r : Nat) (f : Nat → D) (d : D) (K : D → Prop) : sub1 r f d K = K (sub1F r f d) := by
  cases d <;> simp only [sub1, sub1F, D.force_eq, subL0_eq]
  · rename_i q m
    by_cases h : q = r
    · subst h; simp [Nat.beq_refl]
    · have : Nat.beq q r = false := by
        cases hq : Nat.beq q r with
        | false => rfl
        | true => exact absurd (beq_nat_true hq) h
      simp [this, h]
  · rename_i q e j o
    by_cases h : q = r
    · subst h; simp [Nat.beq_refl]
    · have : Nat.beq q r = false := by
        cases hq : Nat.beq q r with
        | false => rfl
        | true => exact absurd (beq_nat_true hq) h
      simp [this, h]
theorem subL_eq (r : Nat) (f : Nat → D) (l : List D) : ∀ K : List D → Prop, subL r f l K = K (l.map (sub1F r f)) := by
  induction l with
  | nil => intro K; rfl
  | cons d l ih => intro K; simp only [subL, sub1_eq, ih, List.map_cons]
theorem sub2_eq (r : Nat) (f : Nat → D) (d : D) (K : D → Prop) : sub2 r f d K = K (sub2F r f d) := by
  cases d <;> simp only [sub2, sub2F, subL_eq, sub1_eq]
theorem subT_eq (r : Nat) (f : Nat → D) (l : List D) : ∀ K : List D → Prop, subT r f l K = K (l.map (sub2F r f)) := by
  induction l with
  | nil => intro K; rfl
  | cons d l ih => intro K; simp only [subT, sub2_eq, ih, List.map_cons]
theorem subD_eq (r : Nat) (f : Nat → D) (d : D) (K : D → Prop) : subD r f d K = K (subDF r f d) := by
  cases d <;> simp only [subD, subDF, subT_eq, sub2_eq]
theorem subE_eq (r : Nat) (f : Nat → D) (l : List (Nat × D)) : ∀ K : List (Nat × D) → Prop, subE r f l K = K (l.map fun x => (x.1, subDF r f x.2)) := by
  induction l with
  | nil => intro K; rfl
  | cons d l ih => intro K; obtain ⟨t, d⟩ := d; simp only [subE, subD_eq, ih, List.map_cons]
theorem subB_eq (r : Nat) (f : Nat → D) (l : List (List D)) : ∀ K : List (List D) → Prop, subB r f l K = K (l.map fun c => c.map (sub1F r f)) := by
  induction l with
  | nil => intro K; rfl
  | cons d l ih => intro K; simp only [subB, subL_eq, ih, List.map_cons]
theorem look_sub (r : Nat) (f : Nat → D) (env : List (Nat × D)) (t : Nat) : look (env.map fun x => (x.1, subDF r f x.2)) t = subDF r f (look env t) := by
  induction env with
  | nil => rfl
  | cons x env ih =>
    obtain ⟨q, d⟩ := x
    simp only [List.map_cons, look]
    split
    · rfl
    · exact ih

/-- The first handle on a row. -/
def owns : List D → Option Nat
  | [] => none
  | .own r _ :: _ => some r
  | _ :: ds => owns ds
def ownsD : D → Option Nat
  | .own r _ => some r
  | .agg cs => owns cs
  | .tup cs => owns cs
  | _ => none
def ownsDs : List D → Option Nat
  | [] => none
  | d :: ds => match ownsD d with | some r => some r | none => ownsDs ds

/-- Row r is handed on for good: nobody writes into it any more. -/
def pubK (r : Nat) (s : St) (ds : List D) (K : List D → St → Prop) : Prop :=
  match s with
  | ⟨env, box, row, n⟩ => match row[r]? with
    | some (some (e, xs)) => subE r (fun m => .lst e (xs.take m) (xs.drop m)) env fun env => subB r (fun m => .lst e (xs.take m) (xs.drop m)) box fun box =>
        setK row r none fun row => (match ds with
          | [] => K [] ⟨env, box, row, n⟩
          | ds => subDs r (fun m => .lst e (xs.take m) (xs.drop m)) ds fun ds => K ds ⟨env, box, row, n⟩)
    | _ => False
where
  subDs (r : Nat) (f : Nat → D) : List D → (List D → Prop) → Prop
  | [], K => K []
  | d :: ds, K => subD r f d fun d => subDs r f ds fun ds => K (d :: ds)
theorem pubK.subDs_eq (r : Nat) (f : Nat → D) (l : List D) : ∀ K : List D → Prop, pubK.subDs r f l K = K (l.map (subDF r f)) := by
  induction l with
  | nil => intro K; rfl
  | cons d l ih => intro K; simp only [pubK.subDs, subD_eq, ih, List.map_cons]
/-- All rows that these data have handles on. -/
def pubsK : Nat → St → List D → (List D → St → Prop) → Prop
  | 0, _, _, _ => False
  | k + 1, s, ds, K => match ownsDs ds with
    | none => K ds s
    | some r => pubK r s ds fun ds s => pubsK k s ds K

section
variable {w0 w w' : World} {V0 : Fr} {V : Vw} {μ : List Nat} {ω : List Value} {box : List (List D)} {row : Rows} {s : St} {a : Act} {P : Program} {T : Tab} {sz : TypeId → Nat}

/-! ### Handles turned -/
theorem RS.sub0 {r : Nat} {f : Nat → D} {V' : Vw} {ω' : List Value} {v : Value} {d : D} (h : RS sz V μ ω v d) (hV : VLe V V') (hω : ∀ q v, q ≠ r → ω[q]? = some v → ω'[q]? = some v)
    (hf : ∀ m v, RS sz V μ ω v (.own r m) → RS sz V' μ ω' v (f m)) : RS sz V' μ ω' v (sub0F r f d) := by
  cases h with
  | imm _ _ hi => cases hi <;> first | exact .imm _ _ (.u _) | exact .imm _ _ (RI.mono (by assumption) hV) | skip
                  case i => exact .imm _ _ (.i _ _)
                  case b x p hx => exact .imm _ _ (.b _ _ hx)
                  case tt => exact .imm _ _ .tt
                  case ff => exact .imm _ _ .ff
                  case s => exact .imm _ _ (.s _)
                  case nilS => exact .imm _ _ .nilS
                  case nilP => exact .imm _ _ .nilP
                  case lst e rows room A ad c val hc hm hA hn hl hV1 hR => exact .imm _ _ (RI.mono (.lst e rows room A ad c val hc hm hA hn hl hV1 hR) hV)
                  case ep cells ad val hV1 hR => exact .imm _ _ (RI.mono (.ep cells ad val hV1 hR) hV)
                  case fn f x y vs us h1 h2 hR1 hR2 => exact .imm _ _ (RI.mono (.fn f x y vs us h1 h2 hR1 hR2) hV)
  | own q m A N c hq hm =>
    simp only [sub0F]
    split
    · rename_i he; subst he; exact hf m _ (.own q m A N c hq hm)
    · rename_i hne; exact .own q m A N c (hω q _ hne hq) hm
  | op q e j off g N c hq =>
    simp only [sub0F]
    split
    · exact .imm _ _ (.u _)
    · rename_i hne; exact .op q e j off g N c (hω q _ hne hq)
  | bp i off g hg => exact .bp i off g hg
  | agg cs => exact .imm _ _ (.u _)
  | tup cs => exact .imm _ _ (.u _)
  | fnh => exact .imm _ _ (.u _)
theorem RS.sub1 {r : Nat} {f : Nat → D} {V' : Vw} {ω' : List Value} {v : Value} {d : D} (h : RS sz V μ ω v d) (hV : VLe V V') (hω : ∀ q v, q ≠ r → ω[q]? = some v → ω'[q]? = some v)
    (hf : ∀ m v, RS sz V μ ω v (.own r m) → RS sz V' μ ω' v (f m)) : RS sz V' μ ω' v (sub1F r f d) := by
  cases h with
  | imm _ _ hi => cases hi <;> first | exact .imm _ _ (.u _) | exact .imm _ _ (RI.mono (by assumption) hV) | skip
                  case i => exact .imm _ _ (.i _ _)
                  case b x p hx => exact .imm _ _ (.b _ _ hx)
                  case tt => exact .imm _ _ .tt
                  case ff => exact .imm _ _ .ff
                  case s => exact .imm _ _ (.s _)
                  case nilS => exact .imm _ _ .nilS
                  case nilP => exact .imm _ _ .nilP
                  case lst e rows room A ad c val hc hm hA hn hl hV1 hR => exact .imm _ _ (RI.mono (.lst e rows room A ad c val hc hm hA hn hl hV1 hR) hV)
                  case ep cells ad val hV1 hR => exact .imm _ _ (RI.mono (.ep cells ad val hV1 hR) hV)
                  case fn f x y vs us h1 h2 hR1 hR2 => exact .imm _ _ (RI.mono (.fn f x y vs us h1 h2 hR1 hR2) hV)
  | own q m A N c hq hm =>
    simp only [sub1F]
    split
    · rename_i he; subst he; exact hf m _ (.own q m A N c hq hm)
    · rename_i hne; exact .own q m A N c (hω q _ hne hq) hm
  | op q e j off g N c hq =>
    simp only [sub1F]
    split
    · exact .imm _ _ (.u _)
    · rename_i hne; exact .op q e j off g N c (hω q _ hne hq)
  | bp i off g hg => exact .bp i off g hg
  | agg cs => exact .imm _ _ (.u _)
  | tup cs => exact .imm _ _ (.u _)
  | fnh q x y vs us h1 h2 hR1 hR2 =>
    refine .fnh q _ _ vs us (by simpa using h1) (by simpa using h2) (fun j v d a b => ?_) (fun j v d a b => ?_)
    · simp only [List.getElem?_map, Option.map_eq_some_iff] at b
      obtain ⟨c, hc, rfl⟩ := b
      exact (hR1 j v c a hc).sub0 hV hω hf
    · simp only [List.getElem?_map, Option.map_eq_some_iff] at b
      obtain ⟨c, hc, rfl⟩ := b
      exact (hR2 j v c a hc).sub0 hV hω hf
theorem RS.sub2 {r : Nat} {f : Nat → D} {V' : Vw} {ω' : List Value} {v : Value} {d : D} (h : RS sz V μ ω v d) (hV : VLe V V') (hω : ∀ q v, q ≠ r → ω[q]? = some v → ω'[q]? = some v)
    (hf : ∀ m v, RS sz V μ ω v (.own r m) → RS sz V' μ ω' v (f m)) : RS sz V' μ ω' v (sub2F r f d) := by
  cases d with
  | agg cs =>
    obtain ⟨vs, rfl, hs, ho, hR⟩ := h.agg_
    refine .agg _ vs (by simpa using hs) ho fun j v d h1 h2 => ?_
    simp only [List.getElem?_map, Option.map_eq_some_iff] at h2
    obtain ⟨c, hc, rfl⟩ := h2
    exact (hR j v c h1 hc).sub1 hV hω hf
  | _ => exact h.sub1 hV hω hf
theorem RS.sub {r : Nat} {f : Nat → D} {V' : Vw} {ω' : List Value} {v : Value} {d : D} (h : RS sz V μ ω v d) (hV : VLe V V') (hω : ∀ q v, q ≠ r → ω[q]? = some v → ω'[q]? = some v)
    (hf : ∀ m v, RS sz V μ ω v (.own r m) → RS sz V' μ ω' v (f m)) : RS sz V' μ ω' v (subDF r f d) := by
  cases d with
  | tup cs =>
    obtain ⟨vs, rfl, hs, hR⟩ := h.tup_
    refine .tup _ vs (by simpa using hs) fun j v d h1 h2 => ?_
    simp only [List.getElem?_map, Option.map_eq_some_iff] at h2
    obtain ⟨c, hc, rfl⟩ := h2
    exact (hR j v c h1 hc).sub2 hV hω hf
  | _ => exact h.sub2 hV hω hf

/-! ### Memory changed -/
theorem Own.lt (h : Mem sz w0 V0 V μ ω box row w) {l : Nat ⊕ Nat} {g : Nat} (hl : Own μ ω row l g) : w0.heap.size ≤ g ∧ g < w.heap.size := h.new l g hl
theorem AggR.mono {V' : Vw} {μ' : List Nat} {ω' : List Value} {vs : Array Value} {cs : List D} (h : AggR sz V μ ω vs cs) (hV : VLe V V') (hm : Pre μ μ') (hω : Pre ω ω') : AggR sz V' μ' ω' vs cs :=
  ⟨h.size, h.one, fun j v d h1 h2 => (h.rel j v d h1 h2).mono hV hm hω⟩
theorem VLe.refl (V : Vw) : VLe V V := fun _ _ h => h
theorem get_append_cases {α : Type} {l : List α} {x y : α} {i : Nat} (h : (l ++ [x])[i]? = some y) : l[i]? = some y ∨ (i = l.length ∧ y = x) := by
  rcases Nat.lt_or_ge i l.length with hi | hi
  · rw [List.getElem?_append_left hi] at h; exact .inl h
  · rw [List.getElem?_append_right hi] at h
    cases hk : i - l.length with
    | zero => rw [hk] at h; simp at h; exact .inr ⟨by omega, h.symm⟩
    | succ k => rw [hk] at h; simp at h

/-- A new box. -/
theorem Mem.newBox (h : Mem sz w0 V0 V μ ω box row w) {vs : Array Value} {cs : List D} {t : TypeId} (ha : AggR sz V μ ω vs cs) :
    Mem sz w0 V0 V (μ ++ [w.heap.size]) ω (box ++ [cs]) row (w.alloc (.cells vs t)) := by
  have he : Ext w (w.alloc (.cells vs t)) := (Below.refl _ _).alloc (Nat.le_refl _) _
  have h' := h.ext he
  have hpre : Pre μ (μ ++ [w.heap.size]) := .append _ _
  have own : ∀ l g, Own (μ ++ [w.heap.size]) ω row l g → Own μ ω row l g ∨ (l = .inl μ.length ∧ g = w.heap.size) := by
    intro l g hl
    cases l with
    | inl i =>
      rcases get_append_cases hl with h1 | ⟨rfl, rfl⟩
      · exact .inl h1
      · exact .inr ⟨rfl, rfl⟩
    | inr r => exact .inl hl
  refine ⟨h'.below, h'.vok, h'.vle, h'.vold, by simp [h.bl], ?_, h.rl, h'.hrow, ?_, ?_, ?_⟩
  · intro i g c h1 h2
    rcases get_append_cases h2 with h2 | ⟨rfl, rfl⟩
    · have hi : i < μ.length := by rw [h.bl]; exact (List.getElem?_eq_some_iff.1 h2).1
      rw [List.getElem?_append_left hi] at h1
      obtain ⟨us, t', a, b, c', d⟩ := h'.hbox i g c h1 h2
      exact ⟨us, t', a, b, c', fun j v d' e f => (d j v d' e f).mono (.refl V) hpre (.refl ω)⟩
    · rw [← h.bl, List.getElem?_append_right (Nat.le_refl _), Nat.sub_self] at h1
      simp at h1
      subst h1
      exact ⟨vs, t, heap_alloc_new w _, ha.size, ha.one, fun j v d e f => (ha.rel j v d e f).mono (.refl V) hpre (.refl ω)⟩
  · intro l l' g h1 h2
    rcases own l g h1 with h3 | ⟨e1, e2⟩ <;> rcases own l' _ h2 with h4 | ⟨e3, e4⟩
    · exact h.uniq l l' g h3 h4
    · have := (h.new _ _ h3).2; omega
    · have := (h.new _ _ h4).2; omega
    · rw [e1, e3]
  · intro l g h1
    rcases own l g h1 with h1 | ⟨rfl, rfl⟩
    · exact h'.new l g h1
    · exact ⟨h.below.size, by simp⟩
  · intro p u l hp h1
    rcases own l _ h1 with h1 | ⟨rfl, h2⟩
    · exact h.vmut p u l hp h1
    · have := World.block_lt_of_cell? w p (h.vok p u hp); omega

/-- What a change of one block, and new blocks, leave. -/
theorem Mem.cellKeep (h : Mem sz w0 V0 V μ ω box row w) {G : Option Nat} (hg : w.grownBy w' G) (hG : ∀ g, G = some g → ∃ l, Own μ ω row l g) : Below w0.heap.size w0 w' ∧ VOk V w' := by
  refine ⟨h.below.grown hg h.below.size (fun k hk => let ⟨l, hl⟩ := hG k hk; (h.new l k hl).1), fun p v hp => ?_⟩
  exact hg.cell (h.vok p v hp) (fun e => let ⟨l, hl⟩ := hG p.block e.symm; h.vmut p v l hp hl)

/-- A box is written. -/
theorem Mem.setBox (h : Mem sz w0 V0 V μ ω box row w) {i g : Nat} {cs : List D} {vs : Array Value} (hi : μ[i]? = some g) (hil : i < box.length) (ha : AggR sz V μ ω vs cs) :
    Mem sz w0 V0 V μ ω (box.set i cs) row (w.setRow g vs) := by
  have hg : w.grownBy (w.setRow g vs) (some g) := ⟨rfl, rfl, rfl, by simp, fun k _ hk => setRow_other w g k _ (fun e => hk (by simp [e]))⟩
  have hG : ∀ g', some g = some g' → ∃ l, Own μ ω row l g' := fun g' e => by cases e; exact ⟨.inl i, hi⟩
  obtain ⟨hb, hv⟩ := h.cellKeep hg hG
  obtain ⟨us, t, hh, _⟩ := h.hbox i g _ hi (List.getElem?_eq_getElem hil)
  refine ⟨hb, hv, h.vle, h.vold, by simp [h.bl], ?_, h.rl, ?_, h.uniq, fun l g' hl => ?_, h.vmut⟩
  · intro j g' c h1 h2
    by_cases hj : j = i
    · subst hj
      rw [hi] at h1
      cases h1
      rw [List.getElem?_set_self hil] at h2
      cases h2
      exact ⟨vs, t, setRow_heap w g us vs t (0, 0) hh, ha.size, ha.one, ha.rel⟩
    · rw [List.getElem?_set_ne (Ne.symm hj)] at h2
      obtain ⟨us', t', a, b⟩ := h.hbox j g' c h1 h2
      have hne : g' ≠ g := by
        rintro rfl
        have := h.uniq (.inl j) (.inl i) g' h1 hi
        simp at this
        exact hj this
      exact ⟨us', t', by rw [setRow_other w g g' vs hne]; exact a, b⟩
  · intro r v e xs h1 h2
    obtain ⟨vals, hown, b⟩ := h.hrow r v e xs h1 h2
    refine ⟨vals, hown.kept hg ?_, b⟩
    by_cases hv : v.ownBlock = none
    · exact .inl hv
    · refine .inr fun e' => ?_
      have := h.uniq (.inr r) (.inl i) g ⟨v, _, h1, h2, e'⟩ hi
      simp at this
  · obtain ⟨a, b⟩ := h.new l g' hl
    exact ⟨a, by simpa using b⟩

/-- What a row's cells say. -/
structure RowR (sz : TypeId → Nat) (V : Vw) (e : TypeId) (vals : List Value) (xs : List (List D)) : Prop where
  one : ∀ u ∈ vals, u.oneCell' = true
  len : ∀ (i : Nat) rw, xs[i]? = some rw → rw.length = sz e
  rel : ∀ (i : Nat) rw (j : Nat) d, xs[i]? = some rw → rw[j]? = some d → ∃ u, vals[i * sz e + j]? = some u ∧ RI sz V u d

theorem Own.row_new {ω' : List Value} {row' : Rows} {v : Value} {x : Option (TypeId × List (List D))} (hω : ω' = ω ++ [v]) (hr : row' = row ++ [x]) (hl : ω.length = row.length) {l : Nat ⊕ Nat} {g : Nat} (h : Own μ ω' row' l g) :
    Own μ ω row l g ∨ (l = .inr ω.length ∧ v.ownBlock = some g) := by
  subst hω hr
  cases l with
  | inl i => exact .inl h
  | inr r =>
    obtain ⟨u, y, h1, h2, h3⟩ := h
    rcases get_append_cases h1 with h1 | ⟨rfl, rfl⟩
    · have hi : r < row.length := by rw [← hl]; exact (List.getElem?_eq_some_iff.1 h1).1
      rw [List.getElem?_append_left hi] at h2
      exact .inl ⟨u, y, h1, h2, h3⟩
    · exact .inr ⟨rfl, h3⟩

/-- A new row. -/
theorem Mem.newRow (h : Mem sz w0 V0 V μ ω box row w) (he : Ext w w') {v : Value} {e : TypeId} {xs : List (List D)} {vals : List Value} (hown : w'.ownsRow w0.heap.size e (sz e) v xs.length vals) (hr : RowR sz V e vals xs)
    (hb : ∀ g, v.ownBlock = some g → w.heap.size ≤ g) : Mem sz w0 V0 V μ (ω ++ [v]) box (row ++ [some (e, xs)]) w' := by
  have h' := h.ext he
  have hpre : Pre ω (ω ++ [v]) := .append _ _
  have hblk : ∀ g, v.ownBlock = some g → g < w'.heap.size := fun g hg => (hown.lt g hg).2
  refine ⟨h'.below, h'.vok, h'.vle, h'.vold, h'.bl, ?_, by simp [h.rl], ?_, ?_, ?_, ?_⟩
  · intro i g c h1 h2
    obtain ⟨us, t', a, b, c', d⟩ := h'.hbox i g c h1 h2
    exact ⟨us, t', a, b, c', fun j v d' e f => (d j v d' e f).mono (.refl V) (.refl μ) hpre⟩
  · intro r u e' ys h1 h2
    rcases get_append_cases h2 with h2 | ⟨rfl, h5⟩
    · have hi : r < ω.length := by rw [h.rl]; exact (List.getElem?_eq_some_iff.1 h2).1
      rw [List.getElem?_append_left hi] at h1
      exact h'.hrow r u e' ys h1 h2
    · rw [← h.rl, List.getElem?_append_right (Nat.le_refl _), Nat.sub_self] at h1
      simp at h1
      subst h1
      cases h5
      exact ⟨vals, hown, hr.one, hr.len, hr.rel⟩
  · intro l l' g h1 h2
    rcases Own.row_new rfl rfl h.rl h1 with h3 | ⟨e1, e2⟩ <;> rcases Own.row_new rfl rfl h.rl h2 with h4 | ⟨e3, e4⟩
    · exact h.uniq l l' g h3 h4
    · have := (h.new _ _ h3).2; have := hb g e4; omega
    · have := (h.new _ _ h4).2; have := hb g e2; omega
    · rw [e1, e3]
  · intro l g h1
    rcases Own.row_new rfl rfl h.rl h1 with h1 | ⟨rfl, h2⟩
    · exact h'.new l g h1
    · exact ⟨Nat.le_trans h.below.size (hb g h2), hblk g h2⟩
  · intro p u l hp h1
    rcases Own.row_new rfl rfl h.rl h1 with h1 | ⟨rfl, h2⟩
    · exact h.vmut p u l hp h1
    · have := World.block_lt_of_cell? w p (h.vok p u hp); have := hb _ h2; omega

/-- The contents of row r, and its value, turned: handles on it must have gone. -/
theorem Mem.setRow_ (h : Mem sz w0 V0 V μ ω box row w) {r : Nat} {v v' : Value} {e : TypeId} {xs ys : List (List D)} {vals : List Value} (hω : ω[r]? = some v) (hr : row[r]? = some (some (e, xs)))
    (hg : w.grownBy w' v.ownBlock) (hown : w'.ownsRow w0.heap.size e (sz e) v' ys.length vals) (hR : RowR sz V e vals ys) (hb : v'.ownBlock = v.ownBlock ∨ ∃ g, v'.ownBlock = some g ∧ w.heap.size ≤ g)
    {box' : List (List D)} (hbl : box'.length = box.length)
    (hbox : ∀ (i : Nat) cs cs', box[i]? = some cs → box'[i]? = some cs' → cs'.length = cs.length ∧ ∀ (j : Nat) u d d', cs[j]? = some d → cs'[j]? = some d' → RS sz V μ ω u d → RS sz V μ (ω.set r v') u d') :
    Mem sz w0 V0 V μ (ω.set r v') box' (row.set r (some (e, ys))) w' := by
  have hrl : r < ω.length := (List.getElem?_eq_some_iff.1 hω).1
  have hrr : r < row.length := (List.getElem?_eq_some_iff.1 hr).1
  have hG : ∀ g, v.ownBlock = some g → ∃ l, Own μ ω row l g := fun g hg => ⟨.inr r, v, _, hω, hr, hg⟩
  obtain ⟨hbl', hv⟩ := h.cellKeep hg hG
  have own : ∀ l g, Own μ (ω.set r v') (row.set r (some (e, ys))) l g → (Own μ ω row l g ∧ l ≠ .inr r) ∨ (l = .inr r ∧ v'.ownBlock = some g) := by
    intro l g hl
    cases l with
    | inl i => exact .inl ⟨hl, by simp⟩
    | inr q =>
      obtain ⟨u, y, h1, h2, h3⟩ := hl
      by_cases hq : q = r
      · subst hq
        rw [List.getElem?_set_self hrl] at h1
        cases h1
        exact .inr ⟨rfl, h3⟩
      · rw [List.getElem?_set_ne (Ne.symm hq)] at h1 h2
        exact .inl ⟨⟨u, y, h1, h2, h3⟩, by simpa using hq⟩
  have cross : ∀ l g, Own μ ω row l g → l ≠ .inr r → v'.ownBlock = some g → False := by
    intro l g hl hne hv'
    rcases hb with hb | ⟨g', hg', hs⟩
    · exact hne (h.uniq l (.inr r) g hl ⟨v, _, hω, hr, by rw [← hb]; exact hv'⟩)
    · rw [hv'] at hg'
      cases hg'
      have := (h.new _ _ hl).2
      omega
  refine ⟨hbl', hv, h.vle, h.vold, by rw [h.bl, hbl], ?_, by simp [h.rl], ?_, ?_, ?_, ?_⟩
  · intro i g c h1 h2
    have hi : i < box.length := by rw [← hbl]; exact (List.getElem?_eq_some_iff.1 h2).1
    have h3 := List.getElem?_eq_getElem hi
    obtain ⟨us, t', a, b, c', d⟩ := h.hbox i g _ h1 h3
    obtain ⟨hl, hd⟩ := hbox i _ c h3 h2
    have hne : some g ≠ v.ownBlock := by
      intro e'
      have := h.uniq (.inl i) (.inr r) g h1 ⟨v, _, hω, hr, e'.symm⟩
      simp at this
    refine ⟨us, t', by rw [hg.block g (Array.getElem?_eq_some_iff.1 a).1 hne]; exact a, by rw [b, hl], c', fun j u d' e1 e2 => ?_⟩
    have hj : j < box[i].length := by rw [← hl]; exact (List.getElem?_eq_some_iff.1 e2).1
    exact hd j u _ d' (List.getElem?_eq_getElem hj) e2 (d j u _ e1 (List.getElem?_eq_getElem hj))
  · intro q u e' zs h1 h2
    by_cases hq : q = r
    · subst hq
      rw [List.getElem?_set_self hrl] at h1
      rw [List.getElem?_set_self hrr] at h2
      cases h1
      cases h2
      exact ⟨vals, hown, hR.one, hR.len, hR.rel⟩
    · rw [List.getElem?_set_ne (Ne.symm hq)] at h1 h2
      obtain ⟨vals', hown', b⟩ := h.hrow q u e' zs h1 h2
      refine ⟨vals', hown'.kept hg ?_, b⟩
      by_cases hu : u.ownBlock = none
      · exact .inl hu
      · refine .inr fun e1 => ?_
        cases hub : u.ownBlock with
        | none => exact hu hub
        | some g =>
          have := h.uniq (.inr q) (.inr r) g ⟨u, _, h1, h2, hub⟩ ⟨v, _, hω, hr, by rw [← e1]; exact hub⟩
          simp at this
          exact hq this
  · intro l l' g h1 h2
    rcases own l g h1 with ⟨h3, n3⟩ | ⟨e1, e2⟩ <;> rcases own l' g h2 with ⟨h4, n4⟩ | ⟨e3, e4⟩
    · exact h.uniq l l' g h3 h4
    · exact (cross l g h3 n3 e4).elim
    · exact (cross l' g h4 n4 e2).elim
    · rw [e1, e3]
  · intro l g h1
    rcases own l g h1 with ⟨h3, _⟩ | ⟨e1, e2⟩
    · obtain ⟨a, b⟩ := h.new l g h3
      exact ⟨a, Nat.lt_of_lt_of_le b hg.size⟩
    · exact hown.lt g e2
  · intro p u l hp h1
    rcases own l _ h1 with ⟨h3, _⟩ | ⟨e1, e2⟩
    · exact h.vmut p u l hp h3
    · rcases hb with hb | ⟨g', hg', hs⟩
      · exact h.vmut p u (.inr r) hp ⟨v, _, hω, hr, by rw [← hb]; exact e2⟩
      · rw [e2] at hg'
        cases hg'
        have := World.block_lt_of_cell? w p (h.vok p u hp)
        omega
end
end Go.Vx
