/- The plain-data machine, part 7: the operations that make or change memory, asked and shown. Nothing here speaks of one program. -/
import Derived.Test.YtkkmbgfhhcoehaaVx6
namespace Go.Vx
open Go.RowKit

/-! ### What they ask -/
/-- A cell of a row that nobody changes: its one form. -/
def norm1 (ti : Option TI) (d : D) (K : D → Prop) : Prop :=
  match d with
  | .nilS => match ti with | some ⟨_, _, .slice e, _⟩ => K (.lst e [] []) | _ => K .nilS
  | .tt => K (.b True)
  | .ff => K (.b False)
  | .own .. => False
  | .op .. => False
  | .bp .. => False
  | .agg _ => False
  | .tup _ => False
  | .fnh .. => False
  | .u => False
  | d => d.force K
def cellTI (T : Tab) (e : TypeId) (j : Nat) : Option TI :=
  match T e with
  | some ⟨_, _, .struct fs, _⟩ => (fieldAt fs j).bind T
  | ti => ti
def normL (T : Tab) (e : TypeId) : Nat → List D → (List D → Prop) → Prop
  | _, [], K => K []
  | j, d :: r, K => norm1 (cellTI T e j) d fun d => normL T e (j + 1) r fun r => K (d :: r)
/-- The rows that are written out in a literal. -/
def partsK (T : Tab) (e sz : Nat) : Nat → List D → (List (List D) → Prop) → Prop
  | _, [], K => K []
  | i, d :: r, K => d.cellsK fun ds => eqN ds.length sz <| normL T e 0 ds fun ds => partsK T e sz (i + 1) r fun rs => K (ds :: rs)
def seqK : Nat → List Nat → Prop → Prop
  | _, [], p => p
  | i, j :: r, p => eqN i j (seqK (i + 1) r p)
def rowsOf (row : Rows) (y : D) (K : TypeId → List (List D) → Prop) : Prop :=
  match y with
  | .lst e rows _ => K e rows
  | .own r m => match row[r]? with
    | some (some (e, xs)) => m ≤ xs.length ∧ ∃ ys, (m = xs.length ∧ ys = xs ∨ ys = xs.take m) ∧ K e ys
    | _ => False
  | _ => False
/-- An element type that rows may be made of. -/
def elemK (T : Tab) (e : TypeId) (p : Prop) : Prop := match T e with | some ti => leB 1 ti.size (leB ti.bytes 65536 p) | none => False
def shift1 (k : Nat) (d : D) (K : D → Prop) : Prop :=
  match d with
  | .own r m => natLit (r + k) fun r => K (.own r m)
  | .op .. => False
  | .bp .. => False
  | .agg _ => False
  | .tup _ => False
  | .fnh .. => False
  | d => d.force K
def shiftL (k : Nat) : List D → (List D → Prop) → Prop
  | [], K => K []
  | d :: r, K => shift1 k d fun d => shiftL k r fun r => K (d :: r)
def shift2 (k : Nat) (d : D) (K : D → Prop) : Prop := match d with | .agg cs => shiftL k cs fun cs => K (.agg cs) | d => shift1 k d K
def shiftT (k : Nat) : List D → (List D → Prop) → Prop
  | [], K => K []
  | d :: r, K => shift2 k d fun d => shiftT k r fun r => K (d :: r)
def shiftD (k : Nat) (d : D) (K : D → Prop) : Prop := match d with | .tup cs => shiftT k cs fun cs => K (.tup cs) | d => shift2 k d K
def catK {α : Type} : List α → List α → (List α → Prop) → Prop
  | [], m, K => K m
  | x :: l, m, K => catK l m fun r => K (x :: r)
theorem catK_eq {α : Type} (l m : List α) : ∀ K : List α → Prop, catK l m K = K (l ++ m) := by
  induction l with
  | nil => intro K; rfl
  | cons x l ih => intro K; simp only [catK, ih, List.cons_append]

def slE (T : Tab) (t : TypeId) (p : Prop) : Prop := match T t with | some ⟨_, _, .slice e, _⟩ => (match T e with | some _ => p | none => False) | _ => False
def appK (T : Tab) (s : St) (t : TypeId) (x y : D) (K : D → St → Prop) : Prop :=
  match s with
  | ⟨env, box, row, n⟩ => match x, y with
    | .nilS, .nilS => slE T t (K .nilS ⟨env, box, row, n⟩)
    | .own r m, .nilS => slE T t (match row[r]? with | some (some _) => K (.own r m) ⟨env, box, row, n⟩ | _ => False)
    | .nilS, y => rowsOf row y fun e ys => slK T t e <| elemK T e <| ys.length ≤ 2147483648 ∧ ∃ zs m, zs = ys ∧ m = zs.length ∧ snocK row (some (e, zs)) fun row' => natLit row.length fun r => K (.own r m) ⟨env, box, row', n⟩
    | .own r m, y => match row[r]? with
      | some (some (e, xs)) => slK T t e <| elemK T e <| m = xs.length ∧ rowsOf row y fun e' ys => eqN e e' <| xs.length + ys.length ≤ 2147483648 ∧ ∃ zs k, zs = xs ++ ys ∧ k = zs.length ∧
          subE r (fun _ => .u) env fun env => subB r (fun _ => .u) box fun box => setK row r (some (e, zs)) fun row => K (.own r k) ⟨env, box, row, n⟩
      | _ => False
    | _, _ => False

/-- What goes into a callee for good. -/
def expoN (T : Tab) (t : TypeId) (d : D) (K : D → Prop) : Prop := match d with | .agg cs => normL T t 0 cs fun cs => K (.agg cs) | d => norm1 (T t) d K
def exposN (T : Tab) : List TypeId → List D → (List D → Prop) → Prop
  | t :: ts, d :: ds, K => expoN T t d fun d => exposN T ts ds fun ds => K (d :: ds)
  | [], [], K => K []
  | _, _, _ => False

/-- What a function hands back. -/
def resK (T : Tab) (s : St) : List ResultVar → (List D → Prop) → Prop
  | [], K => K []
  | .tmp t :: r, K => (s.get (.tmp t)).force fun d => resK T s r fun ds => K (d :: ds)
  | .cell p t :: r, K => ptrK T s t (s.get (.tmp p)) fun d => resK T s r fun ds => K (d :: ds)
def oneD : List D → D
  | [d] => d
  | ds => .tup ds
/-- The parameters, in slots 0, 1, .. -/
def envOf : Nat → List D → List (Nat × D)
  | _, [] => []
  | k, d :: ds => (k, d) :: envOf (k + 1) ds
def forceN (n : Nat) (K : Nat → Prop) : Prop := match n with | 0 => K 0 | k + 1 => K (k + 1)
theorem forceN_eq (n : Nat) (K : Nat → Prop) : forceN n K = K n := by cases n <;> rfl
/-- The slots of the frame behind, from k on. -/
def shE (k : Nat) : List (Nat × D) → (List (Nat × D) → Prop) → Prop
  | [], K => K []
  | (t, d) :: r, K => forceN (t + k) fun t => shE k r fun r => K ((t, d) :: r)
def unE (k : Nat) : List (Nat × D) → (List (Nat × D) → Prop) → Prop
  | [], K => K []
  | (t, d) :: r, K => match Nat.ble k t with | true => forceN (t - k) fun t => unE k r fun r => K ((t, d) :: r) | false => unE k r K
/-- The end of a call that is walked through. -/
def inlE (T : Tab) (fn : Func) (n : Nat) (K : D → St → Prop) (s : St) : Prop :=
  match s with
  | ⟨env, box, row, m⟩ => eqN m fn.ntmps <| resK T ⟨env, box, row, m⟩ fn.results.toList fun ds => unE fn.ntmps env fun env => K (oneD ds) ⟨env, box, row, n⟩
def inlQ (T : Tab) (fn : Func) (n : Nat) (K : D → St → Prop) : Exit → St → Prop
  | .normal, s => inlE T fn n K s
  | .ret, s => inlE T fn n K s
  | _, _ => False
/-- A call that is walked through: the callee's slots ahead of the caller's. -/
def inlK (P : Program) (T : Tab) (s : St) (f : FuncId) (ds : List D) (K : D → St → Prop) : Prop :=
  ∃ fn c, P.funcs[f]? = some fn ∧ fn.body = some c ∧ (∀ args w, (callFunc f args).run P w = .ok (.enter f args) w) ∧
    leB ds.length fn.ntmps (match s with | ⟨env, box, row, n⟩ => shE fn.ntmps env fun env => catK (envOf 0 ds) env fun env => Ok P T c (inlQ T fn n K) ⟨env, box, row, fn.ntmps⟩)

/-- Rows whose cells are told by themselves alone. -/
def gRowsP : Rows → Prop
  | [] => True
  | some (_, xs) :: r => (∀ x ∈ xs, grounds x = true) ∧ gRowsP r
  | none :: r => gRowsP r
def D.ownOrG : D → Bool | .own _ _ => true | d => d.ground
def ownOrGs : List D → Bool | [] => true | d :: r => d.ownOrG && ownOrGs r
def D.ownOrG1 : D → Bool | .agg cs => ownOrGs cs | d => d.ownOrG
def ownOrGt : List D → Bool | [] => true | d :: r => d.ownOrG1 && ownOrGt r
def D.ownOrG2 : D → Bool | .tup cs => ownOrGt cs | d => d.ownOrG1
/-- A call at what the handles read as; what comes back refers to nothing that was there. -/
def exposeK (P : Program) (T : Tab) (s : St) (f : FuncId) (ts : List TypeId) (ds : List D) (K : D → St → Prop) : Prop :=
  expos T s.row ts ds fun es => ∃ R, FSpec P T f es R ∧ ∀ d rows, R d rows → gRowsP rows ∧ boolP d.ownOrG2 (match s with
    | ⟨env, box, row, n⟩ => shiftD row.length d fun d => catK row rows fun row => K d ⟨env, box, row, n⟩)

def vop (P : Program) (T : Tab) (s : St) (o : Oper) (K : D → St → Prop) : Prop :=
  match o.op with
  | .alloc t => match T t with
    | some ti => (match s with | ⟨env, box, row, n⟩ => snocK box ti.zero fun box' => natLit box.length fun i => K (.bp i 0) ⟨env, box', row, n⟩)
    | none => False
  | .box _ x => (s.get x).cellsK fun cs => forceL cs fun cs => match s with
    | ⟨env, box, row, n⟩ => snocK box cs fun box' => natLit box.length fun i => K (.bp i 0) ⟨env, box', row, n⟩
  | .store t x y => (s.get y).cellsK fun ds => match T t with
    | none => False
    | some ti => eqN ti.size ds.length <| match s.get x with
      | .bp i off => match s with | ⟨env, box, row, n⟩ => match box[i]? with
        | some cs => leB (off + ds.length) cs.length <| forceL (setCells cs off ds) fun cs => setK box i cs fun box => K .u ⟨env, box, row, n⟩
        | none => False
      | .op r e j off => match s.row[r]? with
        | some (some (e', _)) => eqN e e' <| elemK T e <| pubsK 8 s ds fun ds s => match s with
          | ⟨env, box, row, n⟩ => normL T e off ds fun ds => match row[r]? with
            | some (some (e', xs)) => eqN e e' <| ∃ rw, xs[j]? = some rw ∧ off + ds.length ≤ rw.length ∧ ∃ xs', xs' = xs.set j (setCells rw off ds) ∧ setK row r (some (e, xs')) fun row => K .u ⟨env, box, row, n⟩
            | _ => False
        | _ => False
      | _ => False
  | .buildSlice t len ps => match T t with
    | some ⟨_, _, .slice e, _⟩ => elemK T e <| seqK 0 (ps.toList.map (·.1)) <| eqN len (ps.toList.map (·.1)).length <| leB (len * szOf T e) 16777216 <| pubsK 8 s (s.gets (ps.toList.map (·.2))) fun ds s => match s with
      | ⟨env, box, row, n⟩ => partsK T e (szOf T e) 0 ds fun rows => snocK row (some (e, rows)) fun row' => natLit row.length fun r => K (.own r len) ⟨env, box, row', n⟩
    | _ => False
  | .makeSlice t x y => match s.get x, s.get y, T t with
    | .i _ a, .i _ b, some ⟨_, _, .slice e, _⟩ => (match T e with
      | some ti => leB 1 ti.size <| leB ti.bytes 65536 <| ∃ l c : Nat, a = l ∧ b = c ∧ l ≤ c ∧ c ≤ 2147483648 ∧ normL T e 0 ti.zero fun z => ∃ zs, zs = List.replicate l z ∧ (match s with
        | ⟨env, box, row, n⟩ => snocK row (some (e, zs)) fun row' => natLit row.length fun r => K (.own r l) ⟨env, box, row', n⟩)
      | none => False)
    | _, _, _ => False
  | .call { callee := .builtin .append, args, argTypes } => match args.toList, argTypes.toList with
    | [x, y], [t, t'] => eqN t t' <| appK T s t (s.get x) (s.get y) K
    | _, _ => False
  | .call { callee := .value (.func f), args, argTypes } =>
    qop P T s o K ∨ (pubsK 8 s (s.gets args.toList) fun ds s => exposN T argTypes.toList ds fun ds => ∃ R, FSpec P T f ds R ∧ ∀ d rows, R d rows → (match s with
      | ⟨env, box, row, n⟩ => shiftD row.length d fun d => catK row rows fun row => K d ⟨env, box, row, n⟩)) ∨
    (forceL (s.gets args.toList) fun ds => inlK P T s f ds K) ∨ exposeK P T s f argTypes.toList (s.gets args.toList) K
  | .call { callee := .value (.tmp t), args, argTypes := _ } =>
    qop P T s o K ∨ fnK (s.get (.tmp t)) fun f first cap => forceL (first ++ s.gets args.toList ++ cap) fun ds => inlK P T s f ds K
  | _ => qop P T s o K

/-- A region in the order of the text. -/
def vops (P : Program) (T : Tab) (ops : List Oper) : List Oper → St → (St → Prop) → Prop
  | [], s, K => K s
  | o :: rest, s, K => wantK ops s o.guard
      (fun s => vop P T s o fun d s => putK s o.dst d fun s => vops P T ops rest s K)
      (fun s => putK s o.dst (.tup []) fun s => vops P T ops rest s K)

section
variable {w0 w w' : World} {V0 : Fr} {V : Vw} {μ : List Nat} {ω : List Value} {box : List (List D)} {row : Rows} {s : St} {a : Act} {P : Program} {T : Tab}

/-- The block that an operation writes. -/
def Hit (μ : List Nat) (ω : List Value) : Src → Nat → Prop
  | .none, _ => False
  | .box i, g => μ[i]? = some g
  | .row r, g => ∃ v, ω[r]? = some v ∧ v.ownBlock = some g
/-- What an operation leaves. -/
structure Step (E : Src) (V : Vw) (μ : List Nat) (ω : List Value) (w : World) (V' : Vw) (μ' : List Nat) (ω' : List Value) (w' : World) : Prop where
  vle : VLe V V'
  pre : Pre μ μ'
  row : ∀ (r : Nat) v, E ≠ .row r → ω[r]? = some v → ω'[r]? = some v
  foot : ∀ q v, w.cell? q = some v → ¬ Hit μ ω E q.block → w'.cell? q = some v
theorem Step.ext {E : Src} {V' : Vw} {μ' : List Nat} {ω' : List Value} (hV : VLe V V') (hm : Pre μ μ') (hω : Pre ω ω') (he : Ext w w') : Step E V μ ω w V' μ' ω' w' :=
  ⟨hV, hm, fun r v _ h => hω r v h, fun _ _ hc _ => he.cell hc⟩
def isCallV (o : Oper) : Bool := match o.op with | .call { callee := .value _, args := _, argTypes := _ } => true | _ => false

/-- What is shown of an operation: from here on, whatever follows. -/
def Vok (P : Program) (T : Tab) (w0 : World) (V0 : Fr) (E : Src) (V : Vw) (μ : List Nat) (ω : List Value) (a : Act) (w : World) (o : Oper) (K : D → St → Prop) : Prop :=
  ∀ (next : Act → World → Prop) (Q : Exit → Act → World → Prop),
    (∀ d v s V' μ' ω' w', K d s → RS (szOf T) V' μ' ω' v d → Sim (szOf T) w0 V0 V' μ' ω' s a w' → (isCallV o = false → Step E V μ ω w V' μ' ω' w') → next (a.put o.dst v) w') → o.wp P a w next Q

theorem Vok.of_qop {E : Src} (hT : TOk P T) (hS : Sim (szOf T) w0 V0 V μ ω s a w) {o : Oper} {K : D → St → Prop} (h : qop P T s o K) : Vok P T w0 V0 E V μ ω a w o K := by
  intro next Q hn
  obtain ⟨d, v, s', hk, hr, hS', _, _, _, hq⟩ := qop_sound hT hS h
  exact Oper.wp_of_quiet (C := Ext w) (K := fun a' => ∀ w', Ext w w' → next a' w') (Ext.refl w) (fun a' w' he h => h w' he) ⟨v, fun w' he => hq w' (QR.ext he), fun w' he => hn d v s' V μ ω w' hk hr (hS'.ext he) fun _ => .ext (fun _ _ h => h) (.refl _) (.refl _) he⟩

theorem Vok.value {E : Src} {o : Oper} {K : D → St → Prop} {v : Value} {d : D} {V' : Vw} {μ' : List Nat} {ω' : List Value} {s' : St} (hr : (execOp a.eval o).run P w = .ok (.value v) w')
    (hk : K d s') (hv : RS (szOf T) V' μ' ω' v d) (hS : Sim (szOf T) w0 V0 V' μ' ω' s' a w') (hst : Step E V μ ω w V' μ' ω' w') : Vok P T w0 V0 E V μ ω a w o K := by
  intro next Q hn
  unfold Oper.wp
  rw [hr]
  exact hn d v s' V' μ' ω' w' hk hv hS fun _ => hst
theorem Vok.skip {E : Src} {o : Oper} {K : D → St → Prop} {V' : Vw} {μ' : List Nat} {ω' : List Value} {s' : St} (hr : (execOp a.eval o).run P w = .ok .skip w')
    (hk : K .u s') (hS : Sim (szOf T) w0 V0 V' μ' ω' s' a w') (hst : Step E V μ ω w V' μ' ω' w') : Vok P T w0 V0 E V μ ω a w o K := by
  intro next Q hn
  unfold Oper.wp
  rw [hr]
  exact hn .u undef s' V' μ' ω' w' hk (.imm _ _ (.u _)) hS fun _ => hst

theorem Mem.rowShape (h : Mem (szOf T) w0 V0 V μ ω box row w) {r : Nat} {v : Value} {e : TypeId} {xs : List (List D)} (hω : ω[r]? = some v) (hr : row[r]? = some (some (e, xs))) :
    ∃ A c vals, v = .slice A xs.length c ∧ xs.length ≤ c ∧ c ≤ maxLen ∧ (A = none → c = 0 ∧ xs = []) ∧ (∀ ad, A = some ad → ad.off = 0 ∧ ad.spot = none) ∧
      w.ownsRow w0.heap.size e (szOf T e) v xs.length vals ∧ RowR (szOf T) V e vals xs := by
  obtain ⟨vals, hown, ho, hl, hR⟩ := h.hrow r v e xs hω hr
  rcases hown.2 with ⟨rfl, h0⟩ | ⟨g, cap, cur, rfl, _, _, h5, h6, _⟩
  · refine ⟨none, 0, vals, by rw [h0], by omega, by unfold maxLen; omega, fun _ => ⟨rfl, List.eq_nil_of_length_eq_zero h0⟩, by simp, hown, ⟨ho, hl, hR⟩⟩
  · exact ⟨_, cap, vals, rfl, h5, h6, by simp, fun ad e => by cases e; exact ⟨rfl, rfl⟩, hown, ⟨ho, hl, hR⟩⟩

/-- A row that is owned, read as plain data, in a memory V' that holds its cells. -/
theorem RowR.lst {V' : Vw} {e : TypeId} {xs : List (List D)} {vals : List Value} {A : Option Addr} {c m : Nat} (hR : RowR (szOf T) V e vals xs) (hV : VLe V V') (hc : xs.length ≤ c) (hm : c ≤ maxLen)
    (hA : A = none → c = 0 ∧ xs = []) (hcell : ∀ ad, A = some ad → ∀ j u, vals[j]? = some u → V' (ad.add j) = some u) (hmx : m ≤ xs.length) : RI (szOf T) V' (.slice A m c) (.lst e (xs.take m) (xs.drop m)) := by
  cases A with
  | none =>
    obtain ⟨rfl, rfl⟩ := hA rfl
    have : m = 0 := by simpa using hmx
    subst this
    exact RI.lst e [] [] none ⟨0, 0, none⟩ 0 (fun _ _ => undef) (by simp) hm (by simp) (by simp) (by simp) (by simp) (by simp)
  | some ad =>
    have hcat : xs.take m ++ xs.drop m = xs := List.take_append_drop m xs
    have := RI.lst (sz := szOf T) (V := V') e (xs.take m) (xs.drop m) (some ad) ad c (fun i j => vals.getD (i * szOf T e + j) undef) (by simp; omega) hm (fun _ => rfl) (fun hno => by cases hno)
      (fun i row h => hR.len i row (by rwa [hcat] at h))
      (fun i row j d h1 h2 => by
        rw [hcat] at h1
        obtain ⟨u, hu, _⟩ := hR.rel i row j d h1 h2
        have hg : vals.getD (i * szOf T e + j) undef = u := by simp [List.getD, hu]
        show V' _ = some (vals.getD (i * szOf T e + j) undef) ∧ (vals.getD (i * szOf T e + j) undef).oneCell' = true
        rw [hg]
        exact ⟨hcell ad rfl _ _ hu, hR.one u (List.mem_of_getElem? hu)⟩)
      (fun i row j d h1 h2 => by
        rw [hcat] at h1
        obtain ⟨u, hu, hr⟩ := hR.rel i row j d h1 h2
        have hg : vals.getD (i * szOf T e + j) undef = u := by simp [List.getD, hu]
        show RI _ _ (vals.getD (i * szOf T e + j) undef) d
        rw [hg]
        exact hr.mono hV)
    rwa [List.length_take, Nat.min_eq_left hmx] at this

/-- The memory V, and the first k cells of a row besides. -/
def pubV (V : Vw) (w : World) (A : Option Addr) (k : Nat) : Vw := fun p => match A with
  | some ad => if p.block = ad.block ∧ p.off < k then w.cell? p else V p
  | none => V p
theorem pubV_out {V : Vw} {A : Option Addr} {k : Nat} {p : Addr} (h : ∀ ad, A = some ad → ¬ (p.block = ad.block ∧ p.off < k)) : pubV V w A k p = V p := by
  unfold pubV
  split
  · rename_i ad; rw [if_neg (h ad rfl)]
  · rfl
theorem pubV_in {V : Vw} {ad : Addr} {k : Nat} {p : Addr} (h : p.block = ad.block ∧ p.off < k) : pubV V w (some ad) k p = w.cell? p := by
  simp only [pubV, if_pos h]

/-- Published: row r is memory that nobody changes any more. -/
theorem Mem.pub (h : Mem (szOf T) w0 V0 V μ ω box row w) {r : Nat} {v : Value} {e : TypeId} {xs : List (List D)} (hω : ω[r]? = some v) (hr : row[r]? = some (some (e, xs))) :
    ∃ V', VLe V V' ∧ Mem (szOf T) w0 V0 V' μ ω (box.map fun c => c.map (sub1F r fun m => .lst e (xs.take m) (xs.drop m))) (row.set r none) w ∧
      ∀ m u, RS (szOf T) V μ ω u (.own r m) → RS (szOf T) V' μ ω u (.lst e (xs.take m) (xs.drop m)) := by
  obtain ⟨A, c, vals, rfl, hc, hm, hA, hA2, hown, hR⟩ := h.rowShape hω hr
  have hrr : r < row.length := (List.getElem?_eq_some_iff.1 hr).1
  have hOwn : ∀ ad, A = some ad → Own μ ω row (.inr r) ad.block := fun ad e => ⟨_, _, hω, hr, by simp [Value.ownBlock, e]⟩
  let V' : Vw := pubV V w A (xs.length * szOf T e)
  have hV'1 : ∀ p, (∀ ad, A = some ad → p.block ≠ ad.block) → V' p = V p := fun p hp => pubV_out fun ad e hh => hp ad e hh.1
  have hle : VLe V V' := fun p u hp => by
    rw [hV'1 p (fun ad e hb => h.vmut p u (.inr r) hp (by rw [hb]; exact hOwn ad e))]
    exact hp
  have hcell : ∀ ad, A = some ad → ∀ j u, vals[j]? = some u → V' (ad.add j) = some u := by
    intro ad e1 j u hu
    subst e1
    obtain ⟨h1, h2⟩ := hA2 ad rfl
    have hj : j < xs.length * szOf T e := by rw [← hown.1]; exact (List.getElem?_eq_some_iff.1 hu).1
    have hadd : ad.add j = ⟨ad.block, j, none⟩ := by
      obtain ⟨b, o, sp⟩ := ad
      dsimp only at h1 h2
      subst h1 h2
      rw [add_lit, Nat.zero_add]
    have hc1 := hown.cells (g := ad.block) rfl j u hu
    rw [add_lit, Nat.zero_add] at hc1
    show pubV V w (some ad) (xs.length * szOf T e) (ad.add j) = some u
    rw [hadd]
    exact (pubV_in (V := V) (w := w) (ad := ad) (p := ⟨ad.block, j, none⟩) ⟨rfl, hj⟩).trans hc1
  have hconv : ∀ m u, RS (szOf T) V μ ω u (.own r m) → RS (szOf T) V' μ ω u (.lst e (xs.take m) (xs.drop m)) := by
    intro m u hu
    obtain ⟨A', N, c', h1, h2, rfl⟩ := hu.own_
    rw [hω] at h1
    cases h1
    exact .imm _ _ (hR.lst hle hc hm hA hcell h2)
  have own : ∀ l g, Own μ ω (row.set r none) l g → Own μ ω row l g ∧ l ≠ .inr r := by
    intro l g hl
    cases l with
    | inl i => exact ⟨hl, by simp⟩
    | inr q =>
      obtain ⟨u, y, h1, h2, h3⟩ := hl
      by_cases hq : q = r
      · subst hq
        rw [List.getElem?_set_self hrr] at h2
        cases h2
      · rw [List.getElem?_set_ne (Ne.symm hq)] at h2
        exact ⟨⟨u, y, h1, h2, h3⟩, by simpa using hq⟩
  refine ⟨V', hle, ⟨h.below, ?_, fun p u hp => hle _ _ (h.vle p u hp), ?_, by simp [h.bl], ?_, by simp [h.rl], ?_, ?_, ?_, ?_⟩, hconv⟩
  · intro p u hp
    by_cases hb : ∃ ad, A = some ad ∧ p.block = ad.block ∧ p.off < xs.length * szOf T e
    · obtain ⟨ad, rfl, hb⟩ := hb
      have : V' p = w.cell? p := pubV_in hb
      rw [← this]; exact hp
    · have : V' p = V p := pubV_out fun ad e hh => hb ⟨ad, e, hh⟩
      rw [this] at hp
      exact h.vok p u hp
  · intro p hp
    rw [hV'1 p (fun ad e hb => by have := (h.new _ _ (hOwn ad e)).1; omega)]
    exact h.vold p hp
  · intro i g c' h1 h2
    simp only [List.getElem?_map, Option.map_eq_some_iff] at h2
    obtain ⟨cs, hcs, rfl⟩ := h2
    obtain ⟨us, t', a, b, c'', d⟩ := h.hbox i g cs h1 hcs
    refine ⟨us, t', a, by simpa using b, c'', fun j v d' e1 e2 => ?_⟩
    simp only [List.getElem?_map, Option.map_eq_some_iff] at e2
    obtain ⟨d0, hd0, rfl⟩ := e2
    exact (d j v d0 e1 hd0).sub1 hle (fun _ _ _ h => h) hconv
  · intro q u e' ys h1 h2
    by_cases hq : q = r
    · subst hq
      rw [List.getElem?_set_self hrr] at h2
      cases h2
    · rw [List.getElem?_set_ne (Ne.symm hq)] at h2
      obtain ⟨vals', a, b, c', d⟩ := h.hrow q u e' ys h1 h2
      exact ⟨vals', a, b, c', fun i rw_ j d' e1 e2 => let ⟨x, y, z⟩ := d i rw_ j d' e1 e2; ⟨x, y, z.mono hle⟩⟩
  · intro l l' g h1 h2
    exact h.uniq l l' g (own l g h1).1 (own l' g h2).1
  · intro l g h1
    exact h.new l g (own l g h1).1
  · intro p u l hp h1
    obtain ⟨h2, h3⟩ := own l _ h1
    by_cases hb : ∃ ad, A = some ad ∧ p.block = ad.block
    · obtain ⟨ad, e1, hb⟩ := hb
      exact h3 (h.uniq l (.inr r) p.block h2 (by rw [hb]; exact hOwn ad e1))
    · rw [hV'1 p (fun ad e1 e2 => hb ⟨ad, e1, e2⟩)] at hp
      exact h.vmut p u l hp h2

/-- Values of data, one by one. -/
def Vals (sz : TypeId → Nat) (V : Vw) (μ : List Nat) (ω : List Value) (vs : List Value) (ds : List D) : Prop :=
  vs.length = ds.length ∧ ∀ (j : Nat) v d, vs[j]? = some v → ds[j]? = some d → RS sz V μ ω v d
theorem Sim.gets (h : Sim (szOf T) w0 V0 V μ ω s a w) (xs : List Operand) : Vals (szOf T) V μ ω (xs.map a.eval) (s.gets xs) := by
  refine ⟨by simp [St.gets], fun j v d h1 h2 => ?_⟩
  simp only [St.gets, List.getElem?_map, Option.map_eq_some_iff] at h1 h2
  obtain ⟨x, hx, rfl⟩ := h1
  obtain ⟨y, hy, rfl⟩ := h2
  rw [hx] at hy
  cases hy
  exact h.get x

theorem pubK_sound (hS : Sim (szOf T) w0 V0 V μ ω s a w) {r : Nat} {ds : List D} {vs : List Value} {K : List D → St → Prop} (hv : Vals (szOf T) V μ ω vs ds) (h : pubK r s ds K) :
    ∃ V' ds' s', K ds' s' ∧ Vals (szOf T) V' μ ω vs ds' ∧ Sim (szOf T) w0 V0 V' μ ω s' a w ∧ VLe V V' := by
  obtain ⟨env, box, row, n⟩ := s
  simp only [pubK] at h
  split at h
  case h_2 => exact h.elim
  rename_i e xs hr
  have hlt : r < ω.length := by rw [hS.mem.rl]; exact (List.getElem?_eq_some_iff.1 hr).1
  obtain ⟨V', hle, hM, hconv⟩ := hS.mem.pub (List.getElem?_eq_getElem hlt) hr
  simp only [subE_eq, subB_eq] at h
  obtain ⟨_, h⟩ := setK_iff _ _ _ _ h
  have hS' : Sim (szOf T) w0 V0 V' μ ω ⟨env.map fun x => (x.1, subDF r (fun m => .lst e (xs.take m) (xs.drop m)) x.2), box.map fun c => c.map (sub1F r fun m => .lst e (xs.take m) (xs.drop m)), row.set r none, n⟩ a w :=
    ⟨hS.tmps, hS.defers, fun t => by
      show RS _ _ _ _ _ (look (env.map fun x => (x.1, subDF r (fun m => .lst e (xs.take m) (xs.drop m)) x.2)) t)
      rw [look_sub]
      exact (hS.env t).sub hle (fun _ _ _ h => h) hconv, hM⟩
  split at h
  · exact ⟨V', [], _, h, ⟨by simpa using hv.1, fun j v d _ hd => by simp at hd⟩, hS', hle⟩
  · rw [pubK.subDs_eq] at h
    refine ⟨V', _, _, h, ⟨by simpa using hv.1, fun j v d h1 h2 => ?_⟩, hS', hle⟩
    simp only [List.getElem?_map, Option.map_eq_some_iff] at h2
    obtain ⟨d0, hd0, rfl⟩ := h2
    exact (hv.2 j v d0 h1 hd0).sub hle (fun _ _ _ h => h) hconv
theorem pubsK_sound : ∀ (k : Nat) {V : Vw} {s : St} {ds : List D} {K : List D → St → Prop} {vs : List Value}, Sim (szOf T) w0 V0 V μ ω s a w → Vals (szOf T) V μ ω vs ds → pubsK k s ds K →
    ∃ V' ds' s', K ds' s' ∧ Vals (szOf T) V' μ ω vs ds' ∧ Sim (szOf T) w0 V0 V' μ ω s' a w ∧ VLe V V'
  | 0, _, _, _, _, _, _, _, h => h.elim
  | k + 1, V, s, ds, K, vs, hS, hv, h => by
    simp only [pubsK] at h
    split at h
    · exact ⟨V, ds, s, h, hv, hS, fun _ _ h => h⟩
    · obtain ⟨V', ds', s', h, hv', hS', hle⟩ := pubK_sound hS hv h
      obtain ⟨V2, ds2, s2, h, hv2, hS2, hle2⟩ := pubsK_sound k hS' hv' h
      exact ⟨V2, ds2, s2, h, hv2, hS2, fun p v hp => hle2 p v (hle p v hp)⟩

theorem norm1_sound {sz : TypeId → Nat} {ti : Option TI} {d : D} {v : Value} {K : D → Prop} (hv : RS sz V μ ω v d) (h : norm1 ti d K) : ∃ d', K d' ∧ RI sz V v d' := by
  have imm : ∀ d, K d → RI sz V v d → ∃ d', K d' ∧ RI sz V v d' := fun d hk hr => ⟨d, hk, hr⟩
  unfold norm1 at h
  split at h
  · rw [hv.nilS_]
    split at h
    · exact ⟨_, h, RI.lst _ [] [] none ⟨0, 0, none⟩ 0 (fun _ _ => undef) (by simp) (by unfold maxLen; omega) (by simp) (by simp) (by simp) (by simp) (by simp)⟩
    · exact ⟨_, h, .nilS⟩
  · rw [hv.tt_]; exact ⟨_, h, .b _ _ (by simp)⟩
  · rw [hv.ff_]; exact ⟨_, h, .b _ _ (by simp)⟩
  · exact h.elim
  · exact h.elim
  · exact h.elim
  · exact h.elim
  · exact h.elim
  · exact h.elim
  · exact h.elim
  · rename_i h4 h5 h6 h7 h8 h9 h10
    rw [D.force_eq] at h
    cases hv with
    | imm _ _ hr => exact ⟨_, h, hr⟩
    | own => exact absurd rfl (h4 _ _)
    | op => exact absurd rfl (h5 _ _ _ _)
    | bp => exact absurd rfl (h6 _ _)
    | agg => exact absurd rfl (h7 _)
    | tup => exact absurd rfl (h8 _)
    | fnh => exact absurd rfl (h9 _ _ _)

/-- Cells that hold plain data. -/
structure AggI (sz : TypeId → Nat) (V : Vw) (vs : List Value) (cs : List D) : Prop where
  size : vs.length = cs.length
  one : ∀ v ∈ vs, v.oneCell' = true
  rel : ∀ (j : Nat) v d, vs[j]? = some v → cs[j]? = some d → RI sz V v d
theorem normL_sound {sz : TypeId → Nat} {e : TypeId} : ∀ (cs : List D) (i : Nat) (vs : List Value) (K : List D → Prop), vs.length = cs.length → (∀ v ∈ vs, v.oneCell' = true) →
    (∀ (j : Nat) v d, vs[j]? = some v → cs[j]? = some d → RS sz V μ ω v d) → normL T e i cs K → ∃ ds, K ds ∧ AggI sz V vs ds
  | [], i, vs, K, hl, ho, hR, h => ⟨[], h, ⟨hl, ho, fun j v d _ hd => by simp at hd⟩⟩
  | c :: cs, i, [], K, hl, ho, hR, h => by simp at hl
  | c :: cs, i, v :: vs, K, hl, ho, hR, h => by
    simp only [normL] at h
    obtain ⟨d, h, hd⟩ := norm1_sound (hR 0 v c rfl rfl) h
    obtain ⟨ds, h, hds⟩ := normL_sound cs (i + 1) vs _ (by simpa using hl) (fun v hv => ho v (by simp [hv])) (fun j v d h1 h2 => hR (j + 1) v d (by simpa using h1) (by simpa using h2)) h
    refine ⟨d :: ds, h, ⟨by simp [hds.size], ho, fun j v' d' h1 h2 => ?_⟩⟩
    cases j with
    | zero => simp at h1 h2; subst h1 h2; exact hd
    | succ j => exact hds.rel j v' d' (by simpa using h1) (by simpa using h2)

theorem elemK_iff {e : TypeId} {p : Prop} (h : elemK T e p) : (∃ ti, T e = some ti ∧ 1 ≤ ti.size ∧ ti.bytes ≤ 65536) ∧ p := by
  unfold elemK at h
  split at h
  · rename_i ti hti
    simp only [leB_iff] at h
    exact ⟨⟨ti, hti, h.1, h.2.1⟩, h.2.2⟩
  · exact h.elim

/-- The cells of rows that are read: one list, row by row. -/
structure Reads_ (sz : TypeId → Nat) (V : Vw) (w : World) (e : TypeId) (v : Value) (xs : List (List D)) (A : Option Addr) (c : Nat) (vals : List Value) : Prop where
  val : v = .slice A xs.length c
  nil : A = none → c = 0 ∧ xs = []
  len : vals.length = xs.length * sz e
  cell : ∀ ad, A = some ad → ∀ (j : Nat) u, vals[j]? = some u → w.cell? (ad.add j) = some u
  rr : RowR sz V e vals xs

theorem lst_reads {sz : TypeId → Nat} (hvok : VOk V w) {e : TypeId} {rows room : List (List D)} {v : Value} (hv : RS sz V μ ω v (.lst e rows room)) : ∃ A c vals, Reads_ sz V w e v rows A c vals := by
  obtain ⟨A, ad, c, val, rfl, hc, hm, hA, hn, hl, hV, hR⟩ := hv.lst_
  have hrow : ∀ (i : Nat) row, rows[i]? = some row → (rows ++ room)[i]? = some row := fun i row h => by
    rw [List.getElem?_append_left (List.getElem?_eq_some_iff.1 h).1]; exact h
  have hmap : ∀ k, k < rows.length * sz e → k / sz e < rows.length ∧ k % sz e < sz e ∧ k / sz e * sz e + k % sz e = k := by
    intro k hk
    have hz : 0 < sz e := by
      rcases Nat.eq_zero_or_pos (sz e) with h0 | h0
      · rw [h0] at hk; simp at hk
      · exact h0
    refine ⟨Nat.div_lt_of_lt_mul (by rw [Nat.mul_comm]; exact hk), Nat.mod_lt _ hz, ?_⟩
    have := Nat.div_add_mod k (sz e)
    rw [Nat.mul_comm]; exact this
  have hget : ∀ k, k < rows.length * sz e → ∃ row d, rows[k / sz e]? = some row ∧ row[k % sz e]? = some d := by
    intro k hk
    obtain ⟨h1, h2, _⟩ := hmap k hk
    have h3 := List.getElem?_eq_getElem h1
    have h4 := hl _ _ (hrow _ _ h3)
    exact ⟨_, _, h3, List.getElem?_eq_getElem (by rw [h4]; exact h2)⟩
  have hval : ∀ (j : Nat) u, ((List.range (rows.length * sz e)).map fun k => val (k / sz e) (k % sz e))[j]? = some u → j < rows.length * sz e ∧ u = val (j / sz e) (j % sz e) := by
    intro j u hu
    have hj : j < rows.length * sz e := by have := (List.getElem?_eq_some_iff.1 hu).1; simpa using this
    rw [List.getElem?_map, List.getElem?_range hj] at hu
    simp at hu
    exact ⟨hj, hu.symm⟩
  refine ⟨A, c, (List.range (rows.length * sz e)).map fun k => val (k / sz e) (k % sz e), rfl, fun h => ?_, by simp, ?_, ?_, fun i row h => hl i row (hrow i row h), ?_⟩
  · have := hn h
    exact ⟨this, List.eq_nil_of_length_eq_zero (by omega)⟩
  · intro ad' hA' j u hu
    obtain ⟨hj, rfl⟩ := hval j u hu
    obtain ⟨row, d, h1, h2⟩ := hget j hj
    obtain ⟨_, _, h3⟩ := hmap j hj
    have hne : rows ++ room ≠ [] := by intro h0; have := hrow _ _ h1; rw [h0] at this; simp at this
    have h4 := hA hne
    rw [hA'] at h4
    cases h4
    have h5 := (hV _ row _ d (hrow _ _ h1) h2).1
    rw [h3] at h5
    exact hvok _ _ h5
  · intro u hu
    obtain ⟨j, hj⟩ := List.getElem?_of_mem hu
    obtain ⟨hj2, rfl⟩ := hval j u hj
    obtain ⟨row, d, h1, h2⟩ := hget j hj2
    exact (hV _ row _ d (hrow _ _ h1) h2).2
  · intro i rw_ j d h1 h2
    have hi := (List.getElem?_eq_some_iff.1 h1).1
    have hjl : j < sz e := by rw [← hl i rw_ (hrow i rw_ h1)]; exact (List.getElem?_eq_some_iff.1 h2).1
    have hlt : i * sz e + j < rows.length * sz e := by
      have : (i + 1) * sz e ≤ rows.length * sz e := Nat.mul_le_mul_right _ hi
      rw [Nat.add_mul] at this
      omega
    refine ⟨val i j, ?_, hR i rw_ j d (hrow i rw_ h1) h2⟩
    rw [List.getElem?_map, List.getElem?_range hlt]
    simp only [Option.map_some, Option.some.injEq]
    have e1 : (i * sz e + j) / sz e = i := by rw [Nat.mul_comm, Nat.mul_add_div (by omega)]; simp [Nat.div_eq_of_lt hjl]
    have e2 : (i * sz e + j) % sz e = j := by rw [Nat.mul_comm, Nat.mul_add_mod]; exact Nat.mod_eq_of_lt hjl
    rw [e1, e2]

theorem own_reads (hM : Mem (szOf T) w0 V0 V μ ω box row w) {r m : Nat} {e : TypeId} {xs ys : List (List D)} {v : Value} (hv : RS (szOf T) V μ ω v (.own r m)) (hr : row[r]? = some (some (e, xs))) (hm : m ≤ xs.length)
    (hy : m = xs.length ∧ ys = xs ∨ ys = xs.take m) : ∃ A c vals, Reads_ (szOf T) V w e v ys A c vals := by
  have hy' : ys = xs.take m := by
    rcases hy with ⟨h1, h2⟩ | h
    · rw [h1, h2, List.take_length]
    · exact h
  subst hy'
  obtain ⟨A, N, c, hω, hn, rfl⟩ := hv.own_
  obtain ⟨A', c', vals, hv', hc, hmx, hA, hA2, hown, hR⟩ := hM.rowShape hω hr
  cases hv'
  have hlen : (xs.take m).length = m := by rw [List.length_take]; omega
  refine ⟨A, c, vals.take (m * szOf T e), by rw [hlen], fun h => ?_, ?_, ?_, ?_, ?_, ?_⟩
  · obtain ⟨h1, h2⟩ := hA h
    exact ⟨h1, by rw [h2]; simp⟩
  · rw [List.length_take, hown.1, hlen]
    exact Nat.min_eq_left (Nat.mul_le_mul_right _ hm)
  · intro ad hA' j u hu
    subst hA'
    obtain ⟨h1, h2⟩ := hA2 ad rfl
    have hu' : vals[j]? = some u := by
      rw [List.getElem?_take] at hu
      split at hu
      · exact hu
      · cases hu
    have := hown.cells (g := ad.block) rfl j u hu'
    obtain ⟨b, o, sp⟩ := ad
    dsimp only at h1 h2
    subst h1 h2
    exact this
  · intro u hu
    exact hR.one u (List.mem_of_mem_take hu)
  · intro i rw_ h
    rw [List.getElem?_take] at h
    split at h
    · exact hR.len i rw_ h
    · cases h
  · intro i rw_ j d h1 h2
    rw [List.getElem?_take] at h1
    split at h1
    case isFalse => cases h1
    rename_i hi
    obtain ⟨u, hu, hr⟩ := hR.rel i rw_ j d h1 h2
    refine ⟨u, ?_, hr⟩
    have hj : j < szOf T e := by rw [← hR.len i rw_ h1]; exact (List.getElem?_eq_some_iff.1 h2).1
    rw [List.getElem?_take, if_pos]
    · exact hu
    · have : (i + 1) * szOf T e ≤ m * szOf T e := Nat.mul_le_mul_right _ hi
      rw [Nat.add_mul] at this
      omega

theorem RowR.append {sz : TypeId → Nat} {e : TypeId} {vals news : List Value} {xs ys : List (List D)} (h : RowR sz V e vals xs) (h' : RowR sz V e news ys) (hl : vals.length = xs.length * sz e) : RowR sz V e (vals ++ news) (xs ++ ys) := by
  refine ⟨fun u hu => (List.mem_append.1 hu).elim (h.one u) (h'.one u), fun i rw_ hi => ?_, fun i rw_ j d h1 h2 => ?_⟩
  · rcases Nat.lt_or_ge i xs.length with hx | hx
    · rw [List.getElem?_append_left hx] at hi; exact h.len i rw_ hi
    · rw [List.getElem?_append_right hx] at hi; exact h'.len _ rw_ hi
  · rcases Nat.lt_or_ge i xs.length with hx | hx
    · rw [List.getElem?_append_left hx] at h1
      obtain ⟨u, hu, hr⟩ := h.rel i rw_ j d h1 h2
      refine ⟨u, ?_, hr⟩
      rw [List.getElem?_append_left (List.getElem?_eq_some_iff.1 hu).1]; exact hu
    · rw [List.getElem?_append_right hx] at h1
      obtain ⟨u, hu, hr⟩ := h'.rel _ rw_ j d h1 h2
      refine ⟨u, ?_, hr⟩
      have e1 : i * sz e = xs.length * sz e + (i - xs.length) * sz e := by rw [← Nat.add_mul]; congr 1; omega
      rw [List.getElem?_append_right (by rw [hl, e1]; omega), hl, e1, show xs.length * sz e + (i - xs.length) * sz e + j - xs.length * sz e = (i - xs.length) * sz e + j by omega]
      exact hu

/-- append, and where the new row lies. -/
theorem run_append_ (t ty e : TypeId) (i : TypeInfo) (z : Value) (size : Nat) (ht : P.underlying t = some (.slice e)) (hi : P.info? e = some i) (hz : i.zero = some z)
    (hsize : i.size = size) (hzs : z.cells.size = size) (hsz : 0 < size) (hby : i.bytes ≤ 65536) {base : Nat}
    (v : Value) (n : Nat) (xs : List Value) (hown : w.ownsRow base e size v n xs) (A : Option Addr) (m c : Nat) (news : List Value) (hA : A = none → c = 0 ∧ m = 0) (hl : news.length = m * size)
    (hnews : ∀ ad, A = some ad → ∀ (j : Nat) u, news[j]? = some u → w.cell? (ad.add j) = some u) (h1 : ∀ u ∈ news, u.oneCell' = true) (hnm : n + m ≤ 2147483648) (hbase : base ≤ w.heap.size) :
    ∃ v' w', (Builtin.append_ #[t, t] ty #[v, .slice A m c]).run P w = .ok v' w' ∧ w'.ownsRow base e size v' (n + m) (xs ++ news) ∧ w.grownBy w' v.ownBlock ∧
      (v'.ownBlock = v.ownBlock ∨ ∃ g, v'.ownBlock = some g ∧ w.heap.size ≤ g) := by
  have h63 : n + m ≤ maxLen := by unfold maxLen; omega
  have hbytes : (n + m) * i.bytes ≤ 140737488355328 := by
    have := Nat.mul_le_mul hnm hby
    omega
  cases A with
  | none =>
    obtain ⟨rfl, rfl⟩ := hA rfl
    have hn : news = [] := List.eq_nil_of_length_eq_zero (by simpa using hl)
    subst hn
    refine ⟨v, w, run_append_owned_none w base t ty e i size ht hi v n xs hown, by simpa using hown, ⟨rfl, rfl, rfl, Nat.le_refl _, fun _ _ _ => rfl⟩, .inl rfl⟩
  | some ad =>
    obtain ⟨v', w', hr, h2, h3, h4⟩ := run_append_own (P := P) w base t ty e i z size i.bytes ht hi hz hsize rfl hzs hsz v n xs hown ad m c news hl (hnews ad rfl) h1 h63 hbytes hbase
    refine ⟨v', w', hr, h2, h3, ?_⟩
    subst hsize
    rcases hown.2 with ⟨rfl, rfl⟩ | ⟨g, cap, cur, rfl, hbg, hg, hnc, hcm, hcs, htake⟩
    · by_cases hm : m = 0
      · have := h4.2 ⟨rfl, hm⟩
        exact .inl (by rw [this])
      · have hr2 := run_append_nil (P := P) w t ty e i z ht hi hz ad m c news hl (hnews ad rfl) (by omega) (by omega) (by rw [Nat.zero_add] at hbytes; omega)
        rw [hr2] at hr
        cases hr
        exact .inr ⟨_, rfl, Nat.le_refl _⟩
    · by_cases hroom : n + m ≤ cap
      · have hfit : n * i.size + news.length ≤ cur.size := by rw [hl, hcs, ← Nat.add_mul]; exact Nat.mul_le_mul_right _ hroom
        have hr2 := run_append_room (P := P) w t ty e i ht hi g n cap cur hg ad m c news hl (hnews ad rfl) h1 hroom hfit
        rw [hr2] at hr
        cases hr
        exact .inl rfl
      · have holds : ∀ j u, xs[j]? = some u → w.cell? ((⟨g, 0, none⟩ : Addr).add j) = some u := hown.cells (g := g) rfl
        have hr2 := run_append_grow (P := P) w t ty e i z ht hi hz ⟨g, 0, none⟩ n cap xs hown.1 holds ad m c news hl (hnews ad rfl) (by omega) (by omega) (growslice_fits (by omega) hbytes)
        rw [hr2] at hr
        cases hr
        exact .inr ⟨_, rfl, Nat.le_refl _⟩
end
end Go.Vx
