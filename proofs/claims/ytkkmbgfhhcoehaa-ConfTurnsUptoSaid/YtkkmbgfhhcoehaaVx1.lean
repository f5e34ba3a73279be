/- The plain-data machine, part 1: data, states, and what an operation asks. Nothing here speaks of one program. -/
import Derived.WalkKit
import Derived.Deep.Quiet
namespace Go.Vx
open Go.RowKit

/-- Plain data. -/
inductive D where
  | i (k : IntKind) (n : Int)
  | b (p : Prop)
  | tt | ff
  | s (l : List UInt8)
  | nilS
  | lst (e : TypeId) (rows room : List (List D))
  | own (r n : Nat)
  | ep (cells : List D)
  | op (r : Nat) (e : TypeId) (j off : Nat)
  | bp (i off : Nat)
  | agg (cs : List D)
  | tup (cs : List D)
  | nilP
  | fn (f : FuncId) (first cap : List D)
  | fnh (f : FuncId) (first cap : List D)
  | u

def bstr (l : List UInt8) : ByteArray := ⟨l.toArray⟩

/-- A datum, forced. -/
def D.force (d : D) (K : D → Prop) : Prop :=
  match d with
  | .i k n => K (.i k n) | .b p => K (.b p) | .tt => K .tt | .ff => K .ff | .s l => K (.s l) | .nilS => K .nilS
  | .lst e a r => K (.lst e a r) | .own r n => K (.own r n) | .ep c => K (.ep c) | .op r e j o => K (.op r e j o) | .bp x o => K (.bp x o)
  | .agg c => K (.agg c) | .tup c => K (.tup c) | .nilP => K .nilP | .fn f x y => K (.fn f x y) | .fnh f x y => K (.fnh f x y) | .u => K .u
theorem D.force_eq (d : D) (K : D → Prop) : d.force K = K d := by cases d <;> rfl
def forceL : List D → (List D → Prop) → Prop
  | [], K => K []
  | c :: r, K => c.force fun c => forceL r fun r => K (c :: r)
theorem forceL_eq (l : List D) : ∀ K : List D → Prop, forceL l K = K l := by
  induction l with
  | nil => intro K; rfl
  | cons c r ih => intro K; simp only [forceL, D.force_eq, ih]

def ikn : IntKind → Nat | .i8 => 0 | .i16 => 1 | .i32 => 2 | .i64 => 3 | .u8 => 4 | .u16 => 5 | .u32 => 6 | .u64 => 7
theorem ikn_inj {a b : IntKind} (h : Nat.beq (ikn a) (ikn b) = true) : a = b := by
  cases a <;> cases b <;> first | rfl | (exfalso; revert h; decide)

/-- What a datum says as a proposition. -/
def D.prop : D → Option Prop | .b p => some p | .tt => some True | .ff => some False | _ => none

/-! ### Types -/
inductive TK where
  | bool | int (k : IntKind) | str | slice (e : TypeId) | array (n : Nat) (e : TypeId) | struct (fs : List (Nat × TypeId)) | ptr (e : TypeId) | other
structure TI where
  size : Nat
  bytes : Nat
  kind : TK
  zero : List D
def TI.agg (t : TI) : Bool := match t.kind with | .struct _ | .array _ _ => true | _ => false
abbrev Tab := TypeId → Option TI
def szOf (T : Tab) (e : TypeId) : Nat := match T e with | some t => t.size | none => 0

def ofVal : Value → D
  | .bool true => .tt | .bool false => .ff | .int k n => .i k n | .string s => .s s.data.toList | .slice none 0 0 => .nilS | .pointer none => .nilP | _ => .u
def ofC : Value → D
  | .agg cs => match cs.toList.all Value.oneCell' with | true => .agg (cs.toList.map ofVal) | false => .u
  | v => ofVal v

/-! ### States -/
abbrev Rows := List (Option (TypeId × List (List D)))
structure St where
  env : List (Nat × D)
  box : List (List D)
  row : Rows
  n : Nat

def look : List (Nat × D) → Nat → D
  | [], _ => .u
  | (t, d) :: r, x => match Nat.beq t x with | true => d | false => look r x

def St.get (s : St) : Operand → D
  | .tmp t => match Nat.blt t s.n with | true => look s.env t | false => .u
  | .const v => ofC v
  | .global _ => .u
  | .func f => .fn f [] []
def St.set (s : St) (t : Nat) (d : D) : St := match s with | ⟨env, box, row, n⟩ => ⟨(t, d) :: env, box, row, n⟩
/-- What is known of a slot once its test is decided. -/
def St.know (s : St) (c : Operand) (d : D) : St := match c with | .tmp t => (match Nat.blt t s.n with | true => s.set t d | false => s) | _ => s

/-! ### What an operation that leaves memory alone asks -/
def leB (a b : Nat) (p : Prop) : Prop := match Nat.ble a b with | true => p | false => False
def loadK (T : Tab) (t : TypeId) (cells : List D) (K : D → Prop) : Prop :=
  match T t with
  | some ti => match ti.agg with
    | true => leB ti.size cells.length (forceL (cells.take ti.size) fun cs => K (.agg cs))
    | false => match cells with | c :: _ => c.force K | [] => False
  | none => False

/-- A whole number comes out: it may be said otherwise. -/
def numK (k : IntKind) (m : Int) (K : D → Prop) : Prop := ∃ n, n = m ∧ K (.i k n)
def propK (p : Prop) (K : D → Prop) : Prop := K (.b p)

def intK (o : BinOp) (k : IntKind) (a b : Int) (K : D → Prop) : Prop :=
  match o with
  | .add => numK k (k.wrap (a + b)) K
  | .sub => numK k (k.wrap (a - b)) K
  | .mul => numK k (k.wrap (a * b)) K
  | .quo => b ≠ 0 ∧ numK k (k.wrap (a.tdiv b)) K
  | .rem => b ≠ 0 ∧ numK k (a.tmod b) K
  | .and => numK k (k.wrap (BitVec.ofInt k.bits a &&& BitVec.ofInt k.bits b).toNat) K
  | .or => numK k (k.wrap (BitVec.ofInt k.bits a ||| BitVec.ofInt k.bits b).toNat) K
  | .xor => numK k (k.wrap (BitVec.ofInt k.bits a ^^^ BitVec.ofInt k.bits b).toNat) K
  | .andNot => numK k (k.wrap (BitVec.ofInt k.bits a &&& ~~~(BitVec.ofInt k.bits b)).toNat) K
  | .eql => K (.b (a = b))
  | .neq => K (.b (a ≠ b))
  | .lss => K (.b (a < b))
  | .leq => K (.b (a ≤ b))
  | .gtr => K (.b (b < a))
  | .geq => K (.b (b ≤ a))
  | _ => False
def strK (o : BinOp) (a b : List UInt8) (K : D → Prop) : Prop :=
  match o with
  | .add => a.length + b.length ≤ 9223372036854775807 ∧ K (.s (a ++ b))
  | .eql => K (.b (a = b))
  | .neq => K (.b (a ≠ b))
  | .lss => K (.b (Op.bytesLess a b = true))
  | .leq => K (.b (Op.bytesLess a b = true ∨ a = b))
  | .gtr => K (.b (¬(Op.bytesLess a b = true ∨ a = b)))
  | .geq => K (.b (¬Op.bytesLess a b = true))
  | _ => False
def boolK (o : BinOp) (p q : Prop) (K : D → Prop) : Prop :=
  match o with
  | .eql => K (.b (p ↔ q))
  | .neq => K (.b (¬(p ↔ q)))
  | _ => False

/-- Cells of numbers, texts and bools. -/
def D.plain : D → Bool | .i _ _ | .s _ => true | _ => false
/-- Are two such cells the same? -/
def eqD : D → D → Prop | .i _ a, .i _ b => a = b | .s a, .s b => a = b | _, _ => False
def eqDs : List D → List D → Prop
  | [], [] => True
  | [a], [b] => eqD a b
  | a :: x, b :: y => eqD a b ∧ eqDs x y
  | _, _ => False
/-- What the cells of a type hold. -/
inductive Sh where | i (k : IntKind) | s
def sh1 (a : Sh) (d : D) : Bool := match a, d with | .i k, .i k' _ => Nat.beq (ikn k') (ikn k) | .s, .s _ => true | _, _ => false
def shB : List Sh → List D → Bool
  | [], x => match x with | [] => true | _ :: _ => false
  | a :: s, x => match x with | [] => false | d :: x => match sh1 a d with | true => shB s x | false => false
def plainV (d : D) (v : Value) : Value := match d with | .i k n => .int k n | .s l => .string (bstr l) | _ => v
/-- '==' at this struct type, whose cells are so, is '==' cell by cell (a fact of the program, proved once a type). -/
def EqT (P : Program) (t : TypeId) (sh : List Sh) : Prop :=
  ∀ (x y : List D) (vs us : Array Value) (w : World), shB sh x = true → shB sh y = true → vs.size = x.length → us.size = y.length →
    (∀ (j : Nat) v d, vs[j]? = some v → x[j]? = some d → v = plainV d v) →
    (∀ (j : Nat) v d, us[j]? = some v → y[j]? = some d → v = plainV d v) →
    ∃ c : Bool, (Op.equal t (.agg vs) (.agg us)).run P w = .ok c w ∧ (c = true ↔ eqDs x y)
def boolP (b : Bool) (p : Prop) : Prop := match b with | true => p | false => False
def aggK (P : Program) (o : BinOp) (t : TypeId) (x y : List D) (K : D → Prop) : Prop :=
  match o with
  | .eql => ∃ sh, EqT P t sh ∧ P.eqGuardType P.depth t = false ∧ boolP (shB sh x && shB sh y) (K (.b (eqDs x y)))
  | .neq => ∃ sh, EqT P t sh ∧ P.eqGuardType P.depth t = false ∧ boolP (shB sh x && shB sh y) (K (.b (¬eqDs x y)))
  | _ => False

def binK (P : Program) (T : Tab) (o : BinOp) (t : TypeId) (x y : D) (K : D → Prop) : Prop :=
  match x, y with
  | .i k a, .i k' b => match o with
    | .shl => 0 ≤ b ∧ numK k (k.wrap (a * 2 ^ (min b.toNat k.bits))) K
    | .shr => 0 ≤ b ∧ numK k (a.fdiv (2 ^ (min b.toNat k.bits))) K
    | _ => boolP (Nat.beq (ikn k) (ikn k')) (intK o k a b K)
  | .s a, .s b => strK o a b K
  | .agg a, .agg b => aggK P o t a b K
  | x, y => match x.prop, y.prop with
    | some p, some q => match T t with | some ⟨_, _, .bool, _⟩ => boolK o p q K | _ => False
    | _, _ => False

def unK (o : UnOp) (x : D) (K : D → Prop) : Prop :=
  match o, x with
  | .not, .tt => K .ff
  | .not, .ff => K .tt
  | .not, .b p => K (.b (¬p))
  | .neg, .i k n => numK k (k.wrap (0 - n)) K
  | .xor, .i k n => numK k (k.wrap (BitVec.ofInt k.bits (if k.signed then -1 else k.max) ^^^ BitVec.ofInt k.bits n).toNat) K
  | _, _ => False

/-- Is t the slice of e, and is e known? -/
def slK (T : Tab) (t e : TypeId) (p : Prop) : Prop :=
  match T t with
  | some ⟨_, _, .slice e', _⟩ => (match Nat.beq e e' with | true => (match T e with | some _ => p | none => False) | false => False)
  | _ => False
def slK' (T : Tab) (t : TypeId) (p : Prop) : Prop := match T t with | some ⟨_, _, .slice _, _⟩ => p | _ => False
def stK (T : Tab) (t : TypeId) (p : Prop) : Prop := match T t with | some ⟨_, _, .str, _⟩ => p | _ => False
def loP (lo : Option D) (x : Nat) : Prop := match lo with | some (.i _ n) => n = (x : Int) | none => 0 = x | _ => False
def hiP (hi : Option D) (m x : Nat) : Prop := match hi with | some (.i _ n) => n = (x : Int) | none => m = x | _ => False
/-- A cut of a text or a slice. -/
def sliceK (T : Tab) (s : St) (t : TypeId) (x : D) (lo hi : Option D) (K : D → Prop) : Prop :=
  match x with
  | .s l => stK T t (∃ a b : Nat, loP lo a ∧ hiP hi l.length b ∧ a ≤ b ∧ b ≤ l.length ∧ ∃ l', l' = (l.take b).drop a ∧ K (.s l'))
  | .lst e rows room => slK T t e (∃ a b : Nat, loP lo a ∧ hiP hi rows.length b ∧ a ≤ b ∧ b ≤ rows.length + room.length ∧
      ∃ rows' room', rows' = ((rows ++ room).take b).drop a ∧ room' = (rows ++ room).drop b ∧ K (.lst e rows' room'))
  | .own r n => match s.row[r]? with
      | some (some (e, xs)) => slK T t e (∃ m : Nat, loP lo 0 ∧ hiP hi n m ∧ m ≤ xs.length ∧ K (.own r m))
      | _ => False
  | _ => False

/-- What goes into a callee: handles on rows as what they read. -/
def expo1 (ti : Option TI) (row : Rows) (d : D) (K : D → Prop) : Prop :=
  match d with
  | .nilS => match ti with | some ⟨_, _, .slice e, _⟩ => K (.lst e [] []) | _ => K .nilS
  | .tt => K (.b True)
  | .ff => K (.b False)
  | .own r n => match row[r]? with
    | some (some (e, xs)) => n ≤ xs.length ∧ K (.lst e (xs.take n) (xs.drop n))
    | _ => False
  | .op .. => False
  | .bp .. => False
  | .agg _ => False
  | .tup _ => False
  | .fnh .. => False
  | d => d.force K
def fieldAt (fs : List (Nat × TypeId)) (j : Nat) : Option TypeId :=
  match fs with
  | [] => none
  | (o, t) :: r => match Nat.beq o j with | true => some t | false => fieldAt r j
def expoL (T : Tab) (fs : List (Nat × TypeId)) (row : Rows) : Nat → List D → (List D → Prop) → Prop
  | _, [], K => K []
  | j, d :: r, K => expo1 ((fieldAt fs j).bind T) row d fun d => expoL T fs row (j + 1) r fun r => K (d :: r)
def expo (T : Tab) (t : TypeId) (row : Rows) (d : D) (K : D → Prop) : Prop :=
  match d with
  | .agg cs => match T t with
    | some ⟨_, _, .struct fs, _⟩ => expoL T fs row 0 cs fun cs => K (.agg cs)
    | _ => expoL T [] row 0 cs fun cs => K (.agg cs)
  | d => expo1 (T t) row d K
/-- .. of a type that is not known. -/
def exposU (T : Tab) (row : Rows) (box : List (List D)) : List D → (List D → Prop) → Prop
  | [], K => K []
  | .agg cs :: ds, K => expoL T [] row 0 cs fun cs => exposU T row box ds fun ds => K (.agg cs :: ds)
  | .bp i 0 :: ds, K => match box[i]? with
    | some cs => expoL T [] row 0 cs fun cs => exposU T row box ds fun ds => K (.ep cs :: ds)
    | none => False
  | d :: ds, K => expo1 none row d fun d => exposU T row box ds fun ds => K (d :: ds)
def expos (T : Tab) (row : Rows) : List TypeId → List D → (List D → Prop) → Prop
  | t :: ts, d :: ds, K => expo T t row d fun d => expos T row ts ds fun ds => K (d :: ds)
  | [], [], K => K []
  | _, _, _ => False

/-- Data whose value is told by it alone. -/
def D.ground : D → Bool
  | .i _ _ | .b _ | .tt | .ff | .s _ | .nilS | .nilP => true
  | _ => false
def grounds : List D → Bool
  | [] => true
  | d :: r => d.ground && grounds r
def D.ground' : D → Bool
  | .agg cs | .tup cs => grounds cs
  | d => d.ground


/-! ### Memory, and data in it -/
abbrev Vw := Addr → Option Value

/-- A value that holds plain data that nobody changes any more, in the memory V. sz: the cells of an element type. -/
inductive RI (sz : TypeId → Nat) (V : Vw) : Value → D → Prop
  | i (k n) : RI sz V (.int k n) (.i k n)
  | b (x : Bool) (p : Prop) (h : x = true ↔ p) : RI sz V (.bool x) (.b p)
  | tt : RI sz V (.bool true) .tt
  | ff : RI sz V (.bool false) .ff
  | s (l) : RI sz V (.string (bstr l)) (.s l)
  | nilS : RI sz V (.slice none 0 0) .nilS
  | lst (e rows room) (A : Option Addr) (ad : Addr) (c : Nat) (val : Nat → Nat → Value) (hc : rows.length + room.length ≤ c) (hm : c ≤ maxLen)
      (hA : rows ++ room ≠ [] → A = some ad) (hn : A = none → c = 0)
      (hl : ∀ (i : Nat) row, (rows ++ room)[i]? = some row → row.length = sz e)
      (hV : ∀ (i : Nat) row (j : Nat) d, (rows ++ room)[i]? = some row → row[j]? = some d → V (ad.add (i * sz e + j)) = some (val i j) ∧ (val i j).oneCell' = true)
      (hR : ∀ (i : Nat) row (j : Nat) d, (rows ++ room)[i]? = some row → row[j]? = some d → RI sz V (val i j) d) :
      RI sz V (.slice A rows.length c) (.lst e rows room)
  | ep (cells) (ad : Addr) (val : Nat → Value)
      (hV : ∀ (j : Nat) d, cells[j]? = some d → V (ad.add j) = some (val j) ∧ (val j).oneCell' = true)
      (hR : ∀ (j : Nat) d, cells[j]? = some d → RI sz V (val j) d) : RI sz V (.pointer (some ad)) (.ep cells)
  | agg (cs) (vs : Array Value) (hs : vs.size = cs.length) (ho : ∀ v ∈ vs.toList, v.oneCell' = true) (hR : ∀ (j : Nat) v d, vs[j]? = some v → cs[j]? = some d → RI sz V v d) : RI sz V (.agg vs) (.agg cs)
  | tup (cs) (vs : Array Value) (hs : vs.size = cs.length) (hR : ∀ (j : Nat) v d, vs[j]? = some v → cs[j]? = some d → RI sz V v d) : RI sz V (.tuple vs) (.tup cs)
  | nilP : RI sz V (.pointer none) .nilP
  | fn (f first cap) (vs us : Array Value) (h1 : vs.size = first.length) (h2 : us.size = cap.length) (hR1 : ∀ (j : Nat) v d, vs[j]? = some v → first[j]? = some d → RI sz V v d)
      (hR2 : ∀ (j : Nat) v d, us[j]? = some v → cap[j]? = some d → RI sz V v d) : RI sz V (.func (.func f) vs us) (.fn f first cap)
  | u (v) : RI sz V v .u

/-- .. or data with handles on what the call may still change: boxes (block numbers μ) and rows (slice values ω). -/
inductive RS (sz : TypeId → Nat) (V : Vw) (μ : List Nat) (ω : List Value) : Value → D → Prop
  | imm (v d) (h : RI sz V v d) : RS sz V μ ω v d
  | own (r n A N c) (h : ω[r]? = some (.slice A N c)) (hn : n ≤ N) : RS sz V μ ω (.slice A n c) (.own r n)
  | op (r e j off g N c) (h : ω[r]? = some (.slice (some ⟨g, 0, none⟩) N c)) : RS sz V μ ω (.pointer (some ⟨g, j * sz e + off, none⟩)) (.op r e j off)
  | bp (i off g) (h : μ[i]? = some g) : RS sz V μ ω (.pointer (some ⟨g, off, none⟩)) (.bp i off)
  | agg (cs) (vs : Array Value) (hs : vs.size = cs.length) (ho : ∀ v ∈ vs.toList, v.oneCell' = true) (hR : ∀ (j : Nat) v d, vs[j]? = some v → cs[j]? = some d → RS sz V μ ω v d) : RS sz V μ ω (.agg vs) (.agg cs)
  | tup (cs) (vs : Array Value) (hs : vs.size = cs.length) (hR : ∀ (j : Nat) v d, vs[j]? = some v → cs[j]? = some d → RS sz V μ ω v d) : RS sz V μ ω (.tuple vs) (.tup cs)
  | fnh (f first cap) (vs us : Array Value) (h1 : vs.size = first.length) (h2 : us.size = cap.length) (hR1 : ∀ (j : Nat) v d, vs[j]? = some v → first[j]? = some d → RS sz V μ ω v d)
      (hR2 : ∀ (j : Nat) v d, us[j]? = some v → cap[j]? = some d → RS sz V μ ω v d) : RS sz V μ ω (.func (.func f) vs us) (.fnh f first cap)

def VOk (V : Vw) (w : World) : Prop := ∀ p v, V p = some v → w.cell? p = some v
def VLe (V V' : Vw) : Prop := ∀ p v, V p = some v → V' p = some v

/-- What a callee hands back: plain data, and rows of its own (handles 0, 1, ..). -/
structure Res (sz : TypeId → Nat) (V V' : Vw) (ω : List Value) (row : Rows) (w w' : World) : Prop where
  below : Below w.heap.size w w'
  le : VLe V V'
  vok : VOk V' w'
  vold : ∀ p, p.block < w.heap.size → V' p = V p
  rl : ω.length = row.length
  rows : ∀ (r : Nat) (v : Value) (e : TypeId) (xs : List (List D)), ω[r]? = some v → row[r]? = some (some (e, xs)) → ∃ vals : List Value, w'.ownsRow w.heap.size e (sz e) v xs.length vals ∧ (∀ u ∈ vals, u.oneCell' = true) ∧
    (∀ (i : Nat) rw, xs[i]? = some rw → rw.length = sz e) ∧ (∀ (i : Nat) rw (j : Nat) d, xs[i]? = some rw → rw[j]? = some d → ∃ u, vals[i * sz e + j]? = some u ∧ RI sz V' u d)
  uniq : ∀ (r r' : Nat) v v' x x' g, ω[r]? = some v → row[r]? = some (some x) → ω[r']? = some v' → row[r']? = some (some x') → v.ownBlock = some g → v'.ownBlock = some g → r = r'
  vmut : ∀ p u (r : Nat) v x, V' p = some u → ω[r]? = some v → row[r]? = some (some x) → v.ownBlock ≠ some p.block

/-- The contract of a function that changes nothing that was there: called at plain data it returns, and R holds of the result and of the rows that it hands over. -/
structure FSpec (P : Program) (T : Tab) (f : FuncId) (ds : List D) (R : D → Rows → Prop) : Prop where
  call : ∀ args w, (callFunc f args).run P w = .ok (.enter f args) w
  run : ∀ (V : Vw) (w : World) (args : Array Value), VOk V w → args.size = ds.length → (∀ (j : Nat) v d, args[j]? = some v → ds[j]? = some d → RI (szOf T) V v d) →
    Calls P f args w fun e w' => ∃ V' ω row v d, e = .returned v ∧ R d row ∧ RS (szOf T) V' [] ω v d ∧ Res (szOf T) V V' ω row w w'

/-! ### The operations that leave memory alone -/
def St.gets (s : St) (xs : List Operand) : List D := xs.map s.get

def idxK (T : Tab) (s : St) (t : TypeId) (x i : D) (K : D → Prop) : Prop :=
  match x, i with
  | .lst e rows _, .i _ n => slK T t e (0 ≤ n ∧ ∃ row, rows[n.toNat]? = some row ∧ forceL row fun row => K (.ep row))
  | .own r m, .i _ n => match s.row[r]? with
    | some (some (e, xs)) => slK T t e (0 ≤ n ∧ n < m ∧ m ≤ xs.length ∧ K (.op r e n.toNat 0))
    | _ => False
  | .bp b off, .i _ n => match T t with | some ⟨_, _, .array len e, _⟩ => (match T e with | some ti => 0 ≤ n ∧ n < len ∧ ∃ m, m = off + n.toNat * ti.size ∧ K (.bp b m) | none => False) | _ => False
  | .ep cells, .i _ n => match T t with | some ⟨_, _, .array len e, _⟩ => (match T e with | some ti => 0 ≤ n ∧ n < len ∧ ∃ cs, cs = cells.drop (n.toNat * ti.size) ∧ forceL cs fun cs => K (.ep cs) | none => False) | _ => False
  | _, _ => False
def idxVK (T : Tab) (t : TypeId) (x i : D) (K : D → Prop) : Prop :=
  match x, i with
  | .s l, .i _ n => stK T t (0 ≤ n ∧ ∃ c : UInt8, l[n.toNat]? = some c ∧ ∃ m : Int, m = c.toNat ∧ K (.i .u8 m))
  | .agg cs, .i _ n => match T t with | some ⟨_, _, .array len e, _⟩ => 0 ≤ n ∧ n < len ∧ loadK T e (cs.drop (n.toNat * szOf T e)) K | _ => False
  | _, _ => False
def ptrK (T : Tab) (s : St) (t : TypeId) (x : D) (K : D → Prop) : Prop :=
  match x with
  | .ep cells => loadK T t cells K
  | .bp i off => match s.box[i]? with | some cs => loadK T t (cs.drop off) K | none => False
  | .op r e j off => match s.row[r]? with
    | some (some (e', xs)) => e = e' ∧ ∃ row, xs[j]? = some row ∧ loadK T t (row.drop off) K
    | _ => False
  | _ => False
def fieldOff (T : Tab) (t : TypeId) (f : Nat) (K : Nat → TypeId → Prop) : Prop :=
  match T t with
  | some ⟨_, _, .struct fs, _⟩ => match fs[f]? with | some (off, ft) => K off ft | none => False
  | _ => False
def lenK (T : Tab) (t : TypeId) (x : D) (K : D → Prop) : Prop :=
  match x with
  | .s l => stK T t (K (.i .i64 l.length))
  | .lst _ rows _ => slK' T t (K (.i .i64 rows.length))
  | .own _ n => slK' T t (K (.i .i64 n))
  | .nilS => slK' T t (K (.i .i64 0))
  | _ => False
def setCells (cs : List D) (off : Nat) (vs : List D) : List D := cs.take off ++ (vs ++ cs.drop (off + vs.length))
/-- The cells of a datum. -/
def D.cellsK (d : D) (K : List D → Prop) : Prop := match d with | .agg cs => K cs | .tup _ => False | .u => False | d => K [d]
def fillD (fs : Nat → Option (Nat × Nat)) : List D → List (Nat × D) → (List D → Prop) → Prop
  | zs, [], K => forceL zs K
  | zs, (i, d) :: r, K => match fs i with
    | some (off, size) => d.cellsK fun ds => leB ds.length size (leB size ds.length (leB (off + ds.length) zs.length (forceL (setCells zs off ds) fun zs => fillD fs zs r K)))
    | none => False
/-- All these types are known. -/
def allK (T : Tab) (fs : List (Nat × TypeId)) (p : Prop) : Prop :=
  match fs with
  | [] => p
  | (_, t) :: r => match T t with | some _ => allK T r p | none => False
/-- A cell that is no struct and no unknown. -/
def D.one : D → Bool | .agg _ | .tup _ | .u => false | _ => true
def ones : List D → Bool | [] => true | d :: r => d.one && ones r

/-- What a load hangs on; what an operation writes. -/
inductive Src where | none | box (i : Nat) | row (r : Nat)
def srcOf (d : D) : Src := match d with | .bp i _ => .box i | .op r _ _ _ => .row r | _ => .none
def effA (x : D) : Src := match x with | .own r _ => .row r | _ => .none
def srcQ (s : St) (o : Oper) : Src := match o.op with | .load _ x => srcOf (s.get x) | _ => .none
def effOf (s : St) (o : Oper) : Src := match o.op with
  | .store _ x _ => srcOf (s.get x)
  | .call { callee := .builtin .append, args, argTypes := _ } => match args.toList with
    | x :: _ => effA (s.get x)
    | [] => .none
  | _ => .none

/-- Plain data that nobody changes. -/
def imm1 : D → Bool | .own .. | .op .. | .bp .. | .agg _ | .tup _ | .fnh .. => false | _ => true
def immL : List D → Bool | [] => true | d :: r => imm1 d && immL r
def immD : D → Bool | .agg cs => immL cs | d => imm1 d
def imms : List D → Bool | [] => true | d :: r => immD d && imms r
def fnK (d : D) (K : FuncId → List D → List D → Prop) : Prop := match d with | .fn f x y => K f x y | .fnh f x y => K f x y | _ => False
/-- One operation that leaves memory alone. -/
def qop (P : Program) (T : Tab) (s : St) (o : Oper) (K : D → St → Prop) : Prop :=
  match o.op with
  | .move x | .assign x => (s.get x).force fun d => K d s
  | .pick c a b => match s.get c with
    | .tt => (s.get a).force fun d => K d s
    | .ff => (s.get b).force fun d => K d s
    | .b p => (p → (s.get a).force fun d => K d (s.know c .tt)) ∧ (¬p → (s.get b).force fun d => K d (s.know c .ff))
    | _ => False
  | .load t a => ptrK T s t (s.get a) fun d => K d s
  | .nilCheck x => match s.get x with
    | .ep c => K (.ep c) s
    | .bp i o => K (.bp i o) s
    | .op r e j o => K (.op r e j o) s
    | _ => False
  | .binOp op t x y _ => binK P T op t (s.get x) (s.get y) fun d => K d s
  | .unOp op _ x => unK op (s.get x) fun d => K d s
  | .convert t b x => match s.get x, T t, T b with
    | .i _ n, some ⟨_, _, .int _, _⟩, some ⟨_, _, .int k, _⟩ => numK k (k.wrap n) fun d => K d s
    | .s l, some ⟨_, _, .str, _⟩, some ⟨_, _, .str, _⟩ => K (.s l) s
    | _, _, _ => False
  | .slice t x lo hi none => sliceK T s t (s.get x) (lo.map s.get) (hi.map s.get) fun d => K d s
  | .fieldAddr t x f => fieldOff T t f fun off ft => match szOf T ft with
    | 0 => False
    | _ + 1 => match s.get x with
      | .ep c => K (.ep (c.drop off)) s
      | .bp i o => K (.bp i (o + off)) s
      | .op r e j o => K (.op r e j (o + off)) s
      | _ => False
  | .field t x f => fieldOff T t f fun off ft => match s.get x with
    | .agg cs => loadK T ft (cs.drop off) fun d => K d s
    | _ => False
  | .indexAddr t x i => idxK T s t (s.get x) (s.get i) fun d => K d s
  | .index t x i => idxVK T t (s.get x) (s.get i) fun d => K d s
  | .extract x i => match s.get x with
    | .tup ds => match ds[i]? with | some d => d.force fun d => K d s | none => False
    | _ => False
  | .build t ps => match T t with
    | some ⟨_, _, .struct fs, z⟩ => allK T fs <| fillD (fun i => (fs[i]?).map fun x => (x.1, szOf T x.2)) z (ps.toList.map fun x => (x.1, s.get x.2)) fun cs => K (.agg cs) s
    | some ⟨_, _, .array _ e, z⟩ => allK T [(0, e)] <| fillD (fun i => some (i * szOf T e, szOf T e)) z (ps.toList.map fun x => (x.1, s.get x.2)) fun cs => K (.agg cs) s
    | _ => False
  | .makeFunc (.func f) first cap => boolP (imms (s.gets first.toList) && imms (s.gets cap.toList)) (forceL (s.gets first.toList) fun fs => forceL (s.gets cap.toList) fun cs => K (.fn f fs cs) s) ∨
      forceL (s.gets first.toList) fun fs => forceL (s.gets cap.toList) fun cs => K (.fnh f fs cs) s
  | .call { callee := .value (.tmp t), args, argTypes } => fnK (s.get (.tmp t)) fun f first cap =>
    exposU T s.row s.box first fun fs => expos T s.row argTypes.toList (s.gets args.toList) fun ds => exposU T s.row s.box cap fun cs =>
      ∃ d, FSpec P T f (fs ++ ds ++ cs) (fun d' _ => d' = d) ∧ d.ground' = true ∧ K d s
  | .call { callee := .builtin .len, args, argTypes } => match args.toList, argTypes.toList with
    | [x], [t] => lenK T t (s.get x) fun d => K d s
    | _, _ => False
  | .call { callee := .value (.func f), args, argTypes } =>
    expos T s.row argTypes.toList (s.gets args.toList) fun ds => ∃ d, FSpec P T f ds (fun d' _ => d' = d) ∧ d.ground' = true ∧ K d s
  | _ => False

/-- Is the operation to be carried out? (its guard) -/
def wantK (ops : List Oper) (s : St) (g : Option (Nat × Bool)) (yes no : St → Prop) : Prop :=
  match g with
  | none => yes s
  | some (j, c) => match (ops[j]?).bind (·.dst) with
    | none => False
    | some t => match (match Nat.blt t s.n with | true => look s.env t | false => .u), c with
      | .tt, true => yes s | .tt, false => no s | .ff, true => no s | .ff, false => yes s
      | .b p, true => (p → yes (s.set t .tt)) ∧ (¬p → no (s.set t .ff))
      | .b p, false => (p → no (s.set t .tt)) ∧ (¬p → yes (s.set t .ff))
      | .tup [], _ => no s
      | _, _ => False
def putK (s : St) (dst : Option Nat) (d : D) (K : St → Prop) : Prop :=
  match dst with
  | none => K s
  | some t => match s with | ⟨env, box, row, n⟩ => match Nat.ble (t + 1) n with | true => K ⟨(t, d) :: env, box, row, n⟩ | false => False

/-- A region of such operations. -/
def qops (P : Program) (T : Tab) (ops : List Oper) : List Oper → St → (St → Prop) → Prop
  | [], s, K => K s
  | o :: rest, s, K => wantK ops s o.guard
      (fun s => qop P T s o fun d s => putK s o.dst d fun s => qops P T ops rest s K)
      (fun s => putK s o.dst (.tup []) fun s => qops P T ops rest s K)

end Go.Vx
