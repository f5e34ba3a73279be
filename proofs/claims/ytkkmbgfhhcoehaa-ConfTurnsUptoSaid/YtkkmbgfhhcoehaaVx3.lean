/- The plain-data machine, part 3: the operations that leave memory alone. Nothing here speaks of one program. -/
import Derived.Test.YtkkmbgfhhcoehaaVx2
namespace Go.Vx
open Go.RowKit

section
variable {sz : TypeId → Nat} {w0 w w' : World} {V0 : Fr} {V : Vw} {μ : List Nat} {ω : List Value} {s : St} {a : Act} {P : Program} {T : Tab}

theorem beq_nat_true {a b : Nat} (h : Nat.beq a b = true) : a = b := Nat.eq_of_beq_eq_true h

theorem Sim.set (h : Sim sz w0 V0 V μ ω s a w) {t : Nat} {d : D} (ht : t < s.n) (hv : RS sz V μ ω (a.tmps.getD t undef) d) : Sim sz w0 V0 V μ ω (s.set t d) a w := by
  obtain ⟨env, box, row, n⟩ := s
  refine ⟨h.tmps, h.defers, fun x => ?_, h.mem⟩
  show RS sz V μ ω (slotV V0 n a x) (look ((t, d) :: env) x)
  unfold look
  cases hq : Nat.beq t x with
  | true => rw [← beq_nat_true hq]; unfold slotV; rw [if_pos ht]; exact hv
  | false => exact h.env x

theorem RS.bool {v : Value} {p : Prop} (h : RS sz V μ ω v (.b p)) : ∃ x : Bool, v = .bool x ∧ (x = true ↔ p) := by
  cases h with | imm _ _ h => cases h with | b x _ h => exact ⟨x, rfl, h⟩
theorem RS.tt_ {v : Value} (h : RS sz V μ ω v .tt) : v = .bool true := by cases h with | imm _ _ h => cases h; rfl
theorem RS.ff_ {v : Value} (h : RS sz V μ ω v .ff) : v = .bool false := by cases h with | imm _ _ h => cases h; rfl
theorem RS.int_ {v : Value} {k : IntKind} {n : Int} (h : RS sz V μ ω v (.i k n)) : v = .int k n := by cases h with | imm _ _ h => cases h; rfl
theorem RS.str_ {v : Value} {l : List UInt8} (h : RS sz V μ ω v (.s l)) : v = .string (bstr l) := by cases h with | imm _ _ h => cases h; rfl
theorem RS.nilS_ {v : Value} (h : RS sz V μ ω v .nilS) : v = .slice none 0 0 := by cases h with | imm _ _ h => cases h; rfl
theorem RS.agg_ {v : Value} {cs : List D} (h : RS sz V μ ω v (.agg cs)) : ∃ vs : Array Value, v = .agg vs ∧ vs.size = cs.length ∧ (∀ v ∈ vs.toList, v.oneCell' = true) ∧ ∀ (j : Nat) v d, vs[j]? = some v → cs[j]? = some d → RS sz V μ ω v d := by
  cases h with
  | imm _ _ h => cases h with | agg _ vs hs ho hR => exact ⟨vs, rfl, hs, ho, fun j v d h1 h2 => .imm _ _ (hR j v d h1 h2)⟩
  | agg _ vs hs ho hR => exact ⟨vs, rfl, hs, ho, hR⟩
theorem RS.tup_ {v : Value} {cs : List D} (h : RS sz V μ ω v (.tup cs)) : ∃ vs : Array Value, v = .tuple vs ∧ vs.size = cs.length ∧ ∀ (j : Nat) v d, vs[j]? = some v → cs[j]? = some d → RS sz V μ ω v d := by
  cases h with
  | imm _ _ h => cases h with | tup _ vs hs hR => exact ⟨vs, rfl, hs, fun j v d h1 h2 => .imm _ _ (hR j v d h1 h2)⟩
  | tup _ vs hs hR => exact ⟨vs, rfl, hs, hR⟩
theorem RS.lst_ {v : Value} {e : TypeId} {rows room : List (List D)} (h : RS sz V μ ω v (.lst e rows room)) : ∃ (A : Option Addr) (ad : Addr) (c : Nat) (val : Nat → Nat → Value), v = .slice A rows.length c ∧
    rows.length + room.length ≤ c ∧ c ≤ maxLen ∧ (rows ++ room ≠ [] → A = some ad) ∧ (A = none → c = 0) ∧ (∀ (i : Nat) row, (rows ++ room)[i]? = some row → row.length = sz e) ∧
    (∀ (i : Nat) row (j : Nat) d, (rows ++ room)[i]? = some row → row[j]? = some d → V (ad.add (i * sz e + j)) = some (val i j) ∧ (val i j).oneCell' = true) ∧
    (∀ (i : Nat) row (j : Nat) d, (rows ++ room)[i]? = some row → row[j]? = some d → RI sz V (val i j) d) := by
  cases h with | imm _ _ h => cases h with | lst _ _ _ A ad c val hc hm hA hn hl hV hR => exact ⟨A, ad, c, val, rfl, hc, hm, hA, hn, hl, hV, hR⟩
theorem RS.own_ {v : Value} {r n : Nat} (h : RS sz V μ ω v (.own r n)) : ∃ A N c, ω[r]? = some (.slice A N c) ∧ n ≤ N ∧ v = .slice A n c := by
  cases h with
  | imm _ _ h => cases h
  | own _ _ A N c h hn => exact ⟨A, N, c, h, hn, rfl⟩
theorem RS.bp_ {v : Value} {i off : Nat} (h : RS sz V μ ω v (.bp i off)) : ∃ g, μ[i]? = some g ∧ v = .pointer (some ⟨g, off, none⟩) := by
  cases h with
  | imm _ _ h => cases h
  | bp _ _ g h => exact ⟨g, h, rfl⟩
theorem RS.op_ {v : Value} {r j off : Nat} {e : TypeId} (h : RS sz V μ ω v (.op r e j off)) : ∃ g N c, ω[r]? = some (.slice (some ⟨g, 0, none⟩) N c) ∧ v = .pointer (some ⟨g, j * sz e + off, none⟩) := by
  cases h with
  | imm _ _ h => cases h
  | op _ _ _ _ g N c h => exact ⟨g, N, c, h, rfl⟩
theorem RS.ep_ {v : Value} {cells : List D} (h : RS sz V μ ω v (.ep cells)) : ∃ (ad : Addr) (val : Nat → Value), v = .pointer (some ad) ∧ (∀ (j : Nat) d, cells[j]? = some d → V (ad.add j) = some (val j) ∧ (val j).oneCell' = true) ∧
    ∀ (j : Nat) d, cells[j]? = some d → RI sz V (val j) d := by
  cases h with | imm _ _ h => cases h with | ep _ ad val hV hR => exact ⟨ad, val, rfl, hV, hR⟩
theorem RS.prop_ {v : Value} {d : D} {p : Prop} (h : RS sz V μ ω v d) (hp : d.prop = some p) : ∃ x : Bool, v = .bool x ∧ (x = true ↔ p) := by
  cases d <;> simp only [D.prop, Option.some.injEq] at hp <;> try contradiction
  · subst hp; exact h.bool
  · subst hp; exact ⟨true, h.tt_, by simp⟩
  · subst hp; exact ⟨false, h.ff_, by simp⟩

theorem Sim.know (h : Sim sz w0 V0 V μ ω s a w) (c : Operand) {d : D} (hv : RS sz V μ ω (a.eval c) d) : Sim sz w0 V0 V μ ω (s.know c d) a w := by
  cases c with
  | tmp t =>
    simp only [St.know]
    split
    · rename_i hb; exact h.set (blt_true hb) hv
    · exact h
  | _ => exact h

/-- What the soundness of one quiet operation says. -/
def Qok (P : Program) (sz : TypeId → Nat) (V : Vw) (μ : List Nat) (ω : List Value) (_w : World) (x : Sem Value) (K : D → Prop) : Prop :=
  ∃ d v, K d ∧ RS sz V μ ω v d ∧ ∀ w', True → x.run P w' = .ok v w'

theorem Qok.num {k : IntKind} {m : Int} {K : D → Prop} {x : Sem Value} (h : numK k m K) (hr : ∀ w', x.run P w' = .ok (.int k m) w') : Qok P sz V μ ω w x K := by
  obtain ⟨n, rfl, hk⟩ := h
  exact ⟨_, _, hk, .imm _ _ (.i _ _), fun w' _ => hr w'⟩
theorem Qok.b {p : Prop} {K : D → Prop} {x : Sem Value} {c : Bool} (h : K (.b p)) (hc : c = true ↔ p) (hr : ∀ w', x.run P w' = .ok (.bool c) w') : Qok P sz V μ ω w x K :=
  ⟨_, _, h, .imm _ _ (.b _ _ hc), fun w' _ => hr w'⟩

theorem intK_sound {o : BinOp} {k : IntKind} {x y : Int} {t : TypeId} {K : D → Prop} (h : intK o k x y K) : Qok P sz V μ ω w (binOp o t (.int k x) (.int k y)) K := by
  cases o <;> simp only [intK] at h
  case add => exact Qok.num h fun w' => by simp [binOp, Op.intArith]
  case sub => exact Qok.num h fun w' => by simp [binOp, Op.intArith]
  case mul => exact Qok.num h fun w' => by simp [binOp, Op.intArith]
  case quo => exact Qok.num h.2 fun w' => by simp [binOp, Op.intDiv, h.1]
  case rem => exact Qok.num h.2 fun w' => by simp [binOp, Op.intDiv, h.1]
  case and => exact Qok.num h fun w' => by simp [binOp, Op.intBits]
  case or => exact Qok.num h fun w' => by simp [binOp, Op.intBits]
  case xor => exact Qok.num h fun w' => by simp [binOp, Op.intBits]
  case andNot => exact Qok.num h fun w' => by simp [binOp, Op.intBits]
  case eql => exact Qok.b h (c := x == y) (by simp) fun w' => by simp [binOp, Op.intCmp]
  case neq => exact Qok.b h (c := x != y) (by simp) fun w' => by simp [binOp, Op.intCmp]
  case lss => exact Qok.b h (c := decide (x < y)) (by simp) fun w' => by simp [binOp, Op.intCmp]
  case leq => exact Qok.b h (c := decide (x ≤ y)) (by simp) fun w' => by simp [binOp, Op.intCmp]
  case gtr => exact Qok.b h (c := decide (x > y)) (by simp) fun w' => by simp [binOp, Op.intCmp]
  case geq => exact Qok.b h (c := decide (x ≥ y)) (by simp) fun w' => by simp [binOp, Op.intCmp]

theorem bstr_append (l m : List UInt8) : bstr l ++ bstr m = bstr (l ++ m) := by
  apply ByteArray.ext
  simp [bstr, ByteArray.data_append]
theorem strK_sound {o : BinOp} {x y : List UInt8} {t : TypeId} {K : D → Prop} (h : strK o x y K) : Qok P sz V μ ω w (binOp o t (.string (bstr x)) (.string (bstr y))) K := by
  cases o <;> simp only [strK] at h
  case add =>
    refine ⟨_, _, h.2, .imm _ _ (.s _), fun w' _ => ?_⟩
    have hm : IntKind.i64.max = 9223372036854775807 := rfl
    have hn : ¬ (((bstr x).size + (bstr y).size : Nat) : Int) > IntKind.i64.max := by rw [hm, bstr_size, bstr_size]; omega
    simp only [binOp, Op.stringOp, if_neg hn, bstr_append, Sem.run_pure]
  case eql => exact Qok.b h (c := x == y) (by simp) fun w' => by simp [binOp, Op.stringOp, bstr_toList]
  case neq => exact Qok.b h (c := !(x == y)) (by simp) fun w' => by simp [binOp, Op.stringOp, bstr_toList]
  case lss => exact Qok.b h (c := Op.bytesLess x y) (by simp) fun w' => by simp [binOp, Op.stringOp, bstr_toList]
  case leq => exact Qok.b h (c := Op.bytesLess x y || x == y) (by simp) fun w' => by simp [binOp, Op.stringOp, bstr_toList]
  case gtr => exact Qok.b h (c := !(Op.bytesLess x y || x == y)) (by simp) fun w' => by simp [binOp, Op.stringOp, bstr_toList]
  case geq => exact Qok.b h (c := !(Op.bytesLess x y)) (by simp) fun w' => by simp [binOp, Op.stringOp, bstr_toList]

theorem run_equalIn_bool (d : Nat) {t : TypeId} (ht : P.underlying t = some .bool) (x y : Bool) (w : World) : (Op.equalIn (d + 1) t (.bool x) (.bool y)).run P w = .ok (x == y) w := by
  simp [Op.equalIn, run_under ht]
theorem run_equal_bool {t : TypeId} (ht : P.underlying t = some .bool) (x y : Bool) (w : World) : (Op.equal t (.bool x) (.bool y)).run P w = .ok (x == y) w :=
  run_equalIn_bool 9999 ht x y w
theorem boolK_sound {o : BinOp} {x y : Bool} {p q : Prop} {t : TypeId} {K : D → Prop} (ht : P.underlying t = some .bool) (hp : x = true ↔ p) (hq : y = true ↔ q) (h : boolK o p q K) :
    Qok P sz V μ ω w (binOp o t (.bool x) (.bool y)) K := by
  cases o <;> simp only [boolK] at h
  case eql => exact Qok.b h (c := x == y) (by rw [beq_iff_eq, ← hp, ← hq]; exact Bool.eq_iff_iff) fun w' => by simp only [binOp, Sem.run_bind, run_equal_bool ht, Result.andThen_ok, Sem.run_pure]
  case neq => exact Qok.b h (c := !(x == y)) (by rw [Bool.not_eq_true', beq_eq_false_iff_ne, ne_eq, Bool.eq_iff_iff, ← hp, ← hq]) fun w' => by simp only [binOp, Sem.run_bind, run_equal_bool ht, Result.andThen_ok, Sem.run_pure]

theorem sh1_val {a : Sh} {d : D} (h : sh1 a d = true) : (∃ k n, d = .i k n ∧ a = .i k) ∨ ∃ l, d = .s l ∧ a = .s := by
  cases a <;> cases d <;> simp only [sh1, Bool.false_eq_true] at h
  · rename_i k k' n
    have := ikn_inj h
    subst this
    exact .inl ⟨_, _, rfl, rfl⟩
  · exact .inr ⟨_, rfl, rfl⟩
theorem shB_cons {a : Sh} {s : List Sh} {x : List D} (h : shB (a :: s) x = true) : ∃ d r, x = d :: r ∧ sh1 a d = true ∧ shB s r = true := by
  cases x with
  | nil => simp [shB] at h
  | cons d r =>
    simp only [shB] at h
    split at h
    · rename_i hd; exact ⟨d, r, rfl, hd, h⟩
    · cases h
theorem shB_nil {x : List D} (h : shB [] x = true) : x = [] := by
  cases x with
  | nil => rfl
  | cons d r => simp [shB] at h
theorem shB_val : ∀ {sh : List Sh} {x : List D}, shB sh x = true → ∀ (j : Nat) d, x[j]? = some d → (∃ k n, d = .i k n) ∨ ∃ l, d = .s l
  | [], x, h, j, d, hd => by rw [shB_nil h] at hd; simp at hd
  | a :: s, x, h, j, d, hd => by
    obtain ⟨c, r, rfl, h1, h2⟩ := shB_cons h
    cases j with
    | zero =>
      simp at hd
      subst hd
      rcases sh1_val h1 with ⟨k, n, h, _⟩ | ⟨l, h, _⟩
      · exact .inl ⟨k, n, h⟩
      · exact .inr ⟨l, h⟩
    | succ j => exact shB_val h2 j d (by simpa using hd)

theorem plain_of {v : Value} {d : D} (h : RS sz V μ ω v d) (hd : (∃ k n, d = .i k n) ∨ ∃ l, d = .s l) : v = plainV d v := by
  rcases hd with ⟨k, n, rfl⟩ | ⟨l, rfl⟩
  · exact h.int_
  · exact h.str_

theorem boolP_iff {b : Bool} {p : Prop} : boolP b p ↔ b = true ∧ p := by cases b <;> simp [boolP]

theorem aggK_sound {o : BinOp} {x y : List D} {vs us : Array Value} {t : TypeId} {X Y : Operand} {K : D → Prop} (hx : RS sz V μ ω (.agg vs) (.agg x)) (hy : RS sz V μ ω (.agg us) (.agg y)) (h : aggK P o t x y K) :
    Qok P sz V μ ω w (do eqGuard o t X Y (.agg vs) (.agg us); binOp o t (.agg vs) (.agg us)) K := by
  obtain ⟨vs', e1, hs1, _, hR1⟩ := hx.agg_
  cases e1
  obtain ⟨us', e2, hs2, _, hR2⟩ := hy.agg_
  cases e2
  cases o <;> simp only [aggK, boolP_iff] at h
  case eql =>
    obtain ⟨sh, hE, hg, hp, hk⟩ := h
    rw [Bool.and_eq_true] at hp
    obtain ⟨hp1, hp2⟩ := hp
    have key := fun w' => hE x y vs us w' hp1 hp2 hs1 hs2 (fun j v d h1 h2 => plain_of (hR1 j v d h1 h2) (shB_val hp1 j d h2)) (fun j v d h1 h2 => plain_of (hR2 j v d h1 h2) (shB_val hp2 j d h2))
    obtain ⟨c, _, hc⟩ := key w
    refine Qok.b hk hc fun w' => ?_
    obtain ⟨c', hr, hc'⟩ := key w'
    have : c' = c := by rw [Bool.eq_iff_iff]; exact hc'.trans hc.symm
    subst this
    simp [eqGuard, hg, binOp, hr]
  case neq =>
    obtain ⟨sh, hE, hg, hp, hk⟩ := h
    rw [Bool.and_eq_true] at hp
    obtain ⟨hp1, hp2⟩ := hp
    have key := fun w' => hE x y vs us w' hp1 hp2 hs1 hs2 (fun j v d h1 h2 => plain_of (hR1 j v d h1 h2) (shB_val hp1 j d h2)) (fun j v d h1 h2 => plain_of (hR2 j v d h1 h2) (shB_val hp2 j d h2))
    obtain ⟨c, _, hc⟩ := key w
    refine Qok.b hk (c := !c) (by rw [Bool.not_eq_true', ← hc]; simp) fun w' => ?_
    obtain ⟨c', hr, hc'⟩ := key w'
    have : c' = c := by rw [Bool.eq_iff_iff]; exact hc'.trans hc.symm
    subst this
    simp [eqGuard, hg, binOp, hr]

theorem RS.shape_int {v : Value} {x : D} (h : RS sz V μ ω v x) : (∃ k n, x = .i k n ∧ v = .int k n) ∨ (∀ k n, x ≠ .i k n) := by
  cases x <;> first | exact .inl ⟨_, _, rfl, h.int_⟩ | exact .inr (fun _ _ => by simp)

theorem binK_sound (hT : TOk P T) {o : BinOp} {x y : D} {v u : Value} {t : TypeId} {X Y : Operand} {K : D → Prop} (hx : RS sz V μ ω v x) (hy : RS sz V μ ω u y) (h : binK P T o t x y K) :
    Qok P sz V μ ω w (do eqGuard o t X Y v u; binOp o t v u) K := by
  have guard_int : ∀ (k k' : IntKind) (m n : Int) w', (eqGuard o t X Y (.int k m) (.int k' n)).run P w' = .ok () w' := by intro k k' m n w'; cases o <;> simp [eqGuard]
  unfold binK at h
  split at h
  · rename_i k m k' n
    have e1 := hx.int_
    have e2 := hy.int_
    subst e1 e2
    split at h
    · obtain ⟨hn, h⟩ := h
      exact Qok.num h fun w' => by simp [eqGuard, binOp, Op.shift, show ¬ n < 0 by omega]
    · obtain ⟨hn, h⟩ := h
      exact Qok.num h fun w' => by simp [eqGuard, binOp, Op.shift, show ¬ n < 0 by omega]
    · rw [boolP_iff] at h
      obtain ⟨hk, h⟩ := h
      have := ikn_inj hk
      subst this
      obtain ⟨d, v, h1, h2, h3⟩ := intK_sound (P := P) (sz := sz) (V := V) (μ := μ) (ω := ω) (w := w) (t := t) h
      exact ⟨d, v, h1, h2, fun w' he => by simp only [Sem.run_bind, guard_int, Result.andThen_ok]; exact h3 w' he⟩
  · rename_i m n
    have e1 := hx.str_
    have e2 := hy.str_
    subst e1 e2
    obtain ⟨d, v, h1, h2, h3⟩ := strK_sound (P := P) (sz := sz) (V := V) (μ := μ) (ω := ω) (w := w) (t := t) h
    refine ⟨d, v, h1, h2, fun w' he => ?_⟩
    have : (eqGuard o t X Y (.string (bstr m)) (.string (bstr n))).run P w' = .ok () w' := by cases o <;> simp [eqGuard]
    simp only [Sem.run_bind, this, Result.andThen_ok]
    exact h3 w' he
  · obtain ⟨vs, e1, _⟩ := hx.agg_
    obtain ⟨us, e2, _⟩ := hy.agg_
    subst e1 e2
    exact aggK_sound hx hy h
  · split at h
    case h_2 => exact h.elim
    rename_i p q hp hq
    split at h
    case h_2 => exact h.elim
    rename_i hti
    have hu := (hT _ _ hti).kind
    obtain ⟨b1, e1, hb1⟩ := hx.prop_ hp
    obtain ⟨b2, e2, hb2⟩ := hy.prop_ hq
    subst e1 e2
    obtain ⟨d, v, h1, h2, h3⟩ := boolK_sound (P := P) (sz := sz) (V := V) (μ := μ) (ω := ω) (w := w) hu hb1 hb2 h
    refine ⟨d, v, h1, h2, fun w' he => ?_⟩
    have : (eqGuard o t X Y (.bool b1) (.bool b2)).run P w' = .ok () w' := by cases o <;> simp [eqGuard]
    simp only [Sem.run_bind, this, Result.andThen_ok]
    exact h3 w' he

theorem unK_sound {o : UnOp} {x : D} {v : Value} {K : D → Prop} (hx : RS sz V μ ω v x) (h : unK o x K) : Qok P sz V μ ω w (Op.unary o v) K := by
  unfold unK at h
  split at h
  · rw [hx.tt_]; exact ⟨_, _, h, .imm _ _ .ff, fun w' _ => by simp [Op.unary]⟩
  · rw [hx.ff_]; exact ⟨_, _, h, .imm _ _ .tt, fun w' _ => by simp [Op.unary]⟩
  · obtain ⟨b, rfl, hb⟩ := hx.bool
    exact Qok.b h (c := !b) (by rw [← hb]; simp) fun w' => by simp [Op.unary]
  · rw [hx.int_]; exact Qok.num h fun w' => by simp [Op.unary, Op.intArith]
  · rw [hx.int_]; exact Qok.num h fun w' => by simp [Op.unary, Op.intBits]
  · exact h.elim

theorem slK_iff (hT : TOk P T) {t e : TypeId} {p : Prop} (h : slK T t e p) : P.underlying t = some (.slice e) ∧ (∀ w, (sizeOf e).run P w = .ok (szOf T e) w) ∧ (∃ ti, T e = some ti) ∧ p := by
  unfold slK at h
  split at h
  case h_2 => exact h.elim
  rename_i e' _ hti
  split at h
  case h_2 => exact h.elim
  rename_i hb
  have := beq_nat_true hb
  subst this
  split at h
  case h_2 => exact h.elim
  rename_i ti hte
  exact ⟨(hT _ _ hti).kind, fun w => by rw [(hT _ _ hte).size, szOf_eq hte], ⟨ti, hte⟩, h⟩
theorem slK'_iff (hT : TOk P T) {t : TypeId} {p : Prop} (h : slK' T t p) : (∃ e, P.underlying t = some (.slice e)) ∧ p := by
  unfold slK' at h
  split at h
  case h_2 => exact h.elim
  rename_i hti
  exact ⟨⟨_, (hT _ _ hti).kind⟩, h⟩
theorem stK_iff (hT : TOk P T) {t : TypeId} {p : Prop} (h : stK T t p) : P.underlying t = some .string ∧ p := by
  unfold stK at h
  split at h
  case h_2 => exact h.elim
  rename_i hti
  exact ⟨(hT _ _ hti).kind, h⟩

theorem lenK_sound (hT : TOk P T) {t ty : TypeId} {x : D} {v : Value} {K : D → Prop} (hx : RS sz V μ ω v x) (h : lenK T t x K) : Qok P sz V μ ω w (Builtin.len_ #[t] ty #[v]) K := by
  unfold lenK at h
  split at h
  · obtain ⟨hu, hk⟩ := stK_iff hT h
    rw [hx.str_]
    exact ⟨_, _, hk, .imm _ _ (.i _ _), fun w' _ => by simp [Builtin.len_, run_under hu, bstr_size, goInt]⟩
  · obtain ⟨⟨e, hu⟩, hk⟩ := slK'_iff hT h
    obtain ⟨A, ad, c, val, rfl, _⟩ := hx.lst_
    exact ⟨_, _, hk, .imm _ _ (.i _ _), fun w' _ => by simp [Builtin.len_, run_under hu, goInt]⟩
  · obtain ⟨⟨e, hu⟩, hk⟩ := slK'_iff hT h
    obtain ⟨A, N, c, _, _, rfl⟩ := hx.own_
    exact ⟨_, _, hk, .imm _ _ (.i _ _), fun w' _ => by simp [Builtin.len_, run_under hu, goInt]⟩
  · obtain ⟨⟨e, hu⟩, hk⟩ := slK'_iff hT h
    rw [hx.nilS_]
    exact ⟨_, _, hk, .imm _ _ (.i _ _), fun w' _ => by simp [Builtin.len_, run_under hu, goInt]⟩
  · exact h.elim

theorem fieldOff_sound (hT : TOk P T) {t : TypeId} {f : Nat} {K : Nat → TypeId → Prop} (h : fieldOff T t f K) :
    ∃ fa fd, P.underlying t = some (.struct fa) ∧ fa[f]? = some fd ∧ K fd.offset fd.type := by
  unfold fieldOff at h
  split at h
  case h_2 => exact h.elim
  rename_i fs z hti
  obtain ⟨fa, hu, hf⟩ := (hT _ _ hti).kind
  split at h
  case h_2 => exact h.elim
  rename_i off ft hfs
  rw [← hf] at hfs
  simp only [List.getElem?_map, Array.getElem?_toList, Option.map_eq_some_iff, Prod.mk.injEq] at hfs
  obtain ⟨fd, h1, rfl, rfl⟩ := hfs
  exact ⟨fa, fd, hu, h1, h⟩
end
end Go.Vx
