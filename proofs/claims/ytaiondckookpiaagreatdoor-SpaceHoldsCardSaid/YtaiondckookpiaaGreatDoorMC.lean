/- The plain-data machine, third part: panics, deferred closures, library calls, the row's reading. -/
import Derived.Test.YtaiondckookpiaaGreatDoorMB
import Derived.Scope
import Derived.WalkSmall
import Derived.Defers
import Derived.Recover
import Derived.Shelf.SlSortFuncK.WholeK
import Derived.Shelf.GgSortFunc.Tiny
import Derived.Shelf.Strings.Builder1
import Derived.Shelf.Strings.Split
import Derived.Test.YtaiondckookpiaaGreatDoorRows
import Derived.ProofKit
import Derived.Deep.Slices
set_option linter.unusedVariables false
set_option linter.unusedSimpArgs false
/- The plain-data machine, part 19: rows in another order. Nothing here speaks of one program. -/
namespace Go.Vx
open Go.RowKit

/-- Row r goes to the end. -/
def moveK (r : Nat) (s : St) (K : St → Prop) : Prop :=
  match s with
  | ⟨env, box, row, n⟩ => match row[r]? with
    | some (some x) => natLit row.length fun q => subE r (fun m => .own q m) env fun env => subB r (fun m => .own q m) box fun box => setK row r none fun row => snocK row (some x) fun row => K ⟨env, box, row, n⟩
    | _ => False
def movesK : List Nat → St → (St → Prop) → Prop
  | [], s, K => K s
  | r :: rs, s, K => moveK r s fun s => movesK rs s K

section
variable {w0 w w' : World} {V0 : Fr} {V : Vw} {μ : List Nat} {ω : List Value} {box : List (List D)} {row : Rows} {s : St} {a : Act} {P : Program} {T : Tab} {sz : TypeId → Nat}

theorem moveK_sound (hS : Sim sz w0 V0 V μ ω s a w) {r : Nat} {K : St → Prop} (h : moveK r s K) : ∃ s' ω', K s' ∧ Sim sz w0 V0 V μ ω' s' a w := by
  obtain ⟨env, box, row, n⟩ := s
  simp only [moveK] at h
  split at h
  case h_2 => exact h.elim
  rename_i x hr
  simp only [natLit_eq, subE_eq, subB_eq] at h
  obtain ⟨hrr, h⟩ := setK_iff _ _ _ _ h
  simp only [snocK_eq] at h
  have hM := hS.mem
  have hl : ω.length = row.length := hM.rl
  have hrω : r < ω.length := by rw [hl]; exact hrr
  obtain ⟨v, hv⟩ : ∃ v, ω[r]? = some v := ⟨_, List.getElem?_eq_getElem hrω⟩
  have hω : ∀ q u, q ≠ r → ω[q]? = some u → (ω ++ [v])[q]? = some u := fun q u _ hq => by
    rw [List.getElem?_append_left (List.getElem?_eq_some_iff.1 hq).1]; exact hq
  have hlast : (ω ++ [v])[row.length]? = some v := by rw [← hl, List.getElem?_append_right (Nat.le_refl _)]; simp
  have hconv : ∀ m u, RS sz V μ ω u (.own r m) → RS sz V μ (ω ++ [v]) u (.own row.length m) := by
    intro m u hu
    obtain ⟨A, N, c, h1, h2, rfl⟩ := hu.own_
    rw [hv] at h1
    cases h1
    exact .own _ m A N c hlast h2
  have own : ∀ l g, Own μ (ω ++ [v]) (row.set r none ++ [some x]) l g → ∃ l', Own μ ω row l' g ∧ ((l = .inr row.length ∧ l' = .inr r) ∨ (l = l' ∧ l ≠ .inr r ∧ l ≠ .inr row.length)) := by
    intro l g hl2
    cases l with
    | inl i => exact ⟨.inl i, hl2, .inr ⟨rfl, by simp, by simp⟩⟩
    | inr q =>
      obtain ⟨u, y, h1, h2, h3⟩ := hl2
      rcases Nat.lt_or_ge q row.length with hq | hq
      · rw [List.getElem?_append_left (by simpa using hq)] at h2
        rw [List.getElem?_append_left (by rw [hl]; exact hq)] at h1
        by_cases hqr : q = r
        · subst hqr
          rw [List.getElem?_set_self hrr] at h2
          cases h2
        · rw [List.getElem?_set_ne (Ne.symm hqr)] at h2
          exact ⟨.inr q, ⟨u, y, h1, h2, h3⟩, .inr ⟨rfl, by simpa using hqr, by simp; omega⟩⟩
      · rw [List.getElem?_append_right (by simpa using hq)] at h2
        have hq2 : q = row.length := by
          have := (List.getElem?_eq_some_iff.1 h2).1
          simp at this; omega
        subst hq2
        rw [hlast] at h1
        cases h1
        refine ⟨.inr r, ⟨v, x, hv, hr, h3⟩, .inl ⟨rfl, rfl⟩⟩
  refine ⟨_, ω ++ [v], h, ⟨hS.tmps, hS.defers, fun t => ?_, ?_⟩⟩
  · show RS _ _ _ _ _ (look (env.map fun x => (x.1, subDF r (fun m => .own row.length m) x.2)) t)
    rw [look_sub]
    exact (hS.env t).sub (fun _ _ h => h) hω hconv
  · refine ⟨hM.below, hM.vok, hM.vle, hM.vold, by simp [hM.bl], ?_, by simp [hl], ?_, ?_, ?_, ?_⟩
    · intro i g c' h1 h2
      simp only [List.getElem?_map, Option.map_eq_some_iff] at h2
      obtain ⟨cs, hcs, rfl⟩ := h2
      obtain ⟨us, t', a1, b, c'', d, ty⟩ := hM.hbox i g cs h1 hcs
      refine ⟨us, t', a1, by simpa using b, c'', fun j v d' e1 e2 => ?_, bTy_sub (fun _ => rfl) ty⟩
      simp only [List.getElem?_map, Option.map_eq_some_iff] at e2
      obtain ⟨d0, hd0, rfl⟩ := e2
      exact (d j v d0 e1 hd0).sub1 (fun _ _ h => h) hω hconv
    · intro q u e' ys h1 h2
      rcases Nat.lt_or_ge q row.length with hq | hq
      · rw [List.getElem?_append_left (by simpa using hq)] at h2
        rw [List.getElem?_append_left (by rw [hl]; exact hq)] at h1
        by_cases hqr : q = r
        · subst hqr
          rw [List.getElem?_set_self hrr] at h2
          cases h2
        · rw [List.getElem?_set_ne (Ne.symm hqr)] at h2
          exact hM.hrow q u e' ys h1 h2
      · rw [List.getElem?_append_right (by simpa using hq)] at h2
        have hq2 : q = row.length := by
          have := (List.getElem?_eq_some_iff.1 h2).1
          simp at this; omega
        subst hq2
        rw [hlast] at h1
        cases h1
        simp at h2
        subst h2
        exact hM.hrow r v e' ys hv hr
    · intro l l' g h1 h2
      obtain ⟨m, o1, c1⟩ := own l g h1
      obtain ⟨m', o2, c2⟩ := own l' g h2
      have := hM.uniq m m' g o1 o2
      rcases c1 with ⟨e1, e2⟩ | ⟨e1, e2, e3⟩ <;> rcases c2 with ⟨f1, f2⟩ | ⟨f1, f2, f3⟩
      · rw [e1, f1]
      · exact absurd (by rw [f1, ← this, e2]) f2
      · exact absurd (by rw [e1, this, f2]) e2
      · rw [e1, f1, this]
    · intro l g h1
      obtain ⟨m, o1, _⟩ := own l g h1
      exact hM.new m g o1
    · intro p u l hp h1
      obtain ⟨m, o1, _⟩ := own l _ h1
      exact hM.vmut p u m hp o1
theorem movesK_sound : ∀ (mv : List Nat) {s : St} {ω : List Value} {K : St → Prop}, Sim sz w0 V0 V μ ω s a w → movesK mv s K → ∃ s' ω', K s' ∧ Sim sz w0 V0 V μ ω' s' a w
  | [], _, _, _, hS, h => ⟨_, _, h, hS⟩
  | r :: rs, _, _, _, hS, h => by
    obtain ⟨s1, ω1, h1, hS1⟩ := moveK_sound hS h
    exact movesK_sound rs hS1 h1
theorem Ok.moves {c : Code} {Q : Exit → St → Prop} (mv : List Nat) (h : movesK mv s (Ok P T c Q)) : Ok P T c Q s := by
  refine ⟨fun w0 V0 V μ ω a w hS => ?_⟩
  obtain ⟨s', ω', hk, hS'⟩ := movesK_sound mv hS h
  exact hk.run w0 V0 V μ ω' a w hS'
/-- A statement ahead of others; what it changes is told by x; the rows may be laid in another order first. -/
theorem Ok.seqM {c1 c2 : Code} {Q : Exit → St → Prop} {ι : Type} (L Cs : List Nat) (k kb : Nat) (C : ι → List D) (B : ι → List (List D)) (R : ι → Rows) (I : ι → Prop)
    (h : keepK L 0 0 s fun s0 => match s0 with
      | ⟨env, _, _, n⟩ => (Ok P T c1 (thenQ (fun s' => ∃ x, I x ∧ ∃ mv, movesK mv s' fun s' => keepK (catL Cs L) k kb s' fun s1 => s1 = ⟨envCat Cs (C x) env, B x, R x, n⟩) Q) s) ∧
        ∀ x, I x → envCatK Cs (C x) env fun env' => Ok P T c2 Q ⟨env', B x, R x, n⟩) : Ok P T (.seq c1 c2) Q s := by
  obtain ⟨⟨env, box, row, n⟩, h1, h2⟩ := keepK_some h
  refine Ok.seq (h1.mono ?_)
  intro e s' h
  cases e with
  | normal =>
    obtain ⟨x, hI, mv, hk⟩ := h
    refine ⟨fun w0 V0 V μ ω a w hS => ?_⟩
    obtain ⟨s1, ω1, hk, hS1⟩ := movesK_sound mv hS hk
    obtain ⟨s2, μ2, ω2, rfl, hS2⟩ := keepK_sound hS1 hk
    have := h2 x hI
    rw [envCatK_eq] at this
    exact this.run w0 V0 V μ2 ω2 a w hS2
  | _ => exact h
theorem Ok.joinM {c : Code} {Q : Exit → St → Prop} {ι : Type} (L Cs : List Nat) (k kb : Nat) (C : ι → List D) (B : ι → List (List D)) (R : ι → Rows) (I : Exit → ι → Prop)
    (h : keepK L 0 0 s fun s0 => match s0 with
      | ⟨env, _, _, n⟩ => (Ok P T c (fun e s' => ∃ x, I e x ∧ ∃ mv, movesK mv s' fun s' => keepK (catL Cs L) k kb s' fun s1 => s1 = ⟨envCat Cs (C x) env, B x, R x, n⟩) s) ∧
        ∀ e x, I e x → envCatK Cs (C x) env fun env' => Q e ⟨env', B x, R x, n⟩) : Ok P T c Q s := by
  obtain ⟨⟨env, box, row, n⟩, h1, h2⟩ := keepK_some h
  refine ⟨fun w0 V0 V μ ω a w hS => wp_mono (h1.run w0 V0 V μ ω a w hS) ?_⟩
  rintro e a' w' ⟨s', V', μ', ω', ⟨x, hI, mv, hk⟩, hS'⟩
  obtain ⟨s1, ω1, hk, hS1⟩ := movesK_sound mv hS' hk
  obtain ⟨s2, μ2, ω2, rfl, hS2⟩ := keepK_sound hS1 hk
  have := h2 e x hI
  rw [envCatK_eq] at this
  exact ⟨_, V', μ2, ω2, this, hS2⟩
/-- Ends with more boxes and rows than there were. -/
theorem Ok.joinV {c : Code} {Q : Exit → St → Prop} {ι : Type} (L Cs : List Nat) (k0 kb0 k kb : Nat) (C : ι → List D) (B : ι → List (List D)) (R : ι → Rows) (I : Exit → ι → Prop)
    (h : keepK L k0 kb0 s fun s0 => match s0 with
      | ⟨env, _, _, n⟩ => (Ok P T c (fun e s' => ∃ x, I e x ∧ keepK (catL Cs L) k kb s' fun s1 => s1 = ⟨envCat Cs (C x) env, B x, R x, n⟩) s) ∧
        ∀ e x, I e x → envCatK Cs (C x) env fun env' => Q e ⟨env', B x, R x, n⟩) : Ok P T c Q s := by
  obtain ⟨⟨env, box, row, n⟩, h1, h2⟩ := keepK_some h
  exact Ok.joinK (catL Cs L) k kb (fun x => ⟨envCat Cs (C x) env, B x, R x, n⟩) I h1 fun e x hx => by
    have := h2 e x hx
    rwa [envCatK_eq] at this
end
end Go.Vx
/- The plain-data machine: scopes, panics, calls that panic. Nothing here speaks of one program. -/
namespace Go.Vx
open Go.RowKit
def scopeQ (Q : Exit → St → Prop) : Exit → St → Prop
  | .normal, s => Q .normal s
  | .exit i, s => Q (.exit i) s
  | .goto _, _ => False
  | .ret, s => Q .ret s
  | .panic c, s => Q (.panic c) s
  | .outgrown, s => Q .outgrown s
section
variable {P : Program} {T : Tab} {s : St} {Q : Exit → St → Prop}
theorem Ok.scope {c : Code} (h : Ok P T c (scopeQ Q) s) : Ok P T (.scope c) Q s := by
  refine ⟨fun w0 V0 V μ ω a w hS => wp_scope_straight (wp_mono (h.run w0 V0 V μ ω a w hS) ?_)⟩
  rintro e a' w' ⟨s', V', μ', ω', hk, hS'⟩
  cases e <;> first | exact ⟨s', V', μ', ω', hk, hS'⟩ | exact hk.elim
theorem Ok.label {l : Nat} (h : Q .normal s) : Ok P T (.label l) Q s :=
  ⟨fun _ _ V μ ω _ _ hS => wp_label ⟨s, V, μ, ω, h, hS⟩⟩

/-- A function that panics with v, whatever it leaves behind in new memory. -/
structure PSpec (P : Program) (T : Tab) (f : FuncId) (ds : List D) (v : Value) : Prop where
  call : ∀ args w, (callFunc f args).run P w = .ok (.enter f args) w
  run : ∀ (V : Vw) (w : World) (args : Array Value), VOk V w → args.size = ds.length → (∀ (j : Nat) u d, args[j]? = some u → ds[j]? = some d → RI (szOf T) V u d) →
    Calls P f args w fun e w' => e = .panicked [{ v := v, recovered := false }] ∧ Below w.heap.size w w'

theorem start_sim {fn : Func} {ds : List D} {V : Vw} {w : World} {args : Array Value} {df : List Deferred} (hn : ds.length ≤ fn.ntmps) (hV : VOk V w) (hl : args.size = ds.length)
    (hR : ∀ (j : Nat) v d, args[j]? = some v → ds[j]? = some d → RI (szOf T) V v d) :
    Sim (szOf T) w ⟨V, fun _ => undef, df⟩ V [] [] ⟨envOf 0 ds, [], [], fn.ntmps⟩ { tmps := args ++ Array.replicate (fn.ntmps - args.size) undef, defers := df } w := by
  refine ⟨by simp; omega, rfl, fun t => ?_, (Mem.start hV).fr rfl⟩
  show RS _ _ _ _ (slotV _ fn.ntmps _ t) (look (envOf 0 ds) t)
  rw [look_envOf, if_pos (Nat.zero_le _), Nat.sub_zero]
  unfold slotV
  split
  case isFalse hge =>
    rw [List.getD, List.getElem?_eq_none (by omega)]
    exact .imm _ _ (.u _)
  show RS _ _ _ _ ((args ++ Array.replicate (fn.ntmps - args.size) undef).getD t undef) _
  by_cases ht : t < ds.length
  · have hta : t < args.size := by omega
    have hd := List.getElem?_eq_getElem ht
    have ha := Array.getElem?_eq_getElem hta
    have := hR t _ _ ha hd
    have e1 : (args ++ Array.replicate (fn.ntmps - args.size) undef).getD t undef = args[t] := by
      simp [Array.getD, hta]
      omega
    rw [e1]
    simp only [List.getD, hd, Option.getD_some]
    exact .imm _ _ this
  · rw [List.getD, List.getElem?_eq_none (by omega)]
    exact .imm _ _ (.u _)

def panQ (v : Value) : Exit → St → Prop
  | .panic c, _ => c = [{ v := v, recovered := false }]
  | _, _ => False
theorem PSpec.of_ok {f : FuncId} {fn : Func} {c : Code} (hf : P.funcs[f]? = some fn) (hb : fn.body = some c) (hcall : ∀ args w, (callFunc f args).run P w = .ok (.enter f args) w) {ds : List D} {v : Value} (hn : ds.length ≤ fn.ntmps)
    (h : Ok P T c (panQ v) ⟨envOf 0 ds, [], [], fn.ntmps⟩) : PSpec P T f ds v := by
  refine ⟨hcall, fun V w args hV hl hR => calls_of_wp hf hb ?_⟩
  refine wp_mono (h.run w ⟨V, fun _ => undef, []⟩ V [] [] _ w (start_sim hn hV hl hR)) ?_
  rintro e a' w' ⟨s', V', μ', ω', hq, hS'⟩
  cases e <;> simp only [panQ] at hq
  subst hq
  exact ⟨hS'.defers, rfl, hS'.mem.below⟩

/-- The first n operations of a region, then whatever the next one does. -/
def vopsCut (P : Program) (T : Tab) (ops : List Oper) : Nat → List Oper → St → (Oper → St → Prop) → Prop
  | _, [], _, _ => False
  | 0, o :: _, s, K => K o s
  | n + 1, o :: rest, s, K => wantK ops s o.guard
      (fun s => vop P T s o fun d s => putK s o.dst d fun s => vopsCut P T ops n rest s K)
      (fun s => putK s o.dst (.tup []) fun s => vopsCut P T ops n rest s K)
theorem vopsCut_sound {w0 : World} {V0 : Fr} (hT : TOk P T) {ops : List Oper} {Q : Exit → Act → World → Prop} : ∀ (n : Nat) (rest : List Oper) (s : St) (V : Vw) (μ : List Nat) (ω : List Value) (a : Act) (w : World) (K : Oper → St → Prop), Sim (szOf T) w0 V0 V μ ω s a w →
    vopsCut P T ops n rest s K → (∀ o r s V μ ω a w, K o s → Sim (szOf T) w0 V0 V μ ω s a w → wpList P ops.toArray Q (o :: r) a w) → wpList P ops.toArray Q rest a w
  | 0, [], _, _, _, _, _, _, _, _, h, _ => by simp [vopsCut] at h
  | _ + 1, [], _, _, _, _, _, _, _, _, h, _ => by simp [vopsCut] at h
  | 0, o :: rest, s, V, μ, ω, a, w, K, hS, h, hq => hq o rest s V μ ω a w h hS
  | n + 1, o :: rest, s, V, μ, ω, a, w, K, hS, h, hq => by
    simp only [vopsCut] at h
    unfold wpList
    rcases wantK_sound hS h with ⟨hw, s1, h, hS⟩ | ⟨hw, s1, h, hS⟩
    · rw [if_pos hw]
      refine .inl (vop_sound hT hS h _ _ fun d v s2 V2 μ2 ω2 w2 hk hr hS2 _ => ?_)
      obtain ⟨s3, h, hS3⟩ := putK_sound hS2 hr hk
      exact vopsCut_sound hT n rest s3 _ _ _ _ _ K hS3 h hq
    · rw [if_neg (by rw [hw]; simp)]
      obtain ⟨s3, h, hS3⟩ := putK_sound hS (v := undef) (d := .tup []) (RS.tup [] #[] rfl (fun j v d h => by simp at h)) h
      exact vopsCut_sound hT n rest s3 _ _ _ _ _ K hS3 h hq
/-- The call that panics. -/
def callPan (P : Program) (T : Tab) (Q : Exit → St → Prop) (o : Oper) (s : St) : Prop :=
  match o.guard with
  | some _ => False
  | none => match o.op with
    | .call { callee := .value (.func f), args, argTypes } => expos T s.row argTypes.toList (s.gets args.toList) fun ds => ∃ v, PSpec P T f ds v ∧ Q (.panic [{ v := v, recovered := false }]) s
    | _ => False
theorem Ok.region_pan (hT : TOk P T) {id : Nat} {l : List Oper} (n : Nat) (h : vopsCut P T l n l s (callPan P T Q)) : Ok P T (.region id l.toArray false) Q s := by
  refine ⟨fun w0 V0 V μ ω a w hS => wp_region_lit (vopsCut_sound hT n l s V μ ω a w _ hS h ?_)⟩
  intro o r s V μ ω a w hk hS
  obtain ⟨dst, op, type, pos, after, guard⟩ := o
  unfold callPan at hk
  split at hk
  · exact hk.elim
  rename_i hg
  dsimp only at hg
  subst hg
  split at hk
  case h_2 => exact hk.elim
  rename_i f args argTypes hop
  dsimp only at hop
  subst hop
  obtain ⟨es, ⟨v, hp, hq⟩, hes, hri⟩ := expos_sound hS.mem argTypes.toList (s.gets args.toList) (args.toList.map a.eval) _ (by simp [St.gets]) (hS.gets args.toList).2 hk
  unfold wpList
  rw [if_pos (by simp [Region.wanted])]
  left
  unfold Oper.wp
  have hrun : (execOp a.eval ⟨dst, .call ⟨.value (.func f), args, argTypes⟩, type, pos, after, none⟩).run P w = .ok (.enter f (args.map a.eval)) w := by
    simp only [execOp, resolve, Act.eval, Deferred.ofValue, invoke, Sem.run_bind, Sem.run_pure, Result.andThen_ok]
    rw [show (#[] ++ args.map a.eval) ++ #[] = args.map a.eval by simp, hp.call]
  rw [hrun]
  show Calls P f (args.map a.eval) w _
  have hcalls := hp.run _ w (args.map a.eval) (fun _ _ h => h) (by simp [hes, St.gets]) (fun j v d h1 h2 => hri j v d (by simpa using h1) h2)
  refine hcalls.mono ?_
  rintro e w' ⟨rfl, hb⟩
  exact ⟨s, V, μ, ω, hq, hS.ext hb⟩
end
end Go.Vx
/- The plain-data machine: functions with a deferred closure that recovers. Nothing here speaks of one program. -/
namespace Go.Vx
open Go.RowKit
def flatC : Code → List Code
  | .seq a b => flatC a ++ flatC b
  | c => [c]
def wpL (P : Program) (Q : Exit → Act → World → Prop) : List Code → Act → World → Prop
  | [], a, w => Q .normal a w
  | c :: r, a, w => c.wp P (Exit.then (wpL P Q r) Q) a w
theorem wpL_append {P : Program} {Q : Exit → Act → World → Prop} (m : List Code) : ∀ l : List Code, wpL P Q (l ++ m) = wpL P (Exit.then (wpL P Q m) Q) l
  | [] => rfl
  | c :: r => by
    funext a w
    show c.wp P (Exit.then (wpL P Q (r ++ m)) Q) a w = c.wp P (Exit.then (wpL P (Exit.then (wpL P Q m) Q) r) (Exit.then (wpL P Q m) Q)) a w
    rw [wpL_append m r]
    congr 1
    funext e a w
    cases e <;> rfl
theorem wp_of_flat {P : Program} : ∀ (c : Code) {Q : Exit → Act → World → Prop} {a : Act} {w : World}, wpL P Q (flatC c) a w → c.wp P Q a w := by
  have one : ∀ (c : Code) {Q : Exit → Act → World → Prop} {a : Act} {w : World}, wpL P Q [c] a w → c.wp P Q a w := fun c Q a w h =>
    wp_mono h fun e a w hq => by cases e <;> exact hq
  intro c
  induction c with
  | seq x y ihx ihy =>
    intro Q a w h
    rw [flatC, wpL_append] at h
    refine wp_seq (wp_mono (ihx h) fun e a w hq => ?_)
    cases e <;> first | exact ihy hq | exact hq
  | _ => intro Q a w h; exact one _ h
section
variable {P : Program} {T : Tab} {s : St} {Q : Exit → St → Prop}
/-- Statements one behind the other. -/
structure OkL (P : Program) (T : Tab) (l : List Code) (Q : Exit → St → Prop) (s : St) : Prop where
  run : ∀ (w0 : World) (V0 : Fr) (V : Vw) (μ : List Nat) (ω : List Value) (a : Act) (w : World), Sim (szOf T) w0 V0 V μ ω s a w →
    wpL P (fun e a' w' => ∃ s' V' μ' ω', Q e s' ∧ Sim (szOf T) w0 V0 V' μ' ω' s' a' w') l a w
theorem OkL.nil (h : Q .normal s) : OkL P T [] Q s := ⟨fun _ _ V μ ω _ _ hS => ⟨s, V, μ, ω, h, hS⟩⟩
theorem OkL.cons {c : Code} {r : List Code} (h : Ok P T c (thenQ (OkL P T r Q) Q) s) : OkL P T (c :: r) Q s := by
  refine ⟨fun w0 V0 V μ ω a w hS => wp_mono (h.run w0 V0 V μ ω a w hS) ?_⟩
  rintro e a' w' ⟨s', V', μ', ω', hk, hS'⟩
  cases e with
  | normal => exact hk.run w0 V0 V' μ' ω' a' w' hS'
  | _ => exact ⟨s', V', μ', ω', hk, hS'⟩

/-- The deferred closure: where nothing panics it leaves all as it is; where pv came it is caught, and the two results are written. -/
structure DefSpec (P : Program) (g : FuncId) (pv : Value) (z1 z2 : List Value) : Prop where
  call : ∀ args w, (callFunc g args).run P w = .ok (.enter g args) w
  idle : ∀ p q w, CallsD P g #[.pointer (some p), .pointer (some q)] .returning w fun e u' w' => e = .returned (.tuple #[]) ∧ u' = .returning ∧ Ext w w'
  caught : ∀ p q w, (∀ w1, Ext w w1 → ∃ w2, (storeCells p z1).run P w1 = .ok () w2 ∧ ∃ w3, (storeCells q z2).run P w2 = .ok () w3) →
    CallsD P g #[.pointer (some p), .pointer (some q)] (.panicking [{ v := pv, recovered := false }]) w fun e u' w' => e = .returned (.tuple #[]) ∧ u' = .panicking [{ v := pv, recovered := true }] ∧
      ∃ w1 w2, Ext w w1 ∧ (storeCells p z1).run P w1 = .ok () w2 ∧ (storeCells q z2).run P w2 = .ok () w'

def defB (T : Tab) (fn : Func) (R : D → Rows → Prop) (pv : Value) (z1 z2 : List D) : Exit → St → Prop
  | .normal, s => retK T fn R s
  | .ret, s => retK T fn R s
  | .panic c, s => c = [{ v := pv, recovered := false }] ∧ (match s with
    | ⟨env, box, row, n⟩ => ∃ i j cs1 cs2, look env n = .bp i 0 ∧ look env (n + 1) = .bp j 0 ∧ box[i]? = some cs1 ∧ box[j]? = some cs2 ∧ z1.length = cs1.length ∧ z2.length = cs2.length ∧ i ≠ j ∧ n = fn.ntmps ∧ retK T fn R ⟨env, (box.set i z1).set j z2, row, n⟩)
  | _, _ => False
def defA (P : Program) (T : Tab) (fn : Func) (R : D → Rows → Prop) (pv : Value) (z1 z2 : List D) (t p q : Nat) (Bs : List Code) : Exit → St → Prop
  | .normal, s => match s with
    | ⟨env, box, row, n⟩ => ∃ i j, look env p = .bp i 0 ∧ look env q = .bp j 0 ∧ p < n ∧ q < n ∧ t < n ∧ n = fn.ntmps ∧ OkL P T Bs (defB T fn R pv z1 z2) ⟨(n, .bp i 0) :: (n + 1, .bp j 0) :: (t, .u) :: env, box, row, n⟩
  | .ret, s => retK T fn R s
  | _, _ => False

theorem retK_leaves (hT : TOk P T) {fn : Func} {R : D → Rows → Prop} {s' : St} {w : World} {V0 : Fr} {V V' : Vw} {μ' : List Nat} {ω' : List Value} {a' : Act} {w' : World} (hV0 : V0.V = V) (hS' : Sim (szOf T) w V0 V' μ' ω' s' a' w') (hr : retK T fn R s') :
    ∃ v, (results fn a'.tmps).run P w' = .ok v w' ∧ ∃ V' ω row v' d, Ending.returned v = .returned v' ∧ R d row ∧ RS (szOf T) V' [] ω v' d ∧ Res (szOf T) V V' ω row w w' := by
  subst hV0
  obtain ⟨vs, ds', hk, hv, hrun⟩ := resK_sound hT hS' _ _ hr
  refine ⟨if h : vs.toArray.size = 1 then vs.toArray[0] else .tuple vs.toArray, ?_, ?_⟩
  · rw [results_eq, Array.mapM_eq_mapM_toList]
    simp only [Sem.run_bind, Sem.run_map, hrun, Result.andThen_ok, Sem.run_pure]
  · rcases hk with hk | hk | hk
    · obtain ⟨V1, ds1, s1, hk, hv1, hS1, _⟩ := pubsK_sound 8 hS' hv hk
      obtain ⟨es, hk, hes, hri⟩ := exposN_sound _ _ _ _ hv1 hk
      refine ⟨V1, [], [], _, _, rfl, hk, oneD_rel ⟨by rw [hv1.1, hes], fun j v d h1 h2 => .imm _ _ (hri j v d h1 h2)⟩, ?_⟩
      exact Res.of_mem hS1.mem (Pick.start _ _)
    · obtain ⟨row1, acc, es, ω0, f0, hk, hp, _, hes⟩ := gaths_sound _ _ _ _ _ _ _ _ (Pick.start _ _) hv hk
      exact ⟨V', ω0, acc, _, _, rfl, hk, oneD_rel hes, Res.of_mem hS'.mem hp⟩
    · obtain ⟨ω1, row0, ds1, hk, _, hM1, hv1⟩ := nilOwn_sound _ _ _ _ _ _ hS'.mem hv hk
      obtain ⟨row1, acc, es, ω0, f0, hk, hp, _, hes⟩ := gaths_sound _ _ _ _ _ _ _ _ (Pick.start _ _) hv1 hk
      exact ⟨V', ω0, acc, _, _, rfl, hk, oneD_rel hes, Res.of_mem hM1 hp⟩

/-- Another frame behind. -/
theorem Sim.frame {sz : TypeId → Nat} {w0 w : World} {V0 V0' : Fr} {V : Vw} {μ : List Nat} {ω : List Value} {a a' : Act} {env env' : List (Nat × D)} {box : List (List D)} {row : Rows} {n : Nat} (h : Sim sz w0 V0 V μ ω ⟨env, box, row, n⟩ a w) (hV : V0'.V = V0.V)
    (hn : a'.tmps.size = n) (hd : a'.defers = V0'.df) (he : ∀ t, RS sz V μ ω (slotV V0' n a' t) (look env' t)) : Sim sz w0 V0' V μ ω ⟨env', box, row, n⟩ a' w :=
  ⟨hn, hd, he, h.mem.fr hV⟩

theorem z_agg {V : Vw} {μ : List Nat} {ω : List Value} {sz : TypeId → Nat} {z : List Value} {zd : List D} (hz : z.map ofVal = zd) (ho : ∀ v ∈ z, v.oneCell' = true) : AggR sz V μ ω z.toArray zd := by
  subst hz
  refine ⟨by simp, by simpa using ho, fun j v d h1 h2 => ?_⟩
  simp only [List.getElem?_toArray] at h1
  simp only [List.getElem?_map, h1, Option.map_some, Option.some.injEq] at h2
  subst h2
  exact .imm _ _ (RI_ofVal v)

theorem noB_ofVal (z : List Value) : noB (z.map ofVal) = true := by
  cases z with
  | nil => rfl
  | cons v r =>
    simp only [List.map_cons]
    unfold ofVal
    split <;> rfl
theorem FSpec.of_defer (hT : TOk P T) {f : FuncId} {fn : Func} {c : Code} (hf : P.funcs[f]? = some fn) (hb : fn.body = some c) (hcall : ∀ args w, (callFunc f args).run P w = .ok (.enter f args) w) {ds : List D} {R : D → Rows → Prop} (hn : ds.length ≤ fn.ntmps)
    {pv : Value} {z1 z2 : List Value} {zd1 zd2 : List D} (hz1 : z1.map ofVal = zd1) (hz2 : z2.map ofVal = zd2) (ho1 : ∀ v ∈ z1, v.oneCell' = true) (ho2 : ∀ v ∈ z2, v.oneCell' = true) {id g t p q : Nat} {ty1 ty2 : TypeId} {p1 p2 : String} {e1 e2 : Array Edge} (hD : DefSpec P g pv z1 z2) {As Bs : List Code}
    (hflat : flatC c = As ++ (.region id #[⟨some t, .makeFunc (.func g) #[] #[.tmp p, .tmp q], ty1, p1, e1, none⟩, ⟨none, .defer ⟨.value (.tmp t), #[], #[]⟩, ty2, p2, e2, none⟩] false :: Bs))
    (h : OkL P T As (defA P T fn R pv zd1 zd2 t p q Bs) ⟨envOf 0 ds, [], [], fn.ntmps⟩) : FSpec P T f ds R := by
  refine ⟨hcall, fun V w args hV hl hR => calls_of_wp_defers hf hb (wp_of_flat c ?_)⟩
  rw [hflat, wpL_append]
  have hA := h.run w ⟨V, fun _ => undef, []⟩ V [] [] _ w (start_sim hn hV hl hR)
  have mono : ∀ (l : List Code) {Q Q' : Exit → Act → World → Prop} (a : Act) (w : World), (∀ e a w, Q e a w → Q' e a w) → wpL P Q l a w → wpL P Q' l a w := by
    intro l
    induction l with
    | nil => intro Q Q' a w hq h; exact hq _ _ _ h
    | cons c r ih => intro Q Q' a w hq h; exact wp_mono h fun e a w h => by cases e <;> first | exact ih _ _ hq h | exact hq _ _ _ h
  refine mono As _ _ ?_ hA
  rintro e a' w' ⟨s', V', μ', ω', hq, hS'⟩
  cases e with
  | ret =>
    obtain ⟨v, hv, hr⟩ := retK_leaves (P := P) hT rfl hS' hq
    show Leaves P fn a'.tmps _ a'.defers .returning w'
    rw [hS'.defers]
    exact ⟨v, hv, hr⟩
  | normal =>
    obtain ⟨env, box, row, n⟩ := s'
    obtain ⟨i, j, hp, hqq, hpn, hqn, htn, hnn, hB⟩ := hq
    have rp := hS'.slot hpn
    have rq := hS'.slot hqn
    rw [hp] at rp
    rw [hqq] at rq
    obtain ⟨g1, hg1, hv1⟩ := rp.bp_
    obtain ⟨g2, hg2, hv2⟩ := rq.bp_
    show Code.wp P (.region id _ false) _ a' w'
    refine wp_region_lit ?_
    unfold wpList
    rw [if_pos (by simp [Region.wanted])]
    left
    unfold Oper.wp
    have r1 : (execOp a'.eval ⟨some t, .makeFunc (.func g) #[] #[.tmp p, .tmp q], ty1, p1, e1, none⟩).run P w' = .ok (.value (.func (.func g) #[] #[.pointer (some ⟨g1, 0, none⟩), .pointer (some ⟨g2, 0, none⟩)])) w' := by
      simp only [execOp, Instr.makeFunc, Sem.run_bind, Sem.run_pure, Result.andThen_ok, List.map_toArray, List.map_cons, List.map_nil, Act.eval, hv1, hv2]
    rw [r1]
    show wpList P _ _ [_] (a'.put (some t) _) w'
    unfold wpList
    rw [if_pos (by simp [Region.wanted])]
    left
    unfold Oper.wp
    have r2 : (execOp (a'.put (some t) (.func (.func g) #[] #[.pointer (some ⟨g1, 0, none⟩), .pointer (some ⟨g2, 0, none⟩)])).eval ⟨none, .defer ⟨.value (.tmp t), #[], #[]⟩, ty2, p2, e2, none⟩).run P w' =
        .ok (.defer { target := .fn (.func g) #[.pointer (some ⟨g1, 0, none⟩), .pointer (some ⟨g2, 0, none⟩)], args := #[] }) w' := by
      have hsz : t < a'.tmps.size := by have := hS'.tmps; dsimp only at this; omega
      have hev : (a'.put (some t) (.func (.func g) #[] #[.pointer (some ⟨g1, 0, none⟩), .pointer (some ⟨g2, 0, none⟩)])).eval (.tmp t) = .func (.func g) #[] #[.pointer (some ⟨g1, 0, none⟩), .pointer (some ⟨g2, 0, none⟩)] := by
        simp [Act.put, Act.eval, Array.getD, hsz]
      simp only [execOp, resolve, hev, Deferred.ofValue, Sem.run_bind, Sem.run_pure, Result.andThen_ok, List.map_toArray, List.map_nil]
      rfl
    rw [r2]
    show wpL P _ Bs _ w'
    refine mono Bs _ _ ?_ (hB.run w ⟨V, fun x => if x = n then .pointer (some ⟨g1, 0, none⟩) else if x = n + 1 then .pointer (some ⟨g2, 0, none⟩) else undef,
      [{ target := .fn (.func g) #[.pointer (some ⟨g1, 0, none⟩), .pointer (some ⟨g2, 0, none⟩)], args := #[] }]⟩ V' μ' ω' _ w' (hS'.frame rfl ?_ ?_ ?_))
    · rintro e a2 w2 ⟨s2, V2, μ2, ω2, hq2, hS2⟩
      have idle : retK T fn R s2 → Leaves P fn a2.tmps (fun e w' => ∃ V' ω row v d, e = .returned v ∧ R d row ∧ RS (szOf T) V' [] ω v d ∧ Res (szOf T) V V' ω row w w') a2.defers .returning w2 := by
        intro hr
        rw [hS2.defers]
        refine leaves_cons (f := g) (args := #[.pointer (some ⟨g1, 0, none⟩), .pointer (some ⟨g2, 0, none⟩)]) (by simp) ?_ ((hD.idle _ _ w2).mono ?_)
        · simp only [invoke]
          rw [hD.call]
          rfl
        · rintro e u' w3 ⟨rfl, rfl, hx⟩
          obtain ⟨v, hv, hr⟩ := retK_leaves (P := P) hT rfl (hS2.ext hx) hr
          exact ⟨v, hv, hr⟩
      cases e with
      | normal => exact idle hq2
      | ret => exact idle hq2
      | panic ch =>
        obtain ⟨rfl, hq2⟩ := hq2
        obtain ⟨env2, box2, row2, n2⟩ := s2
        obtain ⟨i2, j2, cs1, cs2, hi2, hj2, hb1, hb2, hl1, hl2, hij, hn2, hr⟩ := hq2
        have hnn2 : n2 = n := by rw [hn2, hnn]
        subst hnn2
        have re1 := hS2.env n2
        have re2 := hS2.env (n2 + 1)
        dsimp only at re1 re2
        rw [hi2] at re1
        rw [hj2] at re2
        unfold slotV at re1 re2
        rw [if_neg (by omega)] at re1 re2
        simp only [if_true, show n2 + 1 ≠ n2 by omega, if_false] at re1 re2
        obtain ⟨h1, hm1, hh1⟩ := re1.bp_
        cases hh1
        obtain ⟨h2, hm2, hh2⟩ := re2.bp_
        cases hh2
        show Leaves P fn a2.tmps _ a2.defers _ w2
        rw [hS2.defers]
        have stores : ∀ w1, Ext w2 w1 → ∃ w3, (storeCells ⟨g1, 0, none⟩ z1).run P w1 = .ok () w3 ∧ ∃ w4, (storeCells ⟨g2, 0, none⟩ z2).run P w3 = .ok () w4 ∧
            Sim (szOf T) w ⟨V, fun x => if x = n2 then .pointer (some ⟨g1, 0, none⟩) else if x = n2 + 1 then .pointer (some ⟨g2, 0, none⟩) else undef,
      [{ target := .fn (.func g) #[.pointer (some ⟨g1, 0, none⟩), .pointer (some ⟨g2, 0, none⟩)], args := #[] }]⟩ V2 μ2 ω2 ⟨env2, (box2.set i2 zd1).set j2 zd2, row2, n2⟩ a2 w4 := by
          intro w1 hx
          obtain ⟨p1', w3, hp1, hst1, hS3, _⟩ := store_bp_sound (P := P) (hS2.ext hx) (i := i2) (off := 0) (RS.bp i2 0 g1 hm1) (z_agg hz1 ho1) hb1 (by omega) (by rw [setCells_all hl1, ← hz1]; exact noB_ofVal z1)
          cases hp1
          have hb2' : (box2.set i2 (setCells cs1 0 zd1))[j2]? = some cs2 := by rw [List.getElem?_set_ne hij]; exact hb2
          obtain ⟨p2', w4, hp2, hst2, hS4, _⟩ := store_bp_sound (P := P) hS3 (i := j2) (off := 0) (RS.bp j2 0 g2 hm2) (z_agg hz2 ho2) hb2' (by omega) (by rw [setCells_all hl2, ← hz2]; exact noB_ofVal z2)
          cases hp2
          rw [setCells_all hl1, setCells_all hl2] at hS4
          exact ⟨w3, by simpa using hst1, w4, by simpa using hst2, hS4⟩
        refine leaves_cons (f := g) (args := #[.pointer (some ⟨g1, 0, none⟩), .pointer (some ⟨g2, 0, none⟩)]) (by simp) ?_ ((hD.caught _ _ w2 fun w1 hx => let ⟨w3, k1, w4, k2, _⟩ := stores w1 hx; ⟨w3, k1, w4, k2⟩).mono ?_)
        · simp only [invoke]
          rw [hD.call]
          rfl
        · rintro e u' w5 ⟨rfl, rfl, w1, w3, hx, k1, k2⟩
          obtain ⟨w3', k1', w4', k2', hS5⟩ := stores w1 hx
          rw [k1] at k1'
          cases k1'
          rw [k2] at k2'
          cases k2'
          obtain ⟨v, hv, hr⟩ := retK_leaves (P := P) hT rfl hS5 hr
          exact ⟨v, hv, hr⟩
      | _ => exact hq2.elim
    · simp only [Act.put]
      have := hS'.tmps
      dsimp only at this
      simpa using this
    · simp only [Act.put]
      rw [hS'.defers]
    · intro x
      unfold look
      cases h1 : Nat.beq n x with
      | true =>
        have := beq_nat_true h1
        subst this
        unfold slotV
        rw [if_neg (by omega)]
        simp only [if_true]
        exact .bp i 0 g1 hg1
      | false =>
        have hxn : x ≠ n := fun e => by rw [e, Nat.beq_refl] at h1; cases h1
        show RS _ _ _ _ _ (look _ _)
        unfold look
        cases h2 : Nat.beq (n + 1) x with
        | true =>
          have := beq_nat_true h2
          subst this
          unfold slotV
          rw [if_neg (by omega)]
          simp only [show n + 1 ≠ n by omega, if_false, if_true]
          exact .bp j 0 g2 hg2
        | false =>
          have hxn2 : x ≠ n + 1 := fun e => by rw [e, Nat.beq_refl] at h2; cases h2
          show RS _ _ _ _ _ (look _ _)
          unfold look
          cases h3 : Nat.beq t x with
          | true => exact .imm _ _ (.u _)
          | false =>
            have hxt : x ≠ t := fun e => by rw [e, Nat.beq_refl] at h3; cases h3
            have he := hS'.env x
            dsimp only at he
            show RS _ _ _ _ _ (look env x)
            unfold slotV at he ⊢
            by_cases hx : x < n
            · rw [if_pos hx] at he ⊢
              have hsz : a'.tmps.size = n := hS'.tmps
              have key : ∀ (A : Array Value) (v : Value), (A.setIfInBounds t v).getD x undef = A.getD x undef := fun A v => by
                rw [Array.getD_eq_getD_getElem?, Array.getD_eq_getD_getElem?, Array.getElem?_setIfInBounds_ne (Ne.symm hxt)]
              have := key a'.tmps (.func (.func g) #[] #[.pointer (some ⟨g1, 0, none⟩), .pointer (some ⟨g2, 0, none⟩)])
              show RS _ _ _ _ ((a'.tmps.setIfInBounds t (.func (.func g) #[] #[.pointer (some ⟨g1, 0, none⟩), .pointer (some ⟨g2, 0, none⟩)])).getD x undef) _
              rw [this]
              exact he
            · rw [if_neg hx] at he ⊢
              simp only [hxn, hxn2, if_false]
              exact he
  | _ => exact hq.elim
end
end Go.Vx
/- The plain-data machine: sort.Slice over a row of the call's own. Nothing here speaks of one program. -/
namespace Go.Vx
open Go.RowKit Go.Proofs Go.Sort
theorem sorted_row {w : World} {base g m N cap k q : Nat} {e : TypeId} {vals : List Value} {α : Type} [Inhabited α] {enc : α → List Value} {d : Array α} {os : Array Obj} (hown : w.ownsRow base e k (.slice (some ⟨g, 0, none⟩) N cap) N vals) (hm : m ≤ N) (hd : d.size = m) :
    w.grownBy (grow (putRowK enc k (Sort.ahead w q) g 0 d) os) (some g) ∧ (grow (putRowK enc k (Sort.ahead w q) g 0 d) os).ownsRow base e k (.slice (some ⟨g, 0, none⟩) N cap) N ((flatK enc k d).toList ++ vals.drop (m * k)) := by
  obtain ⟨hl, hown⟩ := hown
  rcases hown with ⟨h, _⟩ | ⟨g', cap', cur, h, hb, hg, hn, hc, hs, ht⟩
  · cases h
  cases h
  have hgl : g < w.heap.size := (Array.getElem?_eq_some_iff.1 hg).1
  have hfl : (flatK enc k d).size = m * k := by rw [size_flatK, hd]
  have hmk : m * k ≤ N * k := Nat.mul_le_mul_right _ hm
  have hNk : N * k ≤ cap * k := Nat.mul_le_mul_right _ hn
  have hheap : (grow (putRowK enc k (Sort.ahead w q) g 0 d) os).heap[g]? = some (.cells (putCells id 0 (flatK enc k d) cur) e (0, 0)) := by
    show ((w.heap.modify g (onCells _)) ++ os)[g]? = _
    rw [Array.getElem?_append_left (by simpa using hgl), Array.getElem?_modify, if_pos rfl, hg]
    rfl
  refine ⟨⟨rfl, rfl, rfl, ?_, fun j hj hne => ?_⟩, ?_, .inr ⟨g, cap, _, rfl, hb, hheap, hn, hc, ?_, ?_⟩⟩
  · show w.heap.size ≤ ((w.heap.modify g (onCells _)) ++ os).size
    simp
  · show ((w.heap.modify g (onCells _)) ++ os)[j]? = _
    rw [Array.getElem?_append_left (by simpa using hj), Array.getElem?_modify, if_neg (fun e => hne (by rw [e]))]
  · rw [List.length_append, Array.length_toList, hfl, List.length_drop, hl]; omega
  · simp [putCells, hs]
  · apply List.ext_getElem?
    intro j
    rw [List.getElem?_take]
    by_cases hj : j < N * k
    · rw [if_pos hj]
      have hjc : j < cur.size := by rw [hs]; omega
      simp only [putCells, Array.getElem?_toList, Array.getElem?_mapIdx, Array.getElem?_eq_getElem hjc, Option.map_some, Nat.zero_le, true_and, Nat.zero_add, Nat.sub_zero, hfl]
      by_cases hjm : j < m * k
      · rw [if_pos hjm, List.getElem?_append_left (by rw [Array.length_toList, hfl]; exact hjm), Array.getElem?_toList]
        have hjf : j < (flatK enc k d).size := by rw [hfl]; exact hjm
        rw [Array.getElem?_eq_getElem hjf]
        exact congrArg some (getElem!_pos (flatK enc k d) j hjf)
      · rw [if_neg hjm, List.getElem?_append_right (by rw [Array.length_toList, hfl]; omega), Array.length_toList, hfl, List.getElem?_drop, show m * k + (j - m * k) = j by omega, ← ht, List.getElem?_take_of_lt hj, Array.getElem?_toList, Array.getElem?_eq_getElem hjc]
    · rw [if_neg hj, List.getElem?_eq_none]
      rw [List.length_append, Array.length_toList, hfl, List.length_drop, hl]; omega

/-- sort.Slice at a slice of structs, by a closure that holds the slice's variable and compares texts, cell fo of k. -/
structure SortC (P : Program) (f ty : Nat) (k fo g : Nat) : Prop where
  call : ∀ args w, (callFunc f args).run P w = .ok (.enter f args) w
  conc : P.concrete ty = true
  big : ∀ (α : Type) [Inhabited α] (enc : α → List Value) (key : α → List UInt8), (∀ x, (enc x).length = k) → (∀ x, ∀ v ∈ enc x, v.oneCell' = true) → (∀ x, (enc x)[fo]? = some (.string (bstr (key x)))) →
    ∀ (blk c Bs : Nat) (d : Array α), 2 ≤ d.size → d.size < 4611686018427387904 → ∀ w, HoldsK enc k w blk 0 d → blk < w.heap.size → w.cell? ⟨Bs, 0, none⟩ = some (.slice (some ⟨blk, 0, none⟩) d.size c) → Bs < w.heap.size → Bs ≠ blk →
    Calls P f #[.iface ty (.slice (some ⟨blk, 0, none⟩) d.size c), .func (.func g) #[] #[.pointer (some ⟨Bs, 0, none⟩)]] w fun e w' =>
      e = .returned (.tuple #[]) ∧ ∃ d' n os, PermIn 0 d.size d d' ∧ SortedIn (fun x y => Op.bytesLess (key x) (key y)) 0 d.size d' ∧ w' = grow (putRowK enc k (Sort.ahead w n) blk 0 d') os
  tiny : ∀ p n c lb w, n ≤ 1 → Calls P f #[.iface ty (.slice p n c), .func (.func g) #[] lb] w fun e w' => e = .returned (.tuple #[]) ∧ ∃ os, w' = grow w os

/-- Later ones are not less than earlier ones, by the text in cell fo. -/
def RowsUp (fo : Nat) (ys : List (List D)) : Prop := ys.Pairwise fun x y => ∀ a b, x[fo]? = some (.s a) → y[fo]? = some (.s b) → Op.bytesLess b a = false
def SRow (sz : TypeId → Nat) (V : Vw) (k fo : Nat) : Type :=
  { p : List Value × List D // p.1.length = k ∧ p.2.length = k ∧ (∀ v ∈ p.1, v.oneCell' = true) ∧ (∀ (j : Nat) v d, p.1[j]? = some v → p.2[j]? = some d → RI sz V v d) ∧ ∃ l, p.2[fo]? = some (.s l) }
def SRow.key {sz : TypeId → Nat} {V : Vw} {k fo : Nat} (x : SRow sz V k fo) : List UInt8 := match x.1.2[fo]? with | some (.s l) => l | _ => []
theorem put_same {a : Act} {t : Nat} {v : Value} (h : t < a.tmps.size) : (a.put (some t) v).eval (.tmp t) = v := by
  simp [Act.put, Act.eval, Array.getD, h]
theorem put_other {a : Act} {t t' : Nat} {v : Value} (h : t ≠ t') : (a.put (some t) v).eval (.tmp t') = a.eval (.tmp t') := by
  show (a.tmps.setIfInBounds t v).getD t' undef = a.tmps.getD t' undef
  rw [Array.getD_eq_getD_getElem?, Array.getD_eq_getD_getElem?, Array.getElem?_setIfInBounds_ne h]
theorem put_size {a : Act} {t : Nat} {v : Value} : (a.put (some t) v).tmps.size = a.tmps.size := by simp [Act.put]
section
variable {P : Program} {T : Tab} {Q : Exit → St → Prop}
theorem Ok.sortSlice (hT : TOk P T) {id : Nat} {t1 t2 t3 t4 p : Nat} {f ty g k fo i r m : Nat} {e : TypeId} {xs : List (List D)} {env : List (Nat × D)} {box : List (List D)} {row : Rows} {n : Nat}
    {y1 y2 y3 y4 : TypeId} {p1 p2 p3 p4 : String} {a1 a2 a3 a4 : Array Edge} {tys : Array TypeId} (hC : SortC P f ty k fo g)
    (hload : qop P T ⟨env, box, row, n⟩ ⟨some t1, .load ty (.tmp p), y1, p1, a1, none⟩ (fun d s' => d = .own r m ∧ s' = ⟨env, box, row, n⟩))
    (hp : look env p = .bp i 0) (hb : box[i]? = some [.own r m]) (hr : row[r]? = some (some (e, xs))) (hm : m ≤ xs.length) (hk : szOf T e = k)
    (hn : p < n ∧ t1 < n ∧ t2 < n ∧ t3 < n ∧ t4 < n) (hd : t1 ≠ p ∧ t2 ≠ p ∧ t2 ≠ t3 ∧ t3 ≠ t2)
    (hkeys : ∀ x ∈ xs.take m, ∃ l, x[fo]? = some (.s l)) (hm2 : m < 4611686018427387904)
    (h : ∀ ys, ys.Perm (xs.take m) → RowsUp fo ys → Q .normal ⟨(t4, .u) :: (t3, .u) :: (t2, .u) :: (t1, .u) :: env, box, row.set r (some (e, ys ++ xs.drop m)), n⟩) :
    Ok P T (.region id #[⟨some t1, .load ty (.tmp p), y1, p1, a1, none⟩, ⟨some t2, .makeInterface ty (.tmp t1), y2, p2, a2, none⟩, ⟨some t3, .makeFunc (.func g) #[] #[.tmp p], y3, p3, a3, none⟩,
      ⟨some t4, .call ⟨.value (.func f), #[.tmp t2, .tmp t3], tys⟩, y4, p4, a4, none⟩] false) Q ⟨env, box, row, n⟩ := by
  refine ⟨fun w0 V0 V μ ω a w hS => wp_region_lit ?_⟩
  obtain ⟨hpn, hn1, hn2, hn3, hn4⟩ := hn
  obtain ⟨hd1, hd2, hd3, hd4⟩ := hd
  unfold wpList
  rw [if_pos (by simp [Region.wanted])]
  left
  refine (Vok.of_qop (E := .none) hT hS hload) _ _ ?_
  clear hS
  rintro _ v1 _ V μ ω w ⟨rfl, rfl⟩ hv1 hS _
  have rp := hS.slot hpn
  rw [hp] at rp
  obtain ⟨g1, hg1, hpv⟩ := rp.bp_
  have hsz : a.tmps.size = n := hS.tmps
  obtain ⟨A, N, c, hω, hnN, rfl⟩ := hv1.own_
  show wpList P _ _ [_, _, _] (a.put (some t1) _) w
  unfold wpList
  rw [if_pos (by simp [Region.wanted])]
  left
  unfold Oper.wp
  have r2 : (execOp (a.put (some t1) (.slice A m c)).eval ⟨some t2, .makeInterface ty (.tmp t1), y2, p2, a2, none⟩).run P w = .ok (.value (.iface ty (.slice A m c))) w := by
    simp only [execOp, put_same (a := a) (t := t1) (v := .slice A m c) (by omega), Sem.run_bind, run_makeInterface w ty _ hC.conc, Result.andThen_ok, Sem.run_pure]
  rw [r2]
  show wpList P _ _ [_, _] ((a.put (some t1) _).put (some t2) _) w
  unfold wpList
  rw [if_pos (by simp [Region.wanted])]
  left
  unfold Oper.wp
  have hpe : ((a.put (some t1) (.slice A m c)).put (some t2) (.iface ty (.slice A m c))).eval (.tmp p) = .pointer (some ⟨g1, 0, none⟩) := by
    rw [put_other hd2, put_other hd1]; exact hpv
  have r3 : (execOp ((a.put (some t1) (.slice A m c)).put (some t2) (.iface ty (.slice A m c))).eval ⟨some t3, .makeFunc (.func g) #[] #[.tmp p], y3, p3, a3, none⟩).run P w = .ok (.value (.func (.func g) #[] #[.pointer (some ⟨g1, 0, none⟩)])) w := by
    simp only [execOp, Instr.makeFunc, Sem.run_bind, Sem.run_pure, Result.andThen_ok, List.map_toArray, List.map_cons, List.map_nil, hpe]
  rw [r3]
  show wpList P _ _ [_] (((a.put (some t1) _).put (some t2) _).put (some t3) _) w
  generalize hA3 : ((a.put (some t1) (.slice A m c)).put (some t2) (.iface ty (.slice A m c))).put (some t3) (.func (.func g) #[] #[.pointer (some ⟨g1, 0, none⟩)]) = a3'
  have hs3 : a3'.tmps.size = n := by rw [← hA3, put_size, put_size, put_size, hsz]
  have e2 : a3'.eval (.tmp t2) = .iface ty (.slice A m c) := by rw [← hA3, put_other hd4, put_same (by rw [put_size]; omega)]
  have e3 : a3'.eval (.tmp t3) = .func (.func g) #[] #[.pointer (some ⟨g1, 0, none⟩)] := by rw [← hA3, put_same (by rw [put_size, put_size]; omega)]
  have hS3 : Sim (szOf T) w0 V0 V μ ω ⟨(t3, .u) :: (t2, .u) :: (t1, .u) :: env, box, row, n⟩ a3' w := by
    rw [← hA3]
    exact ((hS.put hn1 (.imm _ _ (.u _))).put hn2 (.imm _ _ (.u _))).put hn3 (.imm _ _ (.u _))
  unfold wpList
  rw [if_pos (by simp [Region.wanted])]
  left
  unfold Oper.wp
  have r4 : (execOp a3'.eval ⟨some t4, .call ⟨.value (.func f), #[.tmp t2, .tmp t3], tys⟩, y4, p4, a4, none⟩).run P w = .ok (.enter f #[.iface ty (.slice A m c), .func (.func g) #[] #[.pointer (some ⟨g1, 0, none⟩)]]) w := by
    simp only [execOp, resolve, Act.eval, Deferred.ofValue, invoke, Sem.run_bind, Sem.run_pure, Result.andThen_ok, List.map_toArray, List.map_cons, List.map_nil] at e2 e3 ⊢
    rw [e2, e3, hC.call]
    rfl
  rw [r4]
  show Calls P f _ w _
  have fin : ∀ (w' : World) (ys : List (List D)), ys.Perm (xs.take m) → RowsUp fo ys → Mem (szOf T) w0 V0 V μ ω box (row.set r (some (e, ys ++ xs.drop m))) w' →
      ∃ s' V' μ' ω', Q .normal s' ∧ Sim (szOf T) w0 V0 V' μ' ω' s' (a3'.put (some t4) (.tuple #[])) w' := fun w' ys h1 h2 hM =>
    let hP := hS3.put (v := .tuple #[]) hn4 (.imm _ _ (.u _))
    ⟨_, V, μ, ω, h ys h1 h2, Sim.mk hP.tmps hP.defers hP.env hM⟩
  by_cases hm1 : m ≤ 1
  · refine (hC.tiny A m c _ w hm1).mono ?_
    rintro e' w' ⟨rfl, os, rfl⟩
    have hrl : r < row.length := (List.getElem?_eq_some_iff.1 hr).1
    refine fin _ (xs.take m) (.refl _) ?_ ?_
    · have hl : (xs.take m).length ≤ 1 := by rw [List.length_take]; omega
      unfold RowsUp
      match xs.take m, hl with
      | [], _ => simp
      | [_], _ => simp
    · rw [List.take_append_drop]
      have hrow : row.set r (some (e, xs)) = row := by
        apply List.ext_getElem?
        intro q
        by_cases hq : q = r
        · subst hq; rw [List.getElem?_set_self hrl, hr]
        · rw [List.getElem?_set_ne (Ne.symm hq)]
      rw [hrow]
      refine hS.mem.ext ?_
      exact ⟨rfl, rfl, rfl, by show w.heap.size ≤ (w.heap ++ os).size; simp, fun j hj => by show (w.heap ++ os)[j]? = _; rw [Array.getElem?_append_left hj]⟩
  · have hm2' : 2 ≤ m := by omega
    obtain ⟨A2, c2, vals, e1, hc, hmx, hA, hA2, hown, hR⟩ := hS.mem.rowShape hω hr
    cases e1
    subst hk
    obtain ⟨blk, hblk⟩ : ∃ blk, A = some ⟨blk, 0, none⟩ := by
      rcases hown.2 with ⟨q, q2⟩ | ⟨g', cap, cur, q, _⟩
      · omega
      · cases q; exact ⟨g', rfl⟩
    subst hblk
    have hvl : vals.length = xs.length * szOf T e := hown.1
    have hF : ∀ i : Fin m, ∃ x : SRow (szOf T) V (szOf T e) fo, xs[i.1]? = some x.1.2 ∧ ∀ j, j < szOf T e → x.1.1[j]? = vals[i.1 * szOf T e + j]? := by
      intro i
      have hi : i.1 < xs.length := by omega
      have hx := List.getElem?_eq_getElem hi
      have hle : (i.1 + 1) * szOf T e ≤ xs.length * szOf T e := Nat.mul_le_mul_right _ hi
      rw [Nat.add_mul, Nat.one_mul] at hle
      have hget : ∀ j, j < szOf T e → ((vals.drop (i.1 * szOf T e)).take (szOf T e))[j]? = vals[i.1 * szOf T e + j]? := fun j hj => by
        rw [List.getElem?_take_of_lt hj, List.getElem?_drop]
      have hlen := hR.len i.1 _ hx
      refine ⟨⟨((vals.drop (i.1 * szOf T e)).take (szOf T e), xs[i.1]), ?_, hlen, ?_, ?_, ?_⟩, hx, hget⟩
      · rw [List.length_take, List.length_drop]; omega
      · intro v hv
        exact hR.one v (List.mem_of_mem_drop (List.mem_of_mem_take hv))
      · intro j v d h1 h2
        have hj : j < szOf T e := by rw [← hlen]; exact (List.getElem?_eq_some_iff.1 h2).1
        dsimp only at h1
        rw [hget j hj] at h1
        obtain ⟨u, hu1, hu2⟩ := hR.rel i.1 _ j d hx h2
        rw [h1] at hu1
        cases hu1
        exact hu2
      · exact hkeys _ (by
          have : (xs.take m)[i.1]? = some xs[i.1] := by rw [List.getElem?_take_of_lt i.2]; exact hx
          exact List.mem_of_getElem? this)
    let F : Fin m → SRow (szOf T) V (szOf T e) fo := fun i => Classical.choose (hF i)
    have hF1 : ∀ i, xs[i.1]? = some (F i).1.2 := fun i => (Classical.choose_spec (hF i)).1
    have hF2 : ∀ i j, j < szOf T e → (F i).1.1[j]? = vals[i.1 * szOf T e + j]? := fun i => (Classical.choose_spec (hF i)).2
    letI : Inhabited (SRow (szOf T) V (szOf T e) fo) := ⟨F ⟨0, by omega⟩⟩
    let d := Array.ofFn F
    have hds : d.size = m := Array.size_ofFn
    have hdg : ∀ i (hi : i < m), d[i]! = F ⟨i, hi⟩ := fun i hi => by
      rw [getElem!_pos d i (by rw [hds]; exact hi)]
      simp [d]
    have hkey : ∀ x : SRow (szOf T) V (szOf T e) fo, x.1.1[fo]? = some (.string (bstr x.key)) := by
      intro x
      obtain ⟨l, hl⟩ := x.2.2.2.2.2
      have hfo : fo < szOf T e := by rw [← x.2.2.1]; exact (List.getElem?_eq_some_iff.1 hl).1
      have hfo1 : fo < x.1.1.length := by rw [x.2.1]; exact hfo
      have hv : x.1.1[fo]? = some x.1.1[fo] := List.getElem?_eq_getElem hfo1
      have hri := x.2.2.2.2.1 fo _ _ hv hl
      have hke : x.key = l := by unfold SRow.key; rw [hl]
      have hs := (RS.imm (μ := []) (ω := []) _ _ hri).str_
      rw [hke, hv, hs]
    have hpos : 0 < szOf T e := by
      obtain ⟨l, hl⟩ := (F ⟨0, by omega⟩).2.2.2.2.2
      have := (List.getElem?_eq_some_iff.1 hl).1
      rw [(F ⟨0, by omega⟩).2.2.1] at this
      omega
    have hheap : ∃ cur, w.heap[blk]? = some (.cells cur e (0, 0)) := by
      rcases hown.2 with ⟨q, _⟩ | ⟨g', cap, cur, q, _, hh, _⟩
      · cases q
      · cases q; exact ⟨cur, hh⟩
    obtain ⟨cur, hheap⟩ := hheap
    have hHold : HoldsK (fun x : SRow (szOf T) V (szOf T e) fo => x.1.1) (szOf T e) w blk 0 d := by
      intro j hj
      rw [size_flatK, hds] at hj
      have hjk : j / szOf T e < m := Nat.div_lt_of_lt_mul (by rw [Nat.mul_comm]; exact hj)
      have hjm := Nat.mod_lt j hpos
      refine ⟨?_, by simp [World.frozen?, hheap]⟩
      rw [get_flatK _ _ _ _ (by rw [hds]; exact hj), hdg _ hjk]
      have h3 := hF2 ⟨j / szOf T e, hjk⟩ (j % szOf T e) hjm
      have h4 : (F ⟨j / szOf T e, hjk⟩).1.1[j % szOf T e]? = some (F ⟨j / szOf T e, hjk⟩).1.1[j % szOf T e]! := by
        rw [getElem!_pos _ _ (by rw [(F ⟨j / szOf T e, hjk⟩).2.1]; exact hjm)]
        exact List.getElem?_eq_getElem _
      rw [h4, Nat.mul_comm, Nat.div_add_mod] at h3
      have := hown.cells (g := blk) rfl j _ h3.symm
      rw [add_lit] at this
      exact this
    obtain ⟨vs, tb, hh, hs, ho, hRb, _⟩ := hS.mem.hbox i g1 _ hg1 hb
    have hvs0 : 0 < vs.size := by rw [hs]; simp
    have hvs : ∃ v, vs[0]? = some v := ⟨vs[0], Array.getElem?_eq_getElem hvs0⟩
    obtain ⟨v0, hv0⟩ := hvs
    obtain ⟨Ab, Nb, cb, hωb, _, hvb⟩ := (hRb 0 v0 _ hv0 rfl).own_
    rw [hω] at hωb
    cases hωb
    have hBs : w.cell? ⟨g1, 0, none⟩ = some (.slice (some ⟨blk, 0, none⟩) m c) := by
      rw [cell_of_row w g1 0 vs tb (0, 0) hh, hv0, hvb]
    have hgl : g1 < w.heap.size := (Array.getElem?_eq_some_iff.1 hh).1
    have hne : g1 ≠ blk := fun e' => by
      have := hS.mem.uniq (.inl i) (.inr r) g1 hg1 ⟨_, _, hω, hr, by rw [e']; rfl⟩
      cases this
    have hcall := hC.big (SRow (szOf T) V (szOf T e) fo) (fun x => x.1.1) SRow.key (fun x => x.2.1) (fun x => x.2.2.2.1) hkey blk c g1 d (by rw [hds]; exact hm2') (by rw [hds]; exact hm2) w hHold (Array.getElem?_eq_some_iff.1 hheap).1 (by rw [hds]; exact hBs) hgl hne
    rw [hds] at hcall
    refine hcall.mono ?_
    rintro e' w' ⟨rfl, d', q, os, hperm, hsort, rfl⟩
    have hds' : d'.size = m := by rw [hperm.1, hds]
    obtain ⟨hgrow, hown'⟩ := sorted_row (q := q) (enc := fun x : SRow (szOf T) V (szOf T e) fo => x.1.1) (d := d') (os := os) hown hm hds'
    have hdmap : d.toList.map (fun x => x.1.2) = xs.take m := by
      apply List.ext_getElem?
      intro j
      rw [List.getElem?_map, Array.getElem?_toList]
      by_cases hj : j < m
      · rw [Array.getElem?_eq_getElem (by rw [hds]; exact hj), List.getElem?_take_of_lt hj, hF1 ⟨j, hj⟩]
        simp [d]
      · rw [Array.getElem?_eq_none (by rw [hds]; omega), List.getElem?_take, if_neg hj]
        rfl
    have hpl : d'.toList.Perm d.toList := by
      have := hperm.2.2
      rwa [show d'.extract 0 m = d' from by rw [← hds']; simp, show d.extract 0 m = d from by rw [← hds]; simp] at this
    have hdg' : ∀ (j : Nat) (x : SRow (szOf T) V (szOf T e) fo), d'.toList[j]? = some x → d'[j]! = x := fun j x hx => by
      rw [Array.getElem?_toList] at hx
      obtain ⟨hj, rfl⟩ := Array.getElem?_eq_some_iff.1 hx
      exact getElem!_pos d' j hj
    refine fin _ (d'.toList.map fun x => x.1.2) (by rw [← hdmap]; exact hpl.map _) ?_ ?_
    · unfold RowsUp
      rw [List.pairwise_map, List.pairwise_iff_getElem]
      intro i1 j1 hi1 hj1 hij a b ha hb'
      have s1 := hsort i1 j1 (Nat.zero_le _) hij (by simpa [hds'] using hj1)
      rw [hdg' i1 _ (List.getElem?_eq_getElem hi1), hdg' j1 _ (List.getElem?_eq_getElem hj1)] at s1
      have k1 : SRow.key d'.toList[i1] = a := by unfold SRow.key; rw [ha]
      have k2 : SRow.key d'.toList[j1] = b := by unfold SRow.key; rw [hb']
      dsimp only at s1
      rw [k1, k2] at s1
      exact s1
    · have hlen' : ((d'.toList.map fun x => x.1.2) ++ xs.drop m).length = xs.length := by
        rw [List.length_append, List.length_map, Array.length_toList, hds', List.length_drop]; omega
      have hωs : ω.set r (.slice (some ⟨blk, 0, none⟩) xs.length c) = ω := by
        apply List.ext_getElem?
        intro q
        by_cases hq : q = r
        · subst hq; rw [List.getElem?_set_self (List.getElem?_eq_some_iff.1 hω).1, hω]
        · rw [List.getElem?_set_ne (Ne.symm hq)]
      have hfl : (flatK (fun x : SRow (szOf T) V (szOf T e) fo => x.1.1) (szOf T e) d').toList.length = m * szOf T e := by rw [Array.length_toList, size_flatK, hds']
      have hflg : ∀ j, j < m * szOf T e → (flatK (fun x : SRow (szOf T) V (szOf T e) fo => x.1.1) (szOf T e) d').toList[j]? = some (d'[j / szOf T e]!.1.1[j % szOf T e]!) := fun j hj => by
        rw [Array.getElem?_toList, Array.getElem?_eq_getElem (by rw [size_flatK, hds']; exact hj)]
        have := get_flatK (fun x : SRow (szOf T) V (szOf T e) fo => x.1.1) (szOf T e) d' j (by rw [hds']; exact hj)
        rw [getElem!_pos _ _ (by rw [size_flatK, hds']; exact hj)] at this
        rw [this]
      have hM := hS.mem.setRow_ (w' := grow (putRowK (fun x : SRow (szOf T) V (szOf T e) fo => x.1.1) (szOf T e) (Sort.ahead w q) blk 0 d') os) (v' := .slice (some ⟨blk, 0, none⟩) xs.length c) (e := e) (ys := (d'.toList.map fun x => x.1.2) ++ xs.drop m)
        (vals := (flatK (fun x : SRow (szOf T) V (szOf T e) fo => x.1.1) (szOf T e) d').toList ++ vals.drop (m * szOf T e)) hω hr hgrow (by rw [hlen']; exact hown') ?_ (.inl rfl) (box' := box) rfl ?_ (fun i cs cs' h1 h2 t h => by rw [h1] at h2; cases h2; exact h)
      · rw [hωs] at hM
        exact hM
      · refine ⟨fun u hu => ?_, fun i1 rw1 h1 => ?_, fun i1 rw1 j1 d1 h1 h2 => ?_⟩
        · rcases List.mem_append.1 hu with hu | hu
          · obtain ⟨j, hj⟩ := List.mem_iff_getElem?.1 hu
            have hjl : j < m * szOf T e := by rw [← hfl]; exact (List.getElem?_eq_some_iff.1 hj).1
            rw [hflg j hjl] at hj
            cases hj
            generalize d'[j / szOf T e]! = x
            refine x.2.2.2.1 _ ?_
            have hx : j % szOf T e < x.1.1.length := by rw [x.2.1]; exact Nat.mod_lt j hpos
            rw [getElem!_pos x.1.1 _ hx]
            exact List.getElem_mem hx
          · exact hR.one u (List.mem_of_mem_drop hu)
        · by_cases hi1 : i1 < m
          · rw [List.getElem?_append_left (by rw [List.length_map, Array.length_toList, hds']; exact hi1), List.getElem?_map] at h1
            obtain ⟨x, _, rfl⟩ := Option.map_eq_some_iff.1 h1
            exact x.2.2.1
          · rw [List.getElem?_append_right (by rw [List.length_map, Array.length_toList, hds']; omega), List.getElem?_drop] at h1
            exact hR.len _ rw1 h1
        · by_cases hi1 : i1 < m
          · rw [List.getElem?_append_left (by rw [List.length_map, Array.length_toList, hds']; exact hi1), List.getElem?_map] at h1
            obtain ⟨x, hx, rfl⟩ := Option.map_eq_some_iff.1 h1
            have hj1 : j1 < szOf T e := by rw [← x.2.2.1]; exact (List.getElem?_eq_some_iff.1 h2).1
            have hlt : i1 * szOf T e + j1 < m * szOf T e := by
              have : (i1 + 1) * szOf T e ≤ m * szOf T e := Nat.mul_le_mul_right _ hi1
              rw [Nat.add_mul] at this; omega
            have hdv : (i1 * szOf T e + j1) / szOf T e = i1 := by rw [Nat.mul_comm, Nat.mul_add_div hpos, Nat.div_eq_of_lt hj1, Nat.add_zero]
            have hmd : (i1 * szOf T e + j1) % szOf T e = j1 := by rw [Nat.mul_comm, Nat.mul_add_mod, Nat.mod_eq_of_lt hj1]
            have hdx := hdg' i1 x hx
            have hx1 : x.1.1[j1]? = some x.1.1[j1]! := by
              rw [getElem!_pos _ _ (by rw [x.2.1]; exact hj1)]
              exact List.getElem?_eq_getElem _
            refine ⟨x.1.1[j1]!, ?_, x.2.2.2.2.1 j1 _ d1 hx1 h2⟩
            rw [List.getElem?_append_left (by rw [hfl]; exact hlt), hflg _ hlt, hdv, hmd, hdx]
          · rw [List.getElem?_append_right (by rw [List.length_map, Array.length_toList, hds']; omega), List.getElem?_drop, List.length_map, Array.length_toList, hds', show m + (i1 - m) = i1 by omega] at h1
            obtain ⟨u, hu1, hu2⟩ := hR.rel i1 rw1 j1 d1 h1 h2
            have hge : m * szOf T e ≤ i1 * szOf T e := Nat.mul_le_mul_right _ (by omega)
            exact ⟨u, by rw [List.getElem?_append_right (by rw [hfl]; omega), hfl, List.getElem?_drop, show m * szOf T e + (i1 * szOf T e + j1 - m * szOf T e) = i1 * szOf T e + j1 by omega]; exact hu1, hu2⟩
      · intro i1 cs cs' h1 h2
        rw [h1] at h2
        cases h2
        refine ⟨rfl, fun j u dd dd' h3 h4 hrs => ?_⟩
        rw [h3] at h4
        cases h4
        rw [hωs]
        exact hrs
end
end Go.Vx
/- The plain-data machine, part 20: strings.Builder. Nothing here speaks of one program. -/
namespace Go.Vx
open Go.RowKit Go.Shelf Go.Proofs

/-! ### The library's two inner steps, exactly -/
structure CopyC (P : Program) (f t : Nat) : Prop where
  call : ∀ args w, (callFunc f args).run P w = .ok (.enter f args) w
  fresh : ∀ (b : Nat) (w : World), w.cell? ⟨b, 0, none⟩ = some (.pointer none) → w.shape? b = some (t, 2) → w.frozen? ⟨b, 0, none⟩ = false →
    Calls P f #[.pointer (some ⟨b, 0, none⟩)] w fun e w' => e = .returned (.tuple #[]) ∧ w' = w.setCell ⟨b, 0, none⟩ (.pointer (some ⟨b, 0, none⟩))
  used : ∀ (b : Nat) (w : World), w.cell? ⟨b, 0, none⟩ = some (.pointer (some ⟨b, 0, none⟩)) → Calls P f #[.pointer (some ⟨b, 0, none⟩)] w fun e w' => e = .returned (.tuple #[]) ∧ w' = w
structure StrC (P : Program) (f e : Nat) : Prop where
  call : ∀ args w, (callFunc f args).run P w = .ok (.enter f args) w
  run : ∀ (b g : Nat) (w : World) (l : List UInt8) (cap : Nat) (cur : Array Value), w.cell? ⟨b, 1, none⟩ = some (.slice (some ⟨g, 0, none⟩) l.length cap) → w.heap[g]? = some (.cells cur e (0, 0)) → l.length ≤ cap → cap ≤ maxLen →
    cur.size = cap → cur.toList.take l.length = Lib.byteCells l → l ≠ [] → Calls P f #[.pointer (some ⟨b, 0, none⟩)] w fun e w' => e = .returned (.string (bstr l)) ∧ w' = w.drew.freeze ⟨g, 0, none⟩ l.length
theorem copyC {P : Program} {ρ : Ren} (L : Lays.n240 P ρ) (X : Builder.X72 P ρ) (hc : ∀ args w, (callFunc (ρ.f 240) args).run P w = .ok (.enter (ρ.f 240) args) w) : CopyC P (ρ.f 240) (ρ.t 72) :=
  ⟨hc, fun b w h0 hs hf => Any.Builder_copyCheck_fresh L X b w h0 hs hf, fun b w h0 => Any.Builder_copyCheck_used L X b w h0⟩
set_option maxHeartbeats 4000000 in
set_option maxRecDepth 100000 in
theorem strC {P : Program} {ρ : Ren} (L : Lays.n169 P ρ) (X : Builder.Extra P ρ) (hc : ∀ args w, (callFunc (ρ.f 169) args).run P w = .ok (.enter (ρ.f 169) args) w) : StrC P (ρ.f 169) (ρ.t 5) := by
  refine ⟨hc, fun b g w l cap cur hb hg hlc hcm hcs htk h0 => ?_⟩
  have hl0 : l.length ≠ 0 := by simpa using h0
  have c1 : w.drew.cell? ⟨b, 1, none⟩ = some (.slice (some ⟨g, 0, none⟩) l.length cap) := hb
  have hSD : (Builtin.unsafeSliceData_ #[(ρ.t 37)] (ρ.t 127) #[.slice (some ⟨g, 0, none⟩) l.length cap]).run P w.drew = .ok (.pointer (some ⟨g, 0, none⟩)) w.drew := Lib.run_unsafeSliceData_row _ _ _ _ _ _ (by omega)
  have hg' : w.drew.heap[g]? = some (.cells cur (ρ.t 5) (0, 0)) := hg
  have hUS : (Builtin.unsafeString_ #[(ρ.t 127), (ρ.t 3)] (ρ.t 9) #[.pointer (some ⟨g, 0, none⟩), .int .i64 l.length]).run P w.drew = .ok (.string ⟨l.toArray⟩) (w.drew.freeze ⟨g, 0, none⟩ l.length) := by
    refine Lib.run_unsafeString_row w.drew (ρ.t 127) (ρ.t 3) (ρ.t 9) (ρ.t 5) L.t127 X.cellsByte g cur.size (by simp [World.shape?, hg']) l h0 (by omega) (by unfold maxLen at hcm; omega) ?_
    intro j x hx
    have h1 : (cur.toList.take l.length)[j]? = some (.int .u8 x.toNat) := by
      rw [htk]
      simp [Lib.byteCells, hx]
    rw [List.getElem?_take] at h1
    split at h1
    · rw [add_lit, Nat.zero_add, cell_of_row w.drew g j cur (ρ.t 5) (0, 0) hg']
      simpa using h1
    · cases h1
  have mixed := L.mixed
  have t72 := L.t72; have a72 := L.a72; have z72 := L.z72; have v72 := L.v72; have u72 := run_underlying L.t72
  have t70 := L.t70; have a70 := L.a70; have z70 := L.z70; have v70 := L.v70; have u70 := run_underlying L.t70
  have t37 := L.t37; have a37 := L.a37; have z37 := L.z37; have v37 := L.v37; have u37 := run_underlying L.t37
  have t127 := L.t127; have a127 := L.a127; have z127 := L.z127; have v127 := L.v127; have u127 := run_underlying L.t127
  have t3 := L.t3; have a3 := L.a3; have z3 := L.z3; have v3 := L.v3; have u3 := run_underlying L.t3
  have t9 := L.t9; have a9 := L.a9; have z9 := L.z9; have v9 := L.v9; have u9 := run_underlying L.t9
  have t5 := X.t5; have a5 := X.a5; have z5 := X.z5; have v5 := X.v5; have u5 := run_underlying X.t5
  go_enter L.f169, Body.n169_ntmps ρ
  go_wp2
  go_region_o
  all_goals
    go_wp2
    go_ret
    exact ⟨rfl, rfl⟩

/-! ### What they do to a state -/
section
variable {w0 w w' : World} {V0 : Fr} {V : Vw} {μ : List Nat} {ω : List Value} {box : List (List D)} {row : Rows} {s : St} {a : Act} {P : Program} {T : Tab} {sz : TypeId → Nat}
theorem fz_heap (w : World) (g n : Nat) (hn : n ≠ 0) : (w.freeze ⟨g, 0, none⟩ n).heap = w.heap.modify g fun o => match o with
    | .cells c elem (lo, hi) => .cells c elem (if lo == hi then (0, 0 + n) else (min lo 0, max hi (0 + n)))
    | o => o := by
  unfold World.freeze
  rw [if_neg hn]
  congr 1
theorem freeze_other (w : World) (g k n : Nat) (h : k ≠ g) : (w.drew.freeze ⟨g, 0, none⟩ n).heap[k]? = w.heap[k]? := by
  by_cases hn : n = 0
  · subst hn; rfl
  · rw [fz_heap _ _ _ hn, Array.getElem?_modify, if_neg (Ne.symm h)]
    rfl
theorem freeze_size (w : World) (g n : Nat) : (w.drew.freeze ⟨g, 0, none⟩ n).heap.size = w.heap.size := by
  by_cases hn : n = 0
  · subst hn; rfl
  · rw [fz_heap _ _ _ hn, Array.size_modify]
    rfl
theorem freeze_cell (w : World) (g n : Nat) (p : Addr) : (w.drew.freeze ⟨g, 0, none⟩ n).cell? p = w.cell? p := by
  unfold World.cell?
  by_cases hp : p.block = g
  · by_cases hn : n = 0
    · subst hn; rfl
    · rw [fz_heap _ _ _ hn, Array.getElem?_modify, if_pos hp.symm]
      have hd : w.drew.heap[p.block]? = w.heap[p.block]? := rfl
      rw [hd]
      cases h : w.heap[p.block]? with
      | none => rfl
      | some o => cases o <;> rfl
  · rw [freeze_other _ _ _ _ hp]
theorem Mem.freeze (h : Mem sz w0 V0 V μ ω box row w) {g n : Nat} (hg0 : w0.heap.size ≤ g) (hno : ∀ l, ¬ Own μ ω row l g) : Mem sz w0 V0 V μ ω box row (w.drew.freeze ⟨g, 0, none⟩ n) := by
  refine ⟨Lib.below_freeze (h.below.trans (Below.drew (Below.refl _ w))) (p := ⟨g, 0, none⟩) hg0 n, fun p v hp => by rw [freeze_cell]; exact h.vok p v hp, h.vle, h.vold, h.bl, fun i g' cs h1 h2 => ?_, h.rl, fun r v e xs h1 h2 => ?_, h.uniq, fun l g' hl => by rw [freeze_size]; exact h.new l g' hl, h.vmut⟩
  · obtain ⟨vs, t, a, b⟩ := h.hbox i g' cs h1 h2
    have hne : g' ≠ g := fun e => hno (.inl i) (by rw [← e]; exact h1)
    exact ⟨vs, t, by rw [freeze_other _ _ _ _ hne]; exact a, b⟩
  · obtain ⟨vals, hown, b⟩ := h.hrow r v e xs h1 h2
    refine ⟨vals, ⟨hown.1, ?_⟩, b⟩
    rcases hown.2 with hn | ⟨g', cap, cur, hv, hb, hg, rest⟩
    · exact .inl hn
    · have hne : g' ≠ g := fun e => hno (.inr r) ⟨v, _, h1, h2, by rw [hv, ← e]; rfl⟩
      exact .inr ⟨g', cap, cur, hv, hb, by rw [freeze_other _ _ _ _ hne]; exact hg, rest⟩
theorem setCell_row {w : World} {g : Nat} {vs : Array Value} {t : TypeId} {fr : Nat × Nat} (hg : w.heap[g]? = some (.cells vs t fr)) (v : Value) : w.setCell ⟨g, 0, none⟩ v = w.setRow g (vs.setIfInBounds 0 v) := by
  unfold World.setCell World.setRow
  congr 1
  apply Array.ext_getElem?
  intro k
  simp only [Array.getElem?_modify]
  by_cases hk : g = k
  · subst hk
    simp [hg]
  · simp [hk]

theorem setK_mk {α : Type} {x : α} : ∀ {l : List α} {i : Nat} {K : List α → Prop}, i < l.length → K (l.set i x) → setK l i x K
  | [], _, _, h, _ => absurd h (by simp)
  | _ :: _, 0, _, _, h => h
  | _ :: l, i + 1, K, hi, h => setK_mk (l := l) (K := fun r => K (_ :: r)) (by simpa using hi) h
/-- copyCheck at a builder that nobody wrote into. -/
theorem effW_fresh {f t i n : Nat} (C : CopyC P f t) {env : List (Nat × D)} {x : D} {K : D → St → Prop} (hb : box[i]? = some [.nilB t, x])
    (h : setK box i [.bp i 0, x] fun box => K (.tup []) ⟨env, box, row, n⟩) : effW P T ⟨env, box, row, n⟩ f [.bp i 0] K := by
  refine ⟨C.call, fun w0 V0 V μ ω a w vs hS hl hR => ?_⟩
  obtain ⟨v, rfl⟩ : ∃ v, vs = [v] := by
    match vs, hl with
    | [v], _ => exact ⟨v, rfl⟩
  obtain ⟨g, hg, rfl⟩ := (hR 0 v _ rfl rfl).bp_
  obtain ⟨us, t', hh, hs, ho, hrel, hty⟩ := hS.mem.hbox i g _ hg hb
  have ht : t = t' := hty
  subst ht
  have hs2 : us.size = 2 := hs
  have hu0 : us[0]? = some us[0] := Array.getElem?_eq_getElem (by omega)
  have hv0 : us[0] = .pointer none := by
    have key : ∀ u, RS (szOf T) V μ ω u (.nilB t) → u = .pointer none := fun u hu => by cases hu with | imm _ _ hr => cases hr; rfl
    exact key _ (hrel 0 _ (.nilB t) hu0 rfl)
  obtain ⟨hil, h⟩ := setK_iff _ _ _ _ h
  have hcall := C.fresh g w (by rw [cell_of_row w g 0 us t (0, 0) hh, hu0, hv0]) (by simp [World.shape?, hh, hs2]) (by simp [World.frozen?, hh])
  refine hcall.mono ?_
  rintro e w' ⟨rfl, rfl⟩
  have hM := hS.mem.setBox (cs := [.bp i 0, x]) (vs := us.setIfInBounds 0 (.pointer (some ⟨g, 0, none⟩))) hg hil ⟨by simp [hs2], fun u hu => ?_, fun j u d h1 h2 => ?_⟩ fun t => trivial
  · refine ⟨_, _, _, V, μ, ω, rfl, h, .tup [] #[] rfl (by simp), ⟨hS.tmps, hS.defers, hS.env, ?_⟩⟩
    rw [setCell_row hh]
    exact hM
  · rw [Array.toList_setIfInBounds] at hu
    rcases List.mem_or_eq_of_mem_set hu with hu | rfl
    · exact ho u hu
    · rfl
  · cases j with
    | zero =>
      rw [Array.getElem?_setIfInBounds_self_of_lt (by omega)] at h1
      cases h1
      cases h2
      exact .bp i 0 g hg
    | succ j =>
      rw [Array.getElem?_setIfInBounds_ne (by omega)] at h1
      exact hrel (j + 1) u d h1 h2
/-- .. that has been written into. -/
theorem effW_used {f t i n : Nat} (C : CopyC P f t) {env : List (Nat × D)} {x : D} {K : D → St → Prop} (hb : box[i]? = some [.bp i 0, x])
    (h : K (.tup []) ⟨env, box, row, n⟩) : effW P T ⟨env, box, row, n⟩ f [.bp i 0] K := by
  refine ⟨C.call, fun w0 V0 V μ ω a w vs hS hl hR => ?_⟩
  obtain ⟨v, rfl⟩ : ∃ v, vs = [v] := by
    match vs, hl with
    | [v], _ => exact ⟨v, rfl⟩
  obtain ⟨g, hg, rfl⟩ := (hR 0 v _ rfl rfl).bp_
  obtain ⟨us, t', hh, hs, ho, hrel, hty⟩ := hS.mem.hbox i g _ hg hb
  have hs2 : us.size = 2 := hs
  have hu0 : us[0]? = some us[0] := Array.getElem?_eq_getElem (by omega)
  have hv0 : us[0] = .pointer (some ⟨g, 0, none⟩) := by
    obtain ⟨g2, hg2, e⟩ := (hrel 0 _ (.bp i 0) hu0 rfl).bp_
    rw [e]
    have hg3 := hS.mem
    rw [hg] at hg2
    cases hg2
    rfl
  refine (C.used g w (by rw [cell_of_row w g 0 us t' (0, 0) hh, hu0, hv0])).mono ?_
  rintro e w' ⟨rfl, rfl⟩
  exact ⟨_, _, _, V, μ, ω, rfl, h, .tup [] #[] rfl (by simp), hS⟩
/-- String: the builder's bytes are given up. -/
theorem effK_string {f e i r m n : Nat} (C : StrC P f e) (h1 : szOf T e = 1) {env : List (Nat × D)} {x : D} {xs : List (List D)} {l : List UInt8} {K : D → St → Prop} (hb : box[i]? = some [x, .own r m]) (hr : row[r]? = some (some (e, xs)))
    (hm : m ≤ xs.length) (hl : xs.take m = l.map bcell) (h0 : l ≠ []) (h : pubK r ⟨env, box, row, n⟩ [] fun _ s' => K (.s l) s') : effK P T ⟨env, box, row, n⟩ f [.bp i 0] K := by
  refine ⟨C.call, fun w0 V0 V μ ω a w vs hS hvl hR => ?_⟩
  obtain ⟨v, rfl⟩ : ∃ v, vs = [v] := by
    match vs, hvl with
    | [v], _ => exact ⟨v, rfl⟩
  obtain ⟨gb, hgb, rfl⟩ := (hR 0 v _ rfl rfl).bp_
  obtain ⟨us, t', hh, hs, ho, hrel, hty⟩ := hS.mem.hbox i gb _ hgb hb
  have hs2 : us.size = 2 := hs
  have hu1 : us[1]? = some us[1] := Array.getElem?_eq_getElem (by omega)
  have hown1 := hrel 1 _ (.own r m) hu1 rfl
  obtain ⟨A, N, c, hω, hn, hv1⟩ := hown1.own_
  obtain ⟨A2, c2, vals, e1, hc, hmx, hA, hA2, hown, hRR⟩ := hS.mem.rowShape hω hr
  cases e1
  have hml : m = l.length := by have := congrArg List.length hl; rw [List.length_take, List.length_map] at this; omega
  have hlp : l.length ≠ 0 := by simpa using h0
  rcases hown.2 with ⟨hv, hz⟩ | ⟨g, cap, cur, hv, hbase, hg, h5, h6, h7, h8⟩
  · omega
  injection hv with hv2 hv3 hv4
  subst hv2 hv4
  rw [h1, Nat.mul_one] at h7 h8
  have hval : cur.toList.take l.length = Lib.byteCells l := by
    apply List.ext_getElem?
    intro j
    rw [List.getElem?_take]
    split
    · rename_i hj
      have hlj : l[j]? = some l[j] := List.getElem?_eq_getElem hj
      have hx : xs[j]? = some (bcell l[j]) := by
        have := congrArg (fun q => q[j]?) hl
        simp only [List.getElem?_map, hlj, Option.map_some] at this
        rw [List.getElem?_take] at this
        split at this
        · exact this
        · cases this
      obtain ⟨u, hu, hu2⟩ := hRR.rel j (bcell l[j]) 0 _ hx rfl
      rw [h1, Nat.mul_one, Nat.add_zero, ← h8, List.getElem?_take] at hu
      split at hu
      · rw [hu]
        cases hu2
        simp [Lib.byteCells, hlj]
      · cases hu
    · rw [List.getElem?_eq_none]
      simp [Lib.byteCells]
      omega
  obtain ⟨V', _, s', hk, _, hS', hle⟩ := pubK_sound (vs := []) (ds := []) (K := fun _ s' => K (.s l) s' ∧ s'.row = row.set r none) hS ⟨rfl, fun j v d h => by simp at h⟩ (by
    simp only [pubK] at h ⊢
    rw [hr] at h ⊢
    simp only [subE_eq, subB_eq] at h ⊢
    obtain ⟨hrl, h⟩ := setK_iff _ _ _ _ h
    exact setK_mk hrl ⟨h, rfl⟩)
  refine (C.run gb g w l c cur (by rw [cell_of_row w gb 1 us t' (0, 0) hh, hu1, hv1, hml]) hg (by omega) h6 h7 hval h0).mono ?_
  rintro e' w' ⟨rfl, rfl⟩
  have hno : ∀ q, ¬ Own μ ω s'.row q g := by
    intro q hq
    rw [hk.2] at hq
    cases q with
    | inl j =>
      have := hS.mem.uniq (.inl j) (.inr r) g hq ⟨_, _, hω, hr, rfl⟩
      cases this
    | inr q =>
      obtain ⟨v, y, k1, k2, k3⟩ := hq
      by_cases hqr : q = r
      · subst hqr
        rw [List.getElem?_set_self (List.getElem?_eq_some_iff.1 hr).1] at k2
        cases k2
      · rw [List.getElem?_set_ne (Ne.symm hqr)] at k2
        have := hS.mem.uniq (.inr q) (.inr r) g ⟨v, y, k1, k2, k3⟩ ⟨_, _, hω, hr, rfl⟩
        cases this
        exact hqr rfl
  exact ⟨_, _, s', V', μ, ω, rfl, hk.1, .imm _ _ (.s l), ⟨hS'.tmps, hS'.defers, hS'.env, hS'.mem.freeze hbase hno⟩, hle, .refl μ, .refl ω, fun p v hp => by rw [freeze_cell]; exact hp⟩
theorem effW_of_effK {f : Nat} {ds : List D} {K : D → St → Prop} (h : effK P T s f ds K) : effW P T s f ds K :=
  ⟨h.call, fun w0 V0 V μ ω a w vs hS hl hR => (h.run w0 V0 V μ ω a w vs hS hl hR).mono fun e w' ⟨v, d, s', V', μ', ω', h1, h2, h3, h4, _⟩ => ⟨v, d, s', V', μ', ω', h1, h2, h3, h4⟩⟩
end
end Go.Vx
/- The plain-data machine, part 21: regions that draw their order and end in a call that panics; a region that panics itself. Nothing here speaks of one program. -/
namespace Go.Vx
open Go.RowKit
def planF (ops : Array Oper) (i : Nat) : List Mv → Array Bool → Bool
  | [], listed => (Region.ready .any ops listed) == [i]
  | .q i' :: r, listed => (Region.ready .any ops listed).contains i' && Region.free .any ops listed i' && ((ops[i']?).map isQ).getD false && planF ops i r (listed.setIfInBounds i' true)
  | .l i' :: r, listed => (Region.ready .any ops listed) == [i'] && planF ops i r (listed.setIfInBounds i' true)
def planPOk (ops : Array Oper) (A : Waits) (mvs : List Mv) (i : Nat) : Bool :=
  Region.noSelect ops && waitsB ops A && Nat.blt mvs.length ops.size && planF ops i mvs (Array.replicate ops.size false)
/-- Slots of frames behind alone. -/
def hidE (n : Nat) : List (Nat × D) → (List (Nat × D) → Prop) → Prop
  | [], K => K []
  | (t, d) :: r, K => match Nat.ble n t with | true => hidE n r fun r => K ((t, d) :: r) | false => hidE n r K
def hidL (n : Nat) (l : List (Nat × D)) : List (Nat × D) := l.filter fun x => Nat.ble n x.1
theorem hidE_eq (n : Nat) : ∀ (l : List (Nat × D)) (K : List (Nat × D) → Prop), hidE n l K = K (hidL n l)
  | [], K => rfl
  | (t, d) :: r, K => by
    simp only [hidE, hidL]
    cases h : Nat.ble n t with
    | true => simp [hidE_eq n r, hidL, h]
    | false => simp [hidE_eq n r, hidL, h]
theorem hidL_look (n : Nat) (l : List (Nat × D)) (t : Nat) : look (hidL n l) t = if n ≤ t then look l t else .u := by
  induction l with
  | nil => simp [hidL, look]
  | cons x l ih =>
    obtain ⟨q, d⟩ := x
    unfold hidL
    cases h : Nat.ble n q with
    | true =>
      have hnq : n ≤ q := by rw [← Nat.ble_eq]; exact h
      rw [List.filter_cons_of_pos (by simp only [h])]
      show look ((q, d) :: hidL n l) t = _
      unfold look
      cases hq : Nat.beq q t with
      | true =>
        have := beq_nat_true hq
        subst this
        simp [hnq]
      | false => exact ih
    | false =>
      have hnq : ¬ n ≤ q := fun e => by rw [← Nat.ble_eq] at e; rw [h] at e; cases e
      rw [List.filter_cons_of_neg (by simp only [h]; decide)]
      show look (hidL n l) t = _
      rw [ih]
      split
      · rename_i hnt
        conv => rhs; unfold look
        cases hq : Nat.beq q t with
        | true => have := beq_nat_true hq; omega
        | false => rfl
      · rfl
def callPanH (P : Program) (T : Tab) (Q : Exit → St → Prop) (o : Oper) (s : St) : Prop :=
  match o.guard with
  | some _ => False
  | none => match o.op with
    | .call { callee := .value (.func f), args, argTypes } => expos T s.row argTypes.toList (s.gets args.toList) fun ds => ∃ v, PSpec P T f ds v ∧ (match s with | ⟨env, box, row, n⟩ => hidE n env fun env => Q (.panic [{ v := v, recovered := false }]) ⟨env, box, row, n⟩)
    | _ => False
def panAt (P : Program) (T : Tab) (l : List Oper) (i : Nat) (Q : Exit → St → Prop) (s : St) : Prop := match l[i]? with | some o => callPanH P T Q o s | none => False
section
variable {w0 w w' : World} {V0 : Fr} {V : Vw} {μ : List Nat} {ω : List Value} {s : St} {a : Act} {P : Program} {T : Tab}
theorem dopsF_sound (hT : TOk P T) {ops : List Oper} {A : Waits} (hns : Region.noSelect ops.toArray = true) (hA : waitsB ops.toArray A = true) {Q : Exit → Act → World → Prop} (hQ : ∀ c dst v a w, Q (.panic c) (Act.put a dst v) w → Q (.panic c) a w) {i0 k : Nat} :
    ∀ (mvs : List Mv) (listed : Array Bool) (ps : Pends) (sps : List (Nat × Src)) (s : St) (V : Vw) (μ : List Nat) (ω : List Value) (a : Act) (w : World) (K : St → Prop),
      planF ops.toArray i0 mvs listed = true → Closed ops.toArray listed → Sim (szOf T) w0 V0 V μ ω s a w → All2 (PendOK V μ ω w) ps sps → dops P T ops A mvs sps s K →
      (∀ s V μ ω a w (next : Act → World → Prop), K s → Sim (szOf T) w0 V0 V μ ω s a w → wpOp P ops.toArray Q i0 next a w) → wpAnyP P ops.toArray (befW A) Q (mvs.length + (k + 1)) ps listed a w
  | [], listed, ps, sps, s, V, μ, ω, a, w, K, hB, hcl, hS, hps, h, hq => by
    simp only [planF, beq_iff_eq] at hB
    rw [List.length_nil, Nat.zero_add]
    refine ⟨fun h0 => (by rw [hB] at h0; cases h0), fun j hj => ?_⟩
    rw [hB] at hj
    have hji : j = i0 := by simpa using hj
    subst hji
    exact hq s V μ ω a w _ h hS
  | .q i :: r, listed, ps, sps, s, V, μ, ω, a, w, K, hB, hcl, hS, hps, h, hq => by
    simp only [planF, Bool.and_eq_true] at hB
    obtain ⟨⟨⟨hr, hf⟩, hq1⟩, hB⟩ := hB
    simp only [dops] at h
    rw [List.length_cons, show r.length + 1 + (k + 1) = (r.length + (k + 1)) + 1 by omega]
    cases ho : ops[i]? with
    | none => rw [ho] at h; exact h.elim
    | some o =>
      rw [ho] at h
      dsimp only at h
      have ho' : ops.toArray[i]? = some o := by simpa using ho
      rw [ho'] at hq1
      have hri : i ∈ Region.ready .any ops.toArray listed := by simpa using hr
      have hall : ∀ x ∈ ps, x.2 w := fun x hx => let ⟨y, hy⟩ := hps.left x hx; hy.mono_
      rcases wantK_sound (o := o) hS h with ⟨hw, s1, h, hS⟩ | ⟨hw, s1, h, hS⟩
      · obtain ⟨d, v, s2, h, hr2, hS2, p, n, hsrc, hq2⟩ := qop_sound hT hS h
        obtain ⟨s3, h, hS3⟩ := putK_sound hS2 hr2 h
        refine wpAnyP_first (C := KeepN p n w) (v := v) (fun i j => befW_spec hA i j) ho' (Region.noSelect_spec hns) (fun c a w hc => hQ _ _ _ _ _ hc) _ ps listed a w hcl (Region.free_spec ho' hf) hri
          (.inl ⟨hw, fun w' hk => quiet_value (by simpa using hq1) (hq2 w' ?_)⟩) (fun _ _ _ h => h) hall ?_
        · unfold QR
          split
          · exact hk
          · rename_i heq; simp [isQ, heq] at hq1
          · trivial
        · exact dopsF_sound hT hns hA hQ r _ _ _ s3 V μ ω _ w K hB (hcl.set hri) hS3 (.cons ⟨rfl, p, n, w, rfl, hsrc, fun _ _ _ h => h⟩ hps) h hq
      · obtain ⟨s3, h, hS3⟩ := putK_sound hS (v := undef) (d := .tup []) (RS.tup [] #[] rfl (fun j v d h => by simp at h)) h
        refine wpAnyP_first (C := KeepN ⟨0, 0, none⟩ 0 w) (v := undef) (fun i j => befW_spec hA i j) ho' (Region.noSelect_spec hns) (fun c a w hc => hQ _ _ _ _ _ hc) _ ps listed a w hcl (Region.free_spec ho' hf) hri
          (.inr ⟨hw, rfl⟩) (fun _ _ _ h => h) hall ?_
        exact dopsF_sound hT hns hA hQ r _ _ _ s3 V μ ω _ w K hB (hcl.set hri) hS3 (.cons ⟨rfl, ⟨0, 0, none⟩, 0, w, rfl, SrcP.zero _, fun _ _ _ h => h⟩ hps) h hq
  | .l i :: r, listed, ps, sps, s, V, μ, ω, a, w, K, hB, hcl, hS, hps, h, hq => by
    simp only [planF, Bool.and_eq_true, beq_iff_eq] at hB
    obtain ⟨hr, hB⟩ := hB
    simp only [dops] at h
    rw [List.length_cons, show r.length + 1 + (k + 1) = (r.length + (k + 1)) + 1 by omega]
    cases ho : ops[i]? with
    | none => rw [ho] at h; exact h.elim
    | some o =>
      rw [ho] at h
      dsimp only at h
      have ho' : ops.toArray[i]? = some o := by simpa using ho
      have hri : i ∈ Region.ready .any ops.toArray listed := by rw [hr]; simp
      refine ⟨fun h0 => (by rw [hr] at h0; cases h0), fun j hj => ?_⟩
      rw [hr] at hj
      have hji : j = i := by simpa using hj
      subst hji
      unfold wpOp
      rw [ho']
      dsimp only
      rcases wantK_sound (o := o) hS h with ⟨hw, s1, h, hS⟩ | ⟨hw, s1, h, hS⟩
      · rw [if_pos hw]
        obtain ⟨h, hst⟩ := clearK_step hS.mem hps h
        refine .inl (dop_sound hT hS h _ _ fun d v s2 V2 μ2 ω2 w2 hk hr2 hS2 hstep => ?_)
        obtain ⟨h1, h2⟩ := hst _ _ _ _ hstep
        obtain ⟨s3, h, hS3⟩ := putK_sound hS2 hr2 hk
        exact ⟨h1, dopsF_sound hT hns hA hQ r _ _ _ s3 _ _ _ _ w2 K hB (hcl.set hri) hS3 h2 h hq⟩
      · rw [if_neg (by rw [hw]; simp)]
        obtain ⟨s3, h, hS3⟩ := putK_sound hS (v := undef) (d := .tup []) (RS.tup [] #[] rfl (fun j v d h => by simp at h)) h
        exact ⟨fun x hx _ => let ⟨y, hy⟩ := hps.left x hx; hy.mono_, dopsF_sound hT hns hA hQ r _ _ _ s3 _ _ _ _ w K hB (hcl.set hri) hS3 (hps.filter fun _ _ h => h.1) h hq⟩

/-- A region that draws its order, up to a call that panics. -/
theorem Ok.region_planpan (hT : TOk P T) (hm : P.follows .mixedOrders = true) {s : St} {Q : Exit → St → Prop} {id : Nat} {l : List Oper} (A : Waits) (mvs : List Mv) (i0 : Nat) (hB : planPOk l.toArray A mvs i0 = true)
    (h : dops P T l A mvs [] s (panAt P T l i0 Q)) : Ok P T (.region id l.toArray true) Q s := by
  refine ⟨fun w0 V0 V μ ω a w hS => ?_⟩
  simp only [planPOk, Bool.and_eq_true] at hB
  obtain ⟨⟨⟨hns, hA⟩, hlen⟩, hB⟩ := hB
  have hlt : mvs.length < l.toArray.size := blt_true hlen
  have hd : Ext w { w with drawn := w.drawn + 1 } := (Below.refl w.heap.size w).drew
  refine wp_mono (Q := fun e a' w' => ∃ c, e = .panic c ∧ ∃ s' V' μ' ω', Q e s' ∧ (∀ t, t < s'.n → look s'.env t = .u) ∧ Sim (szOf T) w0 V0 V' μ' ω' s' a' w') (wp_region_any hm ?_) ?_
  · refine wpAny_of_P (bef := befW A) _ [] _ _ _ ?_
    have hz : ∀ m j : Nat, (Array.replicate m false).getD j false = false := fun m j => by
      rcases Nat.lt_or_ge j m with h | h <;> simp [h]
    have hw := dopsF_sound hT hns hA (Q := fun e a' w' => ∃ c, e = .panic c ∧ ∃ s' V' μ' ω', Q e s' ∧ (∀ t, t < s'.n → look s'.env t = .u) ∧ Sim (szOf T) w0 V0 V' μ' ω' s' a' w')
      (by
        rintro c dst v a w ⟨_, _, s', V', μ', ω', hq, hhid, hS'⟩
        refine ⟨c, rfl, s', V', μ', ω', hq, hhid, ⟨?_, ?_, fun t => ?_, hS'.mem⟩⟩
        · have := hS'.tmps
          cases dst <;> simpa [Act.put] using this
        · have := hS'.defers
          cases dst <;> simpa [Act.put] using this
        · by_cases ht : t < s'.n
          · rw [hhid t ht]; exact .imm _ _ (.u _)
          · have := hS'.env t
            unfold slotV at this ⊢
            rw [if_neg ht] at this ⊢
            exact this) (i0 := i0) (k := l.toArray.size - mvs.length - 1) mvs _ [] [] s V μ ω a _ _ hB
      (fun j o _ hl => by rw [hz] at hl; cases hl) (hS.ext hd) .nil h ?_
    · rw [show mvs.length + (l.toArray.size - mvs.length - 1 + 1) = l.toArray.size by omega] at hw
      exact hw
    · intro s V μ ω a w next hk hS
      unfold panAt at hk
      split at hk
      case h_2 => exact hk.elim
      rename_i o ho
      obtain ⟨dst, op, type, pos, after, guard⟩ := o
      unfold callPanH at hk
      split at hk
      · exact hk.elim
      rename_i hg
      dsimp only at hg
      subst hg
      split at hk
      case h_2 => exact hk.elim
      rename_i f args argTypes hop
      dsimp only at hop
      subst hop
      obtain ⟨es, ⟨v, hp, hq⟩, hes, hri⟩ := expos_sound hS.mem argTypes.toList (s.gets args.toList) (args.toList.map a.eval) _ (by simp [St.gets]) (hS.gets args.toList).2 hk
      unfold wpOp
      have ho' : l.toArray[i0]? = some ⟨dst, .call ⟨.value (.func f), args, argTypes⟩, type, pos, after, none⟩ := by simpa using ho
      rw [ho']
      dsimp only
      rw [if_pos (by simp [Region.wanted])]
      left
      unfold Oper.wp
      have hrun : (execOp a.eval ⟨dst, .call ⟨.value (.func f), args, argTypes⟩, type, pos, after, none⟩).run P w = .ok (.enter f (args.map a.eval)) w := by
        simp only [execOp, resolve, Act.eval, Deferred.ofValue, invoke, Sem.run_bind, Sem.run_pure, Result.andThen_ok]
        rw [show (#[] ++ args.map a.eval) ++ #[] = args.map a.eval by simp, hp.call]
      rw [hrun]
      show Calls P f (args.map a.eval) w _
      have hcalls := hp.run _ w (args.map a.eval) (fun _ _ h => h) (by simp [hes, St.gets]) (fun j v d h1 h2 => hri j v d (by simpa using h1) h2)
      refine hcalls.mono ?_
      rintro e w' ⟨rfl, hb⟩
      obtain ⟨env, box, row, n⟩ := s
      dsimp only at hq
      rw [hidE_eq] at hq
      have hS2 := hS.ext hb
      refine ⟨_, rfl, ⟨hidL n env, box, row, n⟩, V, μ, ω, hq, fun t ht => by rw [hidL_look, if_neg (Nat.not_le.2 ht)], ⟨hS2.tmps, hS2.defers, fun t => ?_, hS2.mem⟩⟩
      show RS _ _ _ _ (slotV V0 n a t) (look (hidL n env) t)
      rw [hidL_look]
      split
      · exact hS2.env t
      · exact .imm _ _ (.u _)
  · rintro e a' w' ⟨c, rfl, s', V', μ', ω', hk, _, hS'⟩
    exact ⟨s', V', μ', ω', hk, hS'⟩

/-- panic(T{}), of a struct without fields. -/
theorem Ok.region_throw {id t1 t2 n : Nat} {ty : TypeId} {env : List (Nat × D)} {box : List (List D)} {row : Rows} {Q : Exit → St → Prop} {y1 y2 y3 : TypeId} {p1 p2 p3 : String} {a1 a2 a3 : Array Edge}
    (hb : ∀ w, (Instr.build ty #[]).run P w = .ok (.agg #[]) w) (hc : P.concrete ty = true) (h1 : t1 < n) (h2 : t2 < n)
    (h : Q (.panic [{ v := .iface ty (.agg #[]), recovered := false }]) ⟨(t2, .u) :: (t1, .u) :: env, box, row, n⟩) :
    Ok P T (.region id #[⟨some t1, .build ty #[], y1, p1, a1, none⟩, ⟨some t2, .makeInterface ty (.tmp t1), y2, p2, a2, none⟩, ⟨none, .panic (.tmp t2), y3, p3, a3, none⟩] false) Q ⟨env, box, row, n⟩ := by
  refine ⟨fun w0 V0 V μ ω a w hS => wp_region_lit ?_⟩
  have hsz : a.tmps.size = n := hS.tmps
  have ps : ∀ {a : Act} {t : Nat} {v : Value}, t < a.tmps.size → (a.put (some t) v).eval (.tmp t) = v := fun h => by simp [Act.put, Act.eval, Array.getD, h]
  unfold wpList
  rw [if_pos (by simp [Region.wanted])]
  left
  unfold Oper.wp
  have r1 : (execOp a.eval ⟨some t1, .build ty #[], y1, p1, a1, none⟩).run P w = .ok (.value (.agg #[])) w := by
    simp only [execOp, Sem.run_bind, Array.map_empty, List.map_toArray, List.map_nil, hb, Result.andThen_ok, Sem.run_pure]
  rw [r1]
  show wpList P _ _ [_, _] (a.put (some t1) _) w
  unfold wpList
  rw [if_pos (by simp [Region.wanted])]
  left
  unfold Oper.wp
  have r2 : (execOp (a.put (some t1) (.agg #[])).eval ⟨some t2, .makeInterface ty (.tmp t1), y2, p2, a2, none⟩).run P w = .ok (.value (.iface ty (.agg #[]))) w := by
    simp only [execOp, ps (a := a) (t := t1) (v := .agg #[]) (by omega), Sem.run_bind, run_makeInterface w ty _ hc, Result.andThen_ok, Sem.run_pure]
  rw [r2]
  show wpList P _ _ [_] ((a.put (some t1) _).put (some t2) _) w
  unfold wpList
  rw [if_pos (by simp [Region.wanted])]
  left
  unfold Oper.wp
  have r3 : (execOp ((a.put (some t1) (.agg #[])).put (some t2) (.iface ty (.agg #[]))).eval ⟨none, .panic (.tmp t2), y3, p3, a3, none⟩).run P w = .halt (.panic (.iface ty (.agg #[]))) w := by
    have e : ((a.put (some t1) (.agg #[])).put (some t2) (.iface ty (.agg #[]))).eval (.tmp t2) = .iface ty (.agg #[]) := ps (by simp [Act.put]; omega)
    simp [execOp, e, Instr.panic, goPanic]
  rw [r3]
  exact ⟨_, V, μ, ω, h, (hS.put h1 (.imm _ _ (.u _))).put h2 (.imm _ _ (.u _))⟩
end
end Go.Vx
/- The plain-data machine, part 22: a nil slice read as an empty list that nobody writes. Nothing here speaks of one program. -/
namespace Go.Vx
open Go.RowKit
section
variable {P : Program} {T : Tab} {Q : Exit → St → Prop}
theorem ri_nil {sz : TypeId → Nat} {V : Vw} (e : TypeId) : RI sz V (.slice none 0 0) (.lst e [] []) :=
  RI.lst e [] [] none ⟨0, 0, none⟩ 0 (fun _ _ => undef) (by simp) (by unfold maxLen; omega) (by simp) (by simp) (by simp) (by simp) (by simp)
/-- In a slot. -/
theorem Ok.nilE {c : Code} (t : Nat) (e : TypeId) {env : List (Nat × D)} {box : List (List D)} {row : Rows} {n : Nat} (ht : look env t = .nilS)
    (h : Ok P T c Q ⟨(t, .lst e [] []) :: env, box, row, n⟩) : Ok P T c Q ⟨env, box, row, n⟩ := by
  refine ⟨fun w0 V0 V μ ω a w hS => h.run w0 V0 V μ ω a w ⟨hS.tmps, hS.defers, fun x => ?_, hS.mem⟩⟩
  show RS _ _ _ _ _ (look ((t, .lst e [] []) :: env) x)
  unfold look
  split
  · rename_i hb
    have hv := hS.env t
    dsimp only at hv
    rw [ht] at hv
    rw [← beq_nat_true hb, hv.nilS_]
    exact .imm _ _ (ri_nil e)
  · exact hS.env x
/-- In a cell of a box. -/
theorem Ok.nilC {c : Code} (i j : Nat) (e : TypeId) {env : List (Nat × D)} {box : List (List D)} {cs : List D} {row : Rows} {n : Nat} (hi : box[i]? = some cs) (hj : cs[j]? = some .nilS)
    (h : setK cs j (.lst e [] []) fun cs' => setK box i cs' fun box' => Ok P T c Q ⟨env, box', row, n⟩) : Ok P T c Q ⟨env, box, row, n⟩ := by
  refine ⟨fun w0 V0 V μ ω a w hS => ?_⟩
  obtain ⟨hjl, h⟩ := setK_iff _ _ _ _ h
  obtain ⟨hil, h⟩ := setK_iff _ _ _ _ h
  have hM := hS.mem
  refine h.run w0 V0 V μ ω a w ⟨hS.tmps, hS.defers, hS.env, ?_⟩
  refine ⟨hM.below, hM.vok, hM.vle, hM.vold, by simpa using hM.bl, ?_, hM.rl, hM.hrow, hM.uniq, hM.new, hM.vmut⟩
  intro q g cs2 h1 h2
  by_cases hq : q = i
  · subst hq
    dsimp only at h2
    rw [List.getElem?_set_self hil] at h2
    cases h2
    obtain ⟨us, t', a1, b, c', d, ty⟩ := hM.hbox q g cs h1 hi
    refine ⟨us, t', a1, by simpa using b, c', fun k v d' e1 e2 => ?_, bTy_set ty j rfl⟩
    by_cases hk : k = j
    · subst hk
      rw [List.getElem?_set_self hjl] at e2
      cases e2
      rw [(d k v _ e1 hj).nilS_]
      exact .imm _ _ (ri_nil e)
    · rw [List.getElem?_set_ne (Ne.symm hk)] at e2
      exact d k v d' e1 e2
  · dsimp only at h2
    rw [List.getElem?_set_ne (Ne.symm hq)] at h2
    exact hM.hbox q g cs2 h1 h2
end
end Go.Vx
/- The plain-data machine, part 23: a row put into the place of another one, which is let go. Nothing here speaks of one program. -/
namespace Go.Vx
open Go.RowKit
section
variable {P : Program} {T : Tab} {Q : Exit → St → Prop}
theorem Ok.into {c : Code} (q r : Nat) {x : TypeId × List (List D)} {env : List (Nat × D)} {box : List (List D)} {row : Rows} {n : Nat} (hr : row[r]? = some (some x)) (hqr : q ≠ r) (hq : q < row.length)
    (h : subE q (fun _ => .u) env fun env => subB q (fun _ => .u) box fun box => subE r (fun m => .own q m) env fun env => subB r (fun m => .own q m) box fun box => setK row q (some x) fun row => setK row r none fun row => Ok P T c Q ⟨env, box, row, n⟩) :
    Ok P T c Q ⟨env, box, row, n⟩ := by
  refine ⟨fun w0 V0 V μ ω a w hS => ?_⟩
  simp only [subE_eq, subB_eq] at h
  obtain ⟨hq1, h⟩ := setK_iff _ _ _ _ h
  obtain ⟨hr1, h⟩ := setK_iff _ _ _ _ h
  have hM := hS.mem
  have hl : ω.length = row.length := hM.rl
  have hrr : r < row.length := (List.getElem?_eq_some_iff.1 hr).1
  obtain ⟨v, hv⟩ : ∃ v, ω[r]? = some v := ⟨_, List.getElem?_eq_getElem (by omega)⟩
  have hω : ∀ p u, p ≠ q → ω[p]? = some u → (ω.set q v)[p]? = some u := fun p u hp hu => by rw [List.getElem?_set_ne (Ne.symm hp)]; exact hu
  have hvq : (ω.set q v)[q]? = some v := List.getElem?_set_self (by omega)
  have hvr : (ω.set q v)[r]? = some v := by rw [List.getElem?_set_ne hqr]; exact hv
  have hdead : ∀ m u, RS (szOf T) V μ ω u (.own q m) → RS (szOf T) V μ (ω.set q v) u .u := fun _ u _ => .imm _ _ (.u u)
  have hconv : ∀ m u, RS (szOf T) V μ (ω.set q v) u (.own r m) → RS (szOf T) V μ (ω.set q v) u (.own q m) := by
    intro m u hu
    obtain ⟨A, N, c, h1, h2, rfl⟩ := hu.own_
    rw [hvr] at h1
    cases h1
    exact .own _ m A N c hvq h2
  have own : ∀ l g, Own μ (ω.set q v) ((row.set q (some x)).set r none) l g → ∃ l', Own μ ω row l' g ∧ ((l = .inr q ∧ l' = .inr r) ∨ (l = l' ∧ l ≠ .inr r ∧ l ≠ .inr q)) := by
    intro l g hl2
    cases l with
    | inl i => exact ⟨.inl i, hl2, .inr ⟨rfl, by simp, by simp⟩⟩
    | inr p =>
      obtain ⟨u, y, h1, h2, h3⟩ := hl2
      by_cases hpr : p = r
      · subst hpr
        rw [List.getElem?_set_self hr1] at h2
        cases h2
      · rw [List.getElem?_set_ne (Ne.symm hpr)] at h2
        by_cases hpq : p = q
        · subst hpq
          rw [hvq] at h1
          cases h1
          exact ⟨.inr r, ⟨v, x, hv, hr, h3⟩, .inl ⟨rfl, rfl⟩⟩
        · rw [List.getElem?_set_ne (Ne.symm hpq)] at h1 h2
          exact ⟨.inr p, ⟨u, y, h1, h2, h3⟩, .inr ⟨rfl, by simpa using hpr, by simpa using hpq⟩⟩
  refine h.run w0 V0 V μ (ω.set q v) a w ⟨hS.tmps, hS.defers, fun t => ?_, ?_⟩
  · show RS _ _ _ _ _ (look ((env.map fun x => (x.1, subDF q (fun _ => .u) x.2)).map fun x => (x.1, subDF r (fun m => .own q m) x.2)) t)
    rw [look_sub, look_sub]
    exact ((hS.env t).sub (fun _ _ h => h) hω hdead).sub (fun _ _ h => h) (fun _ _ _ h => h) hconv
  · refine ⟨hM.below, hM.vok, hM.vle, hM.vold, by simp [hM.bl], ?_, by simp [hl], ?_, ?_, ?_, ?_⟩
    · intro i g c' h1 h2
      simp only [List.getElem?_map, Option.map_eq_some_iff] at h2
      obtain ⟨_, ⟨cs, hcs, rfl⟩, rfl⟩ := h2
      obtain ⟨us, t', a1, b, c'', d, ty⟩ := hM.hbox i g cs h1 hcs
      refine ⟨us, t', a1, by simpa using b, c'', fun j u d' e1 e2 => ?_, bTy_sub (fun _ => rfl) (bTy_sub (fun _ => rfl) ty)⟩
      simp only [List.getElem?_map, Option.map_eq_some_iff] at e2
      obtain ⟨_, ⟨d0, hd0, rfl⟩, rfl⟩ := e2
      exact ((d j u d0 e1 hd0).sub1 (fun _ _ h => h) hω hdead).sub1 (fun _ _ h => h) (fun _ _ _ h => h) hconv
    · intro p u e' ys h1 h2
      by_cases hpr : p = r
      · subst hpr
        rw [List.getElem?_set_self hr1] at h2
        cases h2
      · rw [List.getElem?_set_ne (Ne.symm hpr)] at h2
        by_cases hpq : p = q
        · subst hpq
          rw [hvq] at h1
          cases h1
          rw [List.getElem?_set_self hq1] at h2
          cases h2
          exact hM.hrow r v e' ys hv hr
        · rw [List.getElem?_set_ne (Ne.symm hpq)] at h1 h2
          exact hM.hrow p u e' ys h1 h2
    · intro l l' g h1 h2
      obtain ⟨m, o1, c1⟩ := own l g h1
      obtain ⟨m', o2, c2⟩ := own l' g h2
      have := hM.uniq m m' g o1 o2
      rcases c1 with ⟨e1, e2⟩ | ⟨e1, e2, e3⟩ <;> rcases c2 with ⟨f1, f2⟩ | ⟨f1, f2, f3⟩
      · rw [e1, f1]
      · exact absurd (by rw [f1, ← this, e2]) f2
      · exact absurd (by rw [e1, this, f2]) e2
      · rw [e1, f1, this]
    · intro l g h1
      obtain ⟨m, o1, _⟩ := own l g h1
      exact hM.new m g o1
    · intro p u l hp h1
      obtain ⟨m, o1, _⟩ := own l _ h1
      exact hM.vmut p u m hp o1
end
end Go.Vx
/- The plain-data machine, part 24: strings.Split at one byte; calls that hand over a new list. Nothing here speaks of one program. -/
namespace Go.Vx
open Go.RowKit Go.Shelf Go.Proofs

theorem split_one {P : Program} {ρ : Ren} (L : Lays.n146 P ρ) (hi9 : (P.info? (ρ.t 9)).map (fun i => (i.zero, i.size, i.bytes)) = some (some (.string ByteArray.empty), 1, 16)) (s : ByteArray) (c : UInt8) (w : World) (hs : s.size < 4294967281) :
    Calls P (ρ.f 146) #[.string s, .string ⟨#[c]⟩] w fun e w' =>
      e = .returned (.slice (some ⟨w.heap.size, 0, none⟩) (Lib.splitB ⟨#[c]⟩ 0 (Lib.countB s ⟨#[c]⟩) s).length (Lib.splitB ⟨#[c]⟩ 0 (Lib.countB s ⟨#[c]⟩) s).length) ∧ w' = w.alloc (.cells ((Lib.splitB ⟨#[c]⟩ 0 (Lib.countB s ⟨#[c]⟩) s).map Value.string).toArray (ρ.t 9)) := by
  have h1 : 1 ≤ (ByteArray.mk #[c]).size := Nat.le_refl 1
  have hle := Lib.countB_le ⟨#[c]⟩ h1 s.size s (Nat.le_refl _)
  have hlen := Lib.splitB_all ⟨#[c]⟩ h1 0 _ s rfl
  have q : Calls P (ρ.f 221) #[.string s, .string ⟨#[c]⟩, .int .i64 (0 : Nat), .int .i64 (-1)] w _ := Any.strings_genSplit_core { L with } hi9 s ⟨#[c]⟩ 0 (-1) (Lib.countB s ⟨#[c]⟩ + 1) w hs h1 (Nat.zero_le _)
    (fun x cs hx => (Any.strings_Index_one { L with } x c _).mono fun e w' ⟨he, hw⟩ => ⟨he.trans (congrArg (fun i => Ending.returned (Value.int .i64 i)) (Lib.index_one _ _).symm), hw⟩)
    ((Any.strings_Count_one { L with } s c w).mono fun e w' ⟨he, hw⟩ => ⟨by rw [he]; show _ = Ending.returned (Value.int .i64 ((Lib.count s.data.toList [c] : Nat) : Int)); rw [Lib.count_one]; rfl, hw⟩)
    (by decide) (by decide) (by rw [if_pos (by decide)]; omega)
  rw [Nat.add_sub_cancel] at q
  have e2 : Lib.cellsOf (Lib.splitB ⟨#[c]⟩ 0 (Lib.countB s ⟨#[c]⟩) s) (Lib.countB s ⟨#[c]⟩ + 1) = ((Lib.splitB ⟨#[c]⟩ 0 (Lib.countB s ⟨#[c]⟩) s).map Value.string).toArray := by rw [← hlen]; exact Lib.cellsOf_full _
  rw [e2] at q
  have t3 := L.t3; have t9 := L.t9; have t31 := L.t31
  have a3 := L.a3; have a9 := L.a9; have a31 := L.a31
  have z3 := L.z3; have v3 := L.v3; have z9 := L.z9; have v9 := L.v9; have z31 := L.z31; have v31 := L.v31
  have e221 : ∀ args w, (callFunc (ρ.f 221) args).run P w = .ok (.enter (ρ.f 221) args) w := enters_of L.f221 (by kernel_rfl) rfl
  go_enter L.f146, Body.n146_ntmps ρ
  go_wp2_with (go_at_fn (ρ.f 221); refine q.mono ?_; rintro e w' ⟨rfl, hw⟩; rw [hw])
  go_ret
  rw [hlen]
  exact ⟨rfl, rfl⟩

/-! ### The pieces of a text -/
def cutL (c : UInt8) : List UInt8 → List (List UInt8)
  | [] => [[]]
  | b :: r => if b = c then [] :: cutL c r else match cutL c r with
    | h :: t => (b :: h) :: t
    | [] => [[b]]
theorem cutL_ne (c : UInt8) : ∀ l, cutL c l ≠ []
  | [] => by simp [cutL]
  | b :: r => by
    unfold cutL
    split
    · simp
    · split <;> simp
theorem cutL_none {c : UInt8} : ∀ {l : List UInt8}, c ∉ l → cutL c l = [l]
  | [], _ => rfl
  | b :: r, h => by
    rw [List.mem_cons, not_or] at h
    rw [cutL, if_neg (Ne.symm h.1), cutL_none h.2]
theorem cutL_at {c : UInt8} : ∀ {a : List UInt8} {b : List UInt8}, c ∉ a → cutL c (a ++ c :: b) = a :: cutL c b
  | [], b, _ => by rw [List.nil_append, cutL, if_pos rfl]
  | x :: a, b, h => by
    rw [List.mem_cons, not_or] at h
    rw [List.cons_append, cutL, if_neg (Ne.symm h.1), cutL_at h.2]
theorem indexByte_cases (c : UInt8) : ∀ l : List UInt8, (c ∉ l ∧ Lib.indexByte l c = -1) ∨ ∃ a b, l = a ++ c :: b ∧ c ∉ a ∧ Lib.indexByte l c = a.length
  | [] => .inl ⟨by simp, rfl⟩
  | x :: l => by
    by_cases h : x = c
    · subst h
      exact .inr ⟨[], l, rfl, by simp, by simp [Lib.indexByte]⟩
    · have e : (x == c) = false := beq_eq_false_iff_ne.2 h
      rcases indexByte_cases c l with ⟨h1, h2⟩ | ⟨a, b, h0, h1, h2⟩
      · refine .inl ⟨fun hm => ?_, by simp [Lib.indexByte, e, h2]⟩
        rcases List.mem_cons.1 hm with q | q
        · exact h q.symm
        · exact h1 q
      · refine .inr ⟨x :: a, b, by rw [h0, List.cons_append], fun hm => ?_, ?_⟩
        · rcases List.mem_cons.1 hm with q | q
          · exact h q.symm
          · exact h1 q
        · have h3 : ((a.length : Int) == -1) = false := beq_eq_false_iff_ne.2 (by omega)
          simp [Lib.indexByte, e, h2, h3]
theorem splitK_cut (c : UInt8) : ∀ (k : Nat) (l : List UInt8), l.count c = k → Lib.splitK [c] 0 k l = cutL c l
  | 0, l, h => by
    rw [cutL_none (List.count_eq_zero.1 h)]
    rfl
  | k + 1, l, h => by
    rcases indexByte_cases c l with ⟨h1, h2⟩ | ⟨a, b, rfl, h1, h2⟩
    · rw [List.count_eq_zero.2 h1] at h; cases h
    · rw [Lib.splitK, Lib.index_one, h2]
      have e1 : ((a.length : Int) == -1) = false := beq_eq_false_iff_ne.2 (by omega)
      rw [if_neg (by rw [e1]; decide)]
      rw [List.count_append, List.count_eq_zero.2 h1, List.count_cons_self] at h
      rw [cutL_at h1, Int.toNat_natCast, Nat.add_zero, List.take_left' rfl, List.length_singleton, splitK_cut c k _ (by
        rw [← List.drop_drop, List.drop_left' rfl]
        simp
        omega), ← List.drop_drop, List.drop_left' rfl]
      rfl
theorem splitB_cut (s : ByteArray) (c : UInt8) : (Lib.splitB ⟨#[c]⟩ 0 (Lib.countB s ⟨#[c]⟩) s).map (·.data.toList) = cutL c s.data.toList := by
  rw [Lib.splitB_data]
  exact splitK_cut c _ _ (Lib.count_one c _).symm

/-! ### A call that hands over a new list of texts -/
theorem RI.s_ {sz : TypeId → Nat} {V : Vw} {v : Value} {l : List UInt8} (h : RI sz V v (.s l)) : v = .string (bstr l) := by cases h; rfl
theorem FSpec.of_texts {P : Program} {T : Tab} {f : FuncId} {ds : List D} {e : TypeId} {pieces : List ByteArray} (hcall : ∀ args w, (callFunc f args).run P w = .ok (.enter f args) w) (hsz : szOf T e = 1) (hm : pieces.length ≤ maxLen)
    (h : ∀ (V : Vw) (w : World) (args : Array Value), args.size = ds.length → (∀ (j : Nat) v d, args[j]? = some v → ds[j]? = some d → RI (szOf T) V v d) → Calls P f args w fun q w' =>
      q = .returned (.slice (some ⟨w.heap.size, 0, none⟩) pieces.length pieces.length) ∧ w' = w.alloc (.cells (pieces.map Value.string).toArray e)) :
    FSpec P T f ds fun d rows => d = .own 0 pieces.length ∧ rows = [some (e, pieces.map fun b => [.s b.data.toList])] := by
  refine ⟨hcall, fun V w args hV hl hR => (h V w args hl hR).mono ?_⟩
  rintro q w' ⟨rfl, rfl⟩
  refine ⟨V, [.slice (some ⟨w.heap.size, 0, none⟩) pieces.length pieces.length], _, _, _, rfl, ⟨rfl, rfl⟩, .own 0 _ _ _ _ rfl (Nat.le_refl _), (Below.refl _ _).alloc (Nat.le_refl _) _, fun _ _ h => h, hV.ext (Ext.alloc _ _), fun _ _ => rfl, rfl, ?_, ?_, ?_⟩
  · intro r v e' xs h1 h2
    cases r with
    | succ r => simp at h1
    | zero =>
      cases h1
      cases h2
      refine ⟨pieces.map Value.string, ⟨by rw [hsz, List.length_map, List.length_map, Nat.mul_one], .inr ⟨w.heap.size, pieces.length, _, ?_, Nat.le_refl _, heap_alloc_new w _, by rw [List.length_map]; exact Nat.le_refl _, hm, by rw [hsz]; simp, ?_⟩⟩, ?_, ?_, ?_⟩
      · rw [List.length_map]
      · rw [hsz, List.length_map, Nat.mul_one]
        show List.take _ (pieces.map Value.string) = _
        rw [List.take_of_length_le (by rw [List.length_map]; exact Nat.le_refl _)]
      · intro u hu
        obtain ⟨b, _, rfl⟩ := List.mem_map.1 hu
        rfl
      · intro i rw_ hi
        rw [List.getElem?_map] at hi
        obtain ⟨b, _, rfl⟩ := Option.map_eq_some_iff.1 hi
        rw [hsz]; rfl
      · intro i rw_ j d hi hj
        rw [List.getElem?_map] at hi
        obtain ⟨b, hb, rfl⟩ := Option.map_eq_some_iff.1 hi
        cases j with
        | succ j => simp at hj
        | zero =>
          cases hj
          refine ⟨.string b, by rw [hsz, Nat.mul_one, Nat.add_zero, List.getElem?_map, hb]; rfl, ?_⟩
          have : b = bstr b.data.toList := by simp [bstr]
          conv => lhs; rw [this]
          exact .s _
  · intro r r' v v' x x' g h1 _ h2 _ _ _
    cases r with
    | succ r => simp at h1
    | zero => cases r' with
      | succ r => simp at h2
      | zero => rfl
  · intro p u r v x hp h1 _ hb
    cases r with
    | succ r => simp at h1
    | zero =>
      cases h1
      have h3 := World.block_lt_of_cell? _ _ (hV p u hp)
      simp only [Value.ownBlock, Option.some.injEq] at hb
      omega
/-- strings.Split at one byte. -/
theorem split_at {P : Program} {T : Tab} {ρ : Ren} (L : Lays.n146 P ρ) (hi9 : (P.info? (ρ.t 9)).map (fun i => (i.zero, i.size, i.bytes)) = some (some (.string ByteArray.empty), 1, 16))
    (hc : ∀ args w, (callFunc (ρ.f 146) args).run P w = .ok (.enter (ρ.f 146) args) w) (hsz : szOf T (ρ.t 9) = 1) (s : List UInt8) (c : UInt8) (hs : s.length < 4294967281) :
    FSpec P T (ρ.f 146) [.s s, .s [c]] fun d rows => d = .own 0 (cutL c s).length ∧ rows = [some ((ρ.t 9), (cutL c s).map fun b => [.s b])] := by
  have e1 : (bstr s).data.toList = s := by simp [bstr]
  have hz : (bstr s).size = s.length := by rw [Lib.size_eq, e1]
  have e0 := splitB_cut (bstr s) c
  rw [e1] at e0
  have hlen : (Lib.splitB ⟨#[c]⟩ 0 (Lib.countB (bstr s) ⟨#[c]⟩) (bstr s)).length = (cutL c s).length := by rw [← e0, List.length_map]
  have h := FSpec.of_texts (P := P) (T := T) (ds := [.s s, .s [c]]) (e := (ρ.t 9)) (pieces := Lib.splitB ⟨#[c]⟩ 0 (Lib.countB (bstr s) ⟨#[c]⟩) (bstr s)) hc hsz (by
      have := Lib.splitB_length_le ⟨#[c]⟩ 0 (Lib.countB (bstr s) ⟨#[c]⟩) (bstr s)
      have := Lib.countB_le ⟨#[c]⟩ (Nat.le_refl 1) (bstr s).size (bstr s) (Nat.le_refl _)
      unfold maxLen; omega) fun V w args hl hR => by
    match args, hl with
    | ⟨[a, b]⟩, _ =>
      have ha := (hR 0 a _ rfl rfl).s_
      have hb := (hR 1 b _ rfl rfl).s_
      subst ha hb
      exact split_one L hi9 (bstr s) c w (by rw [hz]; exact hs)
  have e3 : ((Lib.splitB ⟨#[c]⟩ 0 (Lib.countB (bstr s) ⟨#[c]⟩) (bstr s)).map fun b => [D.s b.data.toList]) = (cutL c s).map fun b => [.s b] := by rw [← e0, List.map_map]; rfl
  rw [hlen, e3] at h
  exact h
end Go.Vx
/- The plain-data machine, part 25: functions with a deferred closure, cut by its place; a region that draws its order and ends in a call that panics, its other slots known. Nothing here speaks of one program. -/
namespace Go.Vx
open Go.RowKit
def memN : List Nat → Nat → Bool
  | [], _ => false
  | x :: r, t => match Nat.beq x t with | true => true | false => memN r t
theorem memN_iff : ∀ {l : List Nat} {t : Nat}, memN l t = true ↔ t ∈ l
  | [], t => by simp [memN]
  | x :: r, t => by
    unfold memN
    cases h : Nat.beq x t with
    | true =>
      have := beq_nat_true h
      simp [this]
    | false =>
      have : x ≠ t := fun e => by subst e; simp at h
      simp [memN_iff (l := r) (t := t), Ne.symm this]
def dstsN : List Oper → List Nat
  | [] => []
  | o :: r => match o.dst with | some t => t :: dstsN r | none => dstsN r
theorem dstsN_mem : ∀ {l : List Oper} {o : Oper} {t : Nat}, o ∈ l → o.dst = some t → t ∈ dstsN l
  | [], o, t, h, _ => by simp at h
  | x :: r, o, t, h, hd => by
    unfold dstsN
    rcases List.mem_cons.1 h with rfl | h
    · rw [hd]; simp
    · have := dstsN_mem h hd
      split
      · simp [this]
      · exact this
/-- All but these slots. -/
def hidS (ds : List Nat) : List (Nat × D) → (List (Nat × D) → Prop) → Prop
  | [], K => K []
  | (t, d) :: r, K => match memN ds t with | false => hidS ds r fun r => K ((t, d) :: r) | true => hidS ds r K
def hidSL (ds : List Nat) (l : List (Nat × D)) : List (Nat × D) := l.filter fun x => !memN ds x.1
theorem hidS_eq (ds : List Nat) : ∀ (l : List (Nat × D)) (K : List (Nat × D) → Prop), hidS ds l K = K (hidSL ds l)
  | [], K => rfl
  | (t, d) :: r, K => by
    simp only [hidS, hidSL]
    cases h : memN ds t with
    | true => simp [hidS_eq ds r, hidSL, h]
    | false => simp [hidS_eq ds r, hidSL, h]
theorem hidSL_look (ds : List Nat) (l : List (Nat × D)) (t : Nat) : look (hidSL ds l) t = if t ∈ ds then .u else look l t := by
  induction l with
  | nil => simp [hidSL, look]
  | cons x l ih =>
    obtain ⟨q, d⟩ := x
    unfold hidSL
    cases h : memN ds q with
    | false =>
      have hnq : q ∉ ds := fun e => by rw [← memN_iff, h] at e; cases e
      rw [List.filter_cons_of_pos (by simp [h])]
      show look ((q, d) :: hidSL ds l) t = _
      unfold look
      cases hq : Nat.beq q t with
      | true =>
        have := beq_nat_true hq
        subst this
        simp [hnq]
      | false => exact ih
    | true =>
      have hnq : q ∈ ds := memN_iff.1 h
      rw [List.filter_cons_of_neg (by simp [h])]
      show look (hidSL ds l) t = _
      rw [ih]
      split
      · rfl
      · rename_i hnt
        conv => rhs; unfold look
        cases hq : Nat.beq q t with
        | true => have := beq_nat_true hq; subst this; exact absurd hnq hnt
        | false => rfl
def callPanS (P : Program) (T : Tab) (ls : List Nat) (Q : Exit → St → Prop) (o : Oper) (s : St) : Prop :=
  match o.guard with
  | some _ => False
  | none => match o.op with
    | .call { callee := .value (.func f), args, argTypes } => expos T s.row argTypes.toList (s.gets args.toList) fun ds => ∃ v, PSpec P T f ds v ∧ (match s with | ⟨env, box, row, n⟩ => hidS ls env fun env => Q (.panic [{ v := v, recovered := false }]) ⟨env, box, row, n⟩)
    | _ => False
def panAtS (P : Program) (T : Tab) (l : List Oper) (i : Nat) (Q : Exit → St → Prop) (s : St) : Prop := match l[i]? with | some o => callPanS P T (dstsN l) Q o s | none => False
section
variable {w0 w w' : World} {V0 : Fr} {V : Vw} {μ : List Nat} {ω : List Value} {s : St} {a : Act} {P : Program} {T : Tab}
theorem dopsF2_sound (hT : TOk P T) {ops : List Oper} {A : Waits} (hns : Region.noSelect ops.toArray = true) (hA : waitsB ops.toArray A = true) {Q : Exit → Act → World → Prop} (hQ : ∀ c o v a w, o ∈ ops → Q (.panic c) (Act.put a o.dst v) w → Q (.panic c) a w) {i0 k : Nat} :
    ∀ (mvs : List Mv) (listed : Array Bool) (ps : Pends) (sps : List (Nat × Src)) (s : St) (V : Vw) (μ : List Nat) (ω : List Value) (a : Act) (w : World) (K : St → Prop),
      planF ops.toArray i0 mvs listed = true → Closed ops.toArray listed → Sim (szOf T) w0 V0 V μ ω s a w → All2 (PendOK V μ ω w) ps sps → dops P T ops A mvs sps s K →
      (∀ s V μ ω a w (next : Act → World → Prop), K s → Sim (szOf T) w0 V0 V μ ω s a w → wpOp P ops.toArray Q i0 next a w) → wpAnyP P ops.toArray (befW A) Q (mvs.length + (k + 1)) ps listed a w
  | [], listed, ps, sps, s, V, μ, ω, a, w, K, hB, hcl, hS, hps, h, hq => by
    simp only [planF, beq_iff_eq] at hB
    rw [List.length_nil, Nat.zero_add]
    refine ⟨fun h0 => (by rw [hB] at h0; cases h0), fun j hj => ?_⟩
    rw [hB] at hj
    have hji : j = i0 := by simpa using hj
    subst hji
    exact hq s V μ ω a w _ h hS
  | .q i :: r, listed, ps, sps, s, V, μ, ω, a, w, K, hB, hcl, hS, hps, h, hq => by
    simp only [planF, Bool.and_eq_true] at hB
    obtain ⟨⟨⟨hr, hf⟩, hq1⟩, hB⟩ := hB
    simp only [dops] at h
    rw [List.length_cons, show r.length + 1 + (k + 1) = (r.length + (k + 1)) + 1 by omega]
    cases ho : ops[i]? with
    | none => rw [ho] at h; exact h.elim
    | some o =>
      rw [ho] at h
      dsimp only at h
      have ho' : ops.toArray[i]? = some o := by simpa using ho
      rw [ho'] at hq1
      have hri : i ∈ Region.ready .any ops.toArray listed := by simpa using hr
      have hall : ∀ x ∈ ps, x.2 w := fun x hx => let ⟨y, hy⟩ := hps.left x hx; hy.mono_
      rcases wantK_sound (o := o) hS h with ⟨hw, s1, h, hS⟩ | ⟨hw, s1, h, hS⟩
      · obtain ⟨d, v, s2, h, hr2, hS2, p, n, hsrc, hq2⟩ := qop_sound hT hS h
        obtain ⟨s3, h, hS3⟩ := putK_sound hS2 hr2 h
        refine wpAnyP_first (C := KeepN p n w) (v := v) (fun i j => befW_spec hA i j) ho' (Region.noSelect_spec hns) (fun c a w hc => hQ _ _ _ _ _ (List.mem_of_getElem? ho) hc) _ ps listed a w hcl (Region.free_spec ho' hf) hri
          (.inl ⟨hw, fun w' hk => quiet_value (by simpa using hq1) (hq2 w' ?_)⟩) (fun _ _ _ h => h) hall ?_
        · unfold QR
          split
          · exact hk
          · rename_i heq; simp [isQ, heq] at hq1
          · trivial
        · exact dopsF2_sound hT hns hA hQ r _ _ _ s3 V μ ω _ w K hB (hcl.set hri) hS3 (.cons ⟨rfl, p, n, w, rfl, hsrc, fun _ _ _ h => h⟩ hps) h hq
      · obtain ⟨s3, h, hS3⟩ := putK_sound hS (v := undef) (d := .tup []) (RS.tup [] #[] rfl (fun j v d h => by simp at h)) h
        refine wpAnyP_first (C := KeepN ⟨0, 0, none⟩ 0 w) (v := undef) (fun i j => befW_spec hA i j) ho' (Region.noSelect_spec hns) (fun c a w hc => hQ _ _ _ _ _ (List.mem_of_getElem? ho) hc) _ ps listed a w hcl (Region.free_spec ho' hf) hri
          (.inr ⟨hw, rfl⟩) (fun _ _ _ h => h) hall ?_
        exact dopsF2_sound hT hns hA hQ r _ _ _ s3 V μ ω _ w K hB (hcl.set hri) hS3 (.cons ⟨rfl, ⟨0, 0, none⟩, 0, w, rfl, SrcP.zero _, fun _ _ _ h => h⟩ hps) h hq
  | .l i :: r, listed, ps, sps, s, V, μ, ω, a, w, K, hB, hcl, hS, hps, h, hq => by
    simp only [planF, Bool.and_eq_true, beq_iff_eq] at hB
    obtain ⟨hr, hB⟩ := hB
    simp only [dops] at h
    rw [List.length_cons, show r.length + 1 + (k + 1) = (r.length + (k + 1)) + 1 by omega]
    cases ho : ops[i]? with
    | none => rw [ho] at h; exact h.elim
    | some o =>
      rw [ho] at h
      dsimp only at h
      have ho' : ops.toArray[i]? = some o := by simpa using ho
      have hri : i ∈ Region.ready .any ops.toArray listed := by rw [hr]; simp
      refine ⟨fun h0 => (by rw [hr] at h0; cases h0), fun j hj => ?_⟩
      rw [hr] at hj
      have hji : j = i := by simpa using hj
      subst hji
      unfold wpOp
      rw [ho']
      dsimp only
      rcases wantK_sound (o := o) hS h with ⟨hw, s1, h, hS⟩ | ⟨hw, s1, h, hS⟩
      · rw [if_pos hw]
        obtain ⟨h, hst⟩ := clearK_step hS.mem hps h
        refine .inl (dop_sound hT hS h _ _ fun d v s2 V2 μ2 ω2 w2 hk hr2 hS2 hstep => ?_)
        obtain ⟨h1, h2⟩ := hst _ _ _ _ hstep
        obtain ⟨s3, h, hS3⟩ := putK_sound hS2 hr2 hk
        exact ⟨h1, dopsF2_sound hT hns hA hQ r _ _ _ s3 _ _ _ _ w2 K hB (hcl.set hri) hS3 h2 h hq⟩
      · rw [if_neg (by rw [hw]; simp)]
        obtain ⟨s3, h, hS3⟩ := putK_sound hS (v := undef) (d := .tup []) (RS.tup [] #[] rfl (fun j v d h => by simp at h)) h
        exact ⟨fun x hx _ => let ⟨y, hy⟩ := hps.left x hx; hy.mono_, dopsF2_sound hT hns hA hQ r _ _ _ s3 _ _ _ _ w K hB (hcl.set hri) hS3 (hps.filter fun _ _ h => h.1) h hq⟩

/-- A region that draws its order, up to a call that panics; the slots that it does not write stay known. -/
theorem Ok.region_planpanS (hT : TOk P T) (hm : P.follows .mixedOrders = true) {s : St} {Q : Exit → St → Prop} {id : Nat} {l : List Oper} (A : Waits) (mvs : List Mv) (i0 : Nat) (hB : planPOk l.toArray A mvs i0 = true)
    (h : dops P T l A mvs [] s (panAtS P T l i0 Q)) : Ok P T (.region id l.toArray true) Q s := by
  refine ⟨fun w0 V0 V μ ω a w hS => ?_⟩
  simp only [planPOk, Bool.and_eq_true] at hB
  obtain ⟨⟨⟨hns, hA⟩, hlen⟩, hB⟩ := hB
  have hlt : mvs.length < l.toArray.size := blt_true hlen
  have hd : Ext w { w with drawn := w.drawn + 1 } := (Below.refl w.heap.size w).drew
  refine wp_mono (Q := fun e a' w' => ∃ c, e = .panic c ∧ ∃ s' V' μ' ω', Q e s' ∧ (∀ t, t ∈ dstsN l → look s'.env t = .u) ∧ Sim (szOf T) w0 V0 V' μ' ω' s' a' w') (wp_region_any hm ?_) ?_
  · refine wpAny_of_P (bef := befW A) _ [] _ _ _ ?_
    have hz : ∀ m j : Nat, (Array.replicate m false).getD j false = false := fun m j => by
      rcases Nat.lt_or_ge j m with h | h <;> simp [h]
    have hw := dopsF2_sound hT hns hA (Q := fun e a' w' => ∃ c, e = .panic c ∧ ∃ s' V' μ' ω', Q e s' ∧ (∀ t, t ∈ dstsN l → look s'.env t = .u) ∧ Sim (szOf T) w0 V0 V' μ' ω' s' a' w')
      (by
        rintro c o v a w ho ⟨_, _, s', V', μ', ω', hq, hhid, hS'⟩
        refine ⟨c, rfl, s', V', μ', ω', hq, hhid, ⟨?_, ?_, fun t => ?_, hS'.mem⟩⟩
        · have := hS'.tmps
          cases hd : o.dst <;> simpa [Act.put, hd] using this
        · have := hS'.defers
          cases hd : o.dst <;> simpa [Act.put, hd] using this
        · by_cases ht : t ∈ dstsN l
          · rw [hhid t ht]; exact .imm _ _ (.u _)
          · have := hS'.env t
            cases hd : o.dst with
            | none => rw [hd] at this; exact this
            | some d =>
              have hne : d ≠ t := fun e => ht (by rw [← e]; exact dstsN_mem ho hd)
              rw [hd] at this
              unfold slotV at this ⊢
              split
              · rename_i hlt
                rw [if_pos hlt] at this
                have e1 : (a.put (some d) v).tmps.getD t undef = a.tmps.getD t undef := by
                  show (a.tmps.setIfInBounds d v).getD t undef = _
                  rw [Array.getD_eq_getD_getElem?, Array.getD_eq_getD_getElem?, Array.getElem?_setIfInBounds_ne hne]
                rw [← e1]
                exact this
              · rename_i hlt
                rw [if_neg hlt] at this
                exact this) (i0 := i0) (k := l.toArray.size - mvs.length - 1) mvs _ [] [] s V μ ω a _ _ hB
      (fun j o _ hl => by rw [hz] at hl; cases hl) (hS.ext hd) .nil h ?_
    · rw [show mvs.length + (l.toArray.size - mvs.length - 1 + 1) = l.toArray.size by omega] at hw
      exact hw
    · intro s V μ ω a w next hk hS
      unfold panAtS at hk
      split at hk
      case h_2 => exact hk.elim
      rename_i o ho
      obtain ⟨dst, op, type, pos, after, guard⟩ := o
      unfold callPanS at hk
      split at hk
      · exact hk.elim
      rename_i hg
      dsimp only at hg
      subst hg
      split at hk
      case h_2 => exact hk.elim
      rename_i f args argTypes hop
      dsimp only at hop
      subst hop
      obtain ⟨es, ⟨v, hp, hq⟩, hes, hri⟩ := expos_sound hS.mem argTypes.toList (s.gets args.toList) (args.toList.map a.eval) _ (by simp [St.gets]) (hS.gets args.toList).2 hk
      unfold wpOp
      have ho' : l.toArray[i0]? = some ⟨dst, .call ⟨.value (.func f), args, argTypes⟩, type, pos, after, none⟩ := by simpa using ho
      rw [ho']
      dsimp only
      rw [if_pos (by simp [Region.wanted])]
      left
      unfold Oper.wp
      have hrun : (execOp a.eval ⟨dst, .call ⟨.value (.func f), args, argTypes⟩, type, pos, after, none⟩).run P w = .ok (.enter f (args.map a.eval)) w := by
        simp only [execOp, resolve, Act.eval, Deferred.ofValue, invoke, Sem.run_bind, Sem.run_pure, Result.andThen_ok]
        rw [show (#[] ++ args.map a.eval) ++ #[] = args.map a.eval by simp, hp.call]
      rw [hrun]
      show Calls P f (args.map a.eval) w _
      have hcalls := hp.run _ w (args.map a.eval) (fun _ _ h => h) (by simp [hes, St.gets]) (fun j v d h1 h2 => hri j v d (by simpa using h1) h2)
      refine hcalls.mono ?_
      rintro e w' ⟨rfl, hb⟩
      obtain ⟨env, box, row, n⟩ := s
      dsimp only at hq
      rw [hidS_eq] at hq
      have hS2 := hS.ext hb
      refine ⟨_, rfl, ⟨hidSL (dstsN l) env, box, row, n⟩, V, μ, ω, hq, fun t ht => by rw [hidSL_look, if_pos ht], ⟨hS2.tmps, hS2.defers, fun t => ?_, hS2.mem⟩⟩
      show RS _ _ _ _ (slotV V0 n a t) (look (hidSL (dstsN l) env) t)
      rw [hidSL_look]
      split
      · exact .imm _ _ (.u _)
      · exact hS2.env t
  · rintro e a' w' ⟨c, rfl, s', V', μ', ω', hk, _, hS'⟩
    exact ⟨s', V', μ', ω', hk, hS'⟩

end
section
variable {P : Program} {T : Tab}
theorem FSpec.of_deferK (k : Nat) (hT : TOk P T) {f : FuncId} {fn : Func} {c : Code} (hf : P.funcs[f]? = some fn) (hb : fn.body = some c) (hcall : ∀ args w, (callFunc f args).run P w = .ok (.enter f args) w) {ds : List D} {R : D → Rows → Prop} (hn : ds.length ≤ fn.ntmps)
    {g : FuncId} {pv : Value} {z1 z2 : List Value} (hD : DefSpec P g pv z1 z2) {zd1 zd2 : List D} (hz1 : z1.map ofVal = zd1) (hz2 : z2.map ofVal = zd2) (ho1 : ∀ v ∈ z1, v.oneCell' = true) (ho2 : ∀ v ∈ z2, v.oneCell' = true) {id t p q : Nat} {ty1 ty2 : TypeId} {p1 p2 : String} {e1 e2 : Array Edge} {Bs : List Code}
    (hflat : (flatC c).drop k = .region id #[⟨some t, .makeFunc (.func g) #[] #[.tmp p, .tmp q], ty1, p1, e1, none⟩, ⟨none, .defer ⟨.value (.tmp t), #[], #[]⟩, ty2, p2, e2, none⟩] false :: Bs)
    (h : OkL P T ((flatC c).take k) (defA P T fn R pv zd1 zd2 t p q Bs) ⟨envOf 0 ds, [], [], fn.ntmps⟩) : FSpec P T f ds R :=
  FSpec.of_defer hT hf hb hcall hn hz1 hz2 ho1 ho2 hD (by rw [← hflat, List.take_append_drop]) h
end
end Go.Vx
/- The plain-data machine, part 26: a statement that leaves more boxes or rows than it found, ahead of others; contracts weakened. Nothing here speaks of one program. -/
namespace Go.Vx
open Go.RowKit
variable {P : Program} {T : Tab} {s : St}
theorem Ok.seqV {c1 c2 : Code} {Q : Exit → St → Prop} {ι : Type} (L Cs : List Nat) (k0 kb0 k kb : Nat) (C : ι → List D) (B : ι → List (List D) → List (List D)) (R : ι → Rows → Rows) (I : ι → Prop)
    (h : keepK L k0 kb0 s fun s0 => match s0 with
      | ⟨env, box, row, n⟩ => (Ok P T c1 (thenQ (fun s' => ∃ x, I x ∧ keepK (catL Cs L) k kb s' fun s1 => s1 = ⟨envCat Cs (C x) env, B x box, R x row, n⟩) Q) s) ∧
        ∀ x, I x → envCatK Cs (C x) env fun env' => Ok P T c2 Q ⟨env', B x box, R x row, n⟩) : Ok P T (.seq c1 c2) Q s := by
  obtain ⟨⟨env, box, row, n⟩, h1, h2⟩ := keepK_some h
  exact Ok.seqK (catL Cs L) k kb (fun x => ⟨envCat Cs (C x) env, B x box, R x row, n⟩) I h1 fun x hx => by
    have := h2 x hx
    rwa [envCatK_eq] at this
theorem FSpec.mono {f : FuncId} {ds : List D} {R R' : D → Rows → Prop} (h : FSpec P T f ds R) (hR : ∀ d rows, R d rows → R' d rows) : FSpec P T f ds R' :=
  ⟨h.1, fun V w args a b c => (h.2 V w args a b c).mono fun e w' ⟨V', ω, row, v, d, h1, h2, h3⟩ => ⟨V', ω, row, v, d, h1, hR _ _ h2, h3⟩⟩
end Go.Vx
/- The plain-data machine, part 14: from the form's reading of the arguments to plain data. -/
namespace Go.Vx
open Go.RowKit Go.ChangeShapes Go.WideShapes
open Go.Proofs.YtaiondckookpiaaGreatDoor (Rows.uptoBulk Rows.uptoBulkAll)

/-! ### Types of plain data -/
/-- What a cell holds: a number, a text, a bool, a slice of rows of such cells. -/
inductive Shp where
  | bool | int (k : IntKind) | str | slice (e : TypeId) (cells : List Shp)
def shpFs (F : TypeId → Option (List Shp)) : Nat → List (Nat × TypeId) → Option (List Shp)
  | _, [] => some []
  | k, (o, t) :: r => match Nat.beq o k, F t with
    | true, some l => (match shpFs F (k + l.length) r with | some m => some (l ++ m) | none => none)
    | _, _ => none
def lenIs (s : Nat) (o : Option (List Shp)) : Option (List Shp) := match o with | some l => (match Nat.beq s l.length with | true => some l | false => none) | none => none
/-- The cells of a type of numbers, texts, bools, structs and slices, all known. -/
def shpC (T : Tab) : Nat → TypeId → Option (List Shp)
  | 0, _ => none
  | f + 1, t => match T t with
    | some ⟨s, _, .bool, _⟩ => lenIs s (some [.bool])
    | some ⟨s, _, .int k, _⟩ => lenIs s (some [.int k])
    | some ⟨s, _, .str, _⟩ => lenIs s (some [.str])
    | some ⟨s, _, .slice e, _⟩ => lenIs s (match shpC T f e with | some l => some [.slice e l] | none => none)
    | some ⟨s, _, .struct fs, _⟩ => lenIs s (shpFs (shpC T f) 0 fs)
    | _ => none
mutual
/-- A cell of such a type; lists and texts of at most B. -/
def TyS (B : Nat) : Shp → D → Prop
  | .bool, d => ∃ p, d = .b p
  | .int k, d => ∃ n, d = .i k n ∧ (Lit.int k n).wf = true
  | .str, d => ∃ l, d = .s l ∧ l.length ≤ B
  | .slice e l, d => ∃ rows room, d = .lst e rows room ∧ rows.length + room.length ≤ B ∧ ∀ r, r ∈ rows ++ room → TySs B l r
/-- .. a row of cells. -/
def TySs (B : Nat) : List Shp → List D → Prop
  | [], [] => True
  | s :: ss, d :: ds => TyS B s d ∧ TySs B ss ds
  | [], _ :: _ => False
  | _ :: _, [] => False
end
/-- .. a value of such a type. -/
def TyA (T : Tab) (B : Nat) (t : TypeId) (l : List Shp) (x : D) : Prop :=
  match T t with
  | some ⟨_, _, .struct _, _⟩ => ∃ row, x = .agg row ∧ TySs B l row
  | _ => TySs B l [x]

theorem TySs.append {B : Nat} : ∀ {ts us : List Shp} {ds es : List D}, TySs B ts ds → TySs B us es → TySs B (ts ++ us) (ds ++ es)
  | [], _, [], _, _, h => h
  | _ :: _, _, _ :: _, _, h, h' => by
    simp only [TySs, List.cons_append] at h ⊢
    exact ⟨h.1, TySs.append h.2 h'⟩
  | [], _, _ :: _, _, h, _ => by simp [TySs] at h
  | _ :: _, _, [], _, h, _ => by simp [TySs] at h
theorem lenIs_some {s : Nat} {o : Option (List Shp)} {l : List Shp} (h : lenIs s o = some l) : o = some l ∧ s = l.length := by
  unfold lenIs at h
  split at h
  · split at h
    · rename_i hb
      cases h
      exact ⟨rfl, Nat.eq_of_beq_eq_true hb⟩
    · cases h
  · cases h
theorem shpC_len {T : Tab} {f : Nat} {t : TypeId} {l : List Shp} (h : shpC T f t = some l) : szOf T t = l.length ∧ ∃ ti, T t = some ti := by
  cases f with
  | zero => simp [shpC] at h
  | succ f =>
    simp only [shpC] at h
    split at h
    all_goals first
      | (cases h)
      | (rename_i ht; have := lenIs_some h; rw [szOf_eq ht]; exact ⟨this.2, _, ht⟩)

section
variable {H : Type} {enc : TypeId × Value → H} {P : Program} {T : Tab} {w : World} {held : Bool}

theorem bulk_mem {d : DataW H} : ∀ {l : List (DataW H)}, d ∈ l → Rows.uptoBulk d ≤ Rows.uptoBulkAll l
  | [], h => by cases h
  | x :: r, h => by
    simp only [Rows.uptoBulkAll]
    rcases List.mem_cons.1 h with rfl | h
    · omega
    · have := bulk_mem h; omega
theorem bulk_one (d : DataW H) : 1 ≤ Rows.uptoBulk d := by
  cases d with
  | lit l => cases l <;> simp [Rows.uptoBulk]
  | _ => simp [Rows.uptoBulk]
theorem bulk_length : ∀ (l : List (DataW H)), l.length ≤ Rows.uptoBulkAll l
  | [] => by simp [Rows.uptoBulkAll]
  | x :: r => by have := bulk_one x; have := bulk_length r; simp only [Rows.uptoBulkAll, List.length_cons]; omega

/-- The cells of one reading, and their data. -/
def CellsR (T : Tab) (w : World) (cs : List Value) (row : List D) : Prop :=
  cs.length = row.length ∧ ∀ (j : Nat) v d, cs[j]? = some v → row[j]? = some d → RI (szOf T) (heapV w) v d ∧ v.oneCell' = true
theorem CellsR.append {cs cs' : List Value} {row row' : List D} (h : CellsR T w cs row) (h' : CellsR T w cs' row') : CellsR T w (cs ++ cs') (row ++ row') := by
  refine ⟨by simp [h.1, h'.1], fun j v d h1 h2 => ?_⟩
  by_cases hj : j < cs.length
  · rw [List.getElem?_append_left hj] at h1
    rw [List.getElem?_append_left (by rw [← h.1]; exact hj)] at h2
    exact h.2 j v d h1 h2
  · rw [List.getElem?_append_right (by omega)] at h1
    rw [List.getElem?_append_right (by rw [← h.1]; omega), ← h.1] at h2
    exact h'.2 _ v d h1 h2
theorem CellsR.one {v : Value} {d : D} (h : RI (szOf T) (heapV w) v d) (h1 : v.oneCell' = true) : CellsR T w [v] [d] := by
  refine ⟨rfl, fun j v' d' h2 h3 => ?_⟩
  cases j with
  | zero => simp at h2 h3; subst h2 h3; exact ⟨h, h1⟩
  | succ j => simp at h2

theorem cells_of (hT : TOk P T) {t : TypeId} (h : ∃ ti, T t = some ti) : szOf T t = P.cellsOf t := by
  obtain ⟨ti, ht⟩ := h
  obtain ⟨i, z, h1, h2, _⟩ := (hT t ti ht).info
  rw [szOf_eq ht]
  simp [Program.cellsOf, h1, h2]
theorem fields_ri {f B : Nat} {k : Nat} (ih : ∀ t cs x l, shpC T f t = some l → (B = maxLen ∨ Rows.uptoBulk x.1 ≤ B) → DataW.trod enc P w 0 (fun _ => true) held k t cs = some x → ∃ row, TySs B l row ∧ CellsR T w cs row)
    (hT : TOk P T) (cs : List Value) :
    ∀ (fs : List (Nat × TypeId)) (o : Nat) (xs : List (DataW H × List MemPlace)) (l : List Shp), shpFs (shpC T f) o fs = some l →
      (B = maxLen ∨ Rows.uptoBulkAll (xs.map (·.1)) ≤ B) → xs.length = fs.length →
      (∀ (i : Nat) p, fs[i]? = some p → DataW.trod enc P w 0 (fun _ => true) held k p.2 ((cs.drop p.1).take (P.cellsOf p.2)) = xs[i]?) →
      cs.length = o + l.length → ∃ row, TySs B l row ∧ CellsR T w (cs.drop o) row
  | [], o, xs, l, h1, _, _, _, hl => ⟨[], by simp [shpFs] at h1; subst h1; simp [TySs], by
      simp [shpFs] at h1
      subst h1
      have : cs.drop o = [] := List.drop_of_length_le (by rw [hl]; simp)
      rw [this]
      exact ⟨rfl, fun j v d h => by simp at h⟩⟩
  | (o', t) :: r, o, xs, l, h1, hB, hxl, hx, hl => by
    simp only [shpFs] at h1
    split at h1
    case h_2 => cases h1
    rename_i l0 hb ht
    split at h1
    case h_2 => cases h1
    rename_i m hm
    cases h1
    have ho : o' = o := Nat.eq_of_beq_eq_true hb
    obtain ⟨hs, hti⟩ := shpC_len ht
    subst ho
    cases xs with
    | nil => simp at hxl
    | cons x0 xs =>
      have h0 := hx 0 _ rfl
      simp only [List.getElem?_cons_zero] at h0
      have hb0 : B = maxLen ∨ Rows.uptoBulk x0.1 ≤ B := by
        rcases hB with hB | hB
        · exact .inl hB
        · right; simp only [List.map_cons, Rows.uptoBulkAll] at hB; omega
      have hb1 : B = maxLen ∨ Rows.uptoBulkAll (xs.map (·.1)) ≤ B := by
        rcases hB with hB | hB
        · exact .inl hB
        · right; simp only [List.map_cons, Rows.uptoBulkAll] at hB; omega
      simp only [List.length_append] at hl
      obtain ⟨row0, a0, r0⟩ := ih _ _ _ _ ht hb0 h0
      obtain ⟨row1, a1, r1⟩ := fields_ri ih hT cs r (o' + l0.length) xs m hm hb1 (by simpa using hxl) (fun i p hp => by
        have := hx (i + 1) p (by simpa using hp)
        simpa using this) (by omega)
      refine ⟨row0 ++ row1, a0.append a1, ?_⟩
      have hc : cs.drop o' = (cs.drop o').take (P.cellsOf t) ++ cs.drop (o' + l0.length) := by
        rw [← cells_of hT hti, hs, ← List.drop_drop, List.take_append_drop]
      rw [hc]
      exact r0.append r1

theorem trod_ri (hT : TOk P T) (B : Nat) (hBm : B ≤ maxLen) : ∀ (f k : Nat) (t : TypeId) (cs : List Value) (x : DataW H × List MemPlace) (l : List Shp), shpC T f t = some l → (B = maxLen ∨ Rows.uptoBulk x.1 ≤ B) →
    DataW.trod enc P w 0 (fun _ => true) held k t cs = some x → ∃ row, TySs B l row ∧ CellsR T w cs row
  | 0, _, _, _, _, _, h, _, _ => by simp [shpC] at h
  | f + 1, k, t, cs, x, l, hok, hB, h => by
    cases ht : T t with
    | none => simp [shpC, ht] at hok
    | some ti =>
      obtain ⟨s, b, kd, z⟩ := ti
      have hG := (hT t _ ht).kind
      cases kd with
      | bool =>
        obtain ⟨v, rfl, rfl⟩ := DataW.trod_bool hG h
        simp only [shpC, ht] at hok
        obtain ⟨hok, _⟩ := lenIs_some hok
        cases hok
        refine ⟨[.b (v = true)], ?_, .one (.b _ _ Iff.rfl) rfl⟩
        simp only [TySs, TyS, and_true]
        exact ⟨_, rfl⟩
      | int kk =>
        obtain ⟨n, rfl, rfl, hw⟩ := DataW.trod_int hG h
        simp only [shpC, ht] at hok
        obtain ⟨hok, _⟩ := lenIs_some hok
        cases hok
        refine ⟨[.i kk n], ?_, .one (.i _ _) rfl⟩
        simp [TySs, TyS, hw]
      | str =>
        obtain ⟨v, rfl, rfl, hl⟩ := DataW.trod_string hG h
        simp only [shpC, ht] at hok
        obtain ⟨hok, _⟩ := lenIs_some hok
        cases hok
        refine ⟨[.s v.data.toList], ?_, .one (by have := RI.s (sz := szOf T) (V := heapV w) v.data.toList; rwa [bstr_data] at this) rfl⟩
        simp only [TySs, TyS, and_true]
        refine ⟨_, rfl, ?_⟩
        have hl' : v.data.toList.length ≤ maxLen := by rw [Array.length_toList]; exact hl
        rcases hB with rfl | hB
        · exact hl'
        · simp only [Rows.uptoBulk] at hB; omega
      | slice e =>
        simp only [shpC, ht] at hok
        obtain ⟨hok, _⟩ := lenIs_some hok
        split at hok
        case h_2 => cases hok
        rename_i le hle
        cases hok
        obtain ⟨hse, hti⟩ := shpC_len hle
        have hce := cells_of hT hti
        rcases Go.Deep.open_slice hG h with ⟨rfl, rfl⟩ | ⟨a, len, cap, m, n, Df, Pl, rfl, _, hlc, hcm, hm, rfl, hx⟩
        · refine ⟨[.lst e [] []], ?_, .one (RI.lst e [] [] none ⟨0, 0, none⟩ 0 (fun _ _ => undef) (by simp) (by unfold maxLen; omega) (by simp) (by simp) (by simp) (by simp) (by simp)) rfl⟩
          simp only [TySs, TyS, and_true]
          exact ⟨[], [], rfl, Nat.zero_le _, fun r hr => by cases hr⟩
        · simp only [if_true] at hm
          subst hm
          have hbi : ∀ i, i < m → (B = maxLen ∨ Rows.uptoBulk (Df i) ≤ B) := by
            intro i hi
            rcases hB with hB | hB
            · exact .inl hB
            · right
              simp only [Rows.uptoBulk] at hB
              by_cases hil : i < len
              · have := bulk_mem (d := Df i) (l := (List.range len).map Df) (List.mem_map.2 ⟨i, by simpa using hil, rfl⟩)
                omega
              · have := bulk_mem (d := Df i) (l := (List.range (m - len)).map fun j => Df (len + j)) (List.mem_map.2 ⟨i - len, by simp; omega, by rw [show len + (i - len) = i by omega]⟩)
                omega
          have hmB : m ≤ B := by
            rcases hB with rfl | hB
            · exact hcm
            · simp only [Rows.uptoBulk] at hB
              have h1 := bulk_length ((List.range len).map Df)
              have h2 := bulk_length ((List.range (m - len)).map fun j => Df (len + j))
              simp at h1 h2
              omega
          have key : ∀ i, i < m → ∃ p : List Value × List D, w.cells? 0 (a.add (i * szOf T e)) (szOf T e) = some p.1 ∧ TySs B le p.2 ∧ CellsR T w p.1 p.2 := by
            intro i hi
            obtain ⟨cs', h1, h2⟩ := hx i hi
            obtain ⟨row, h3, h4⟩ := trod_ri hT B hBm f n e cs' _ le hle (hbi i hi) h2
            exact ⟨(cs', row), by rw [hce]; exact h1, h3, h4⟩
          obtain ⟨g, hg⟩ := Go.Deep.choose_lt key
          have hat : ∀ (i : Nat) row, (((List.range len).map fun i => (g i).2) ++ ((List.range (m - len)).map fun j => (g (len + j)).2))[i]? = some row → i < m ∧ row = (g i).2 := by
            intro i row hr
            by_cases hil : i < len
            · rw [List.getElem?_append_left (by simpa using hil)] at hr
              simp [hil] at hr
              exact ⟨by omega, hr.symm⟩
            · rw [List.getElem?_append_right (by simp; omega)] at hr
              simp only [List.length_map, List.length_range, List.getElem?_map, Option.map_eq_some_iff] at hr
              obtain ⟨j, hj, rfl⟩ := hr
              have hj2 := List.getElem?_eq_some_iff.1 hj
              obtain ⟨hj3, hj4⟩ := hj2
              simp at hj3 hj4
              refine ⟨by omega, by rw [← hj4, show len + (i - len) = i by omega]⟩
          have hcell : ∀ i, i < m → (g i).1.length = szOf T e ∧ ∀ j, j < szOf T e → w.cell? ((a.add (i * szOf T e)).add j) = (g i).1[j]? := by
            intro i hi
            obtain ⟨_, h2, h3⟩ := World.cells?_some (hg i hi).1
            exact ⟨h2, h3⟩
          refine ⟨[.lst e ((List.range len).map fun i => (g i).2) ((List.range (m - len)).map fun j => (g (len + j)).2)], ?_, .one ?_ rfl⟩
          · simp only [TySs, TyS, and_true]
            refine ⟨_, _, rfl, by simp; omega, fun r hr => ?_⟩
            obtain ⟨i, hi⟩ := List.getElem?_of_mem hr
            obtain ⟨h1, rfl⟩ := hat i r hi
            exact (hg i h1).2.1
          · have hres := RI.lst (sz := szOf T) (V := heapV w) e ((List.range len).map fun i => (g i).2) ((List.range (m - len)).map fun j => (g (len + j)).2) (some a) a m (fun i j => (g i).1.getD j undef)
              (by simp; omega) hcm (fun _ => rfl) (fun hno => by cases hno)
              (fun i row hr => by
                obtain ⟨h1, rfl⟩ := hat i row hr
                rw [← (hg i h1).2.2.1, (hcell i h1).1])
              (fun i row j d hr hd => by
                obtain ⟨h1, rfl⟩ := hat i row hr
                have hj : j < (g i).1.length := by rw [(hg i h1).2.2.1]; exact (List.getElem?_eq_some_iff.1 hd).1
                have h2 := (hcell i h1).2 j (by rw [← (hcell i h1).1]; exact hj)
                have hv : (g i).1[j]? = some ((g i).1.getD j undef) := by simp [List.getD, List.getElem?_eq_getElem hj]
                refine ⟨?_, ((hg i h1).2.2.2 j _ d hv hd).2⟩
                show w.cell? _ = _
                rw [← add_add, h2, hv])
              (fun i row j d hr hd => by
                obtain ⟨h1, rfl⟩ := hat i row hr
                have hj : j < (g i).1.length := by rw [(hg i h1).2.2.1]; exact (List.getElem?_eq_some_iff.1 hd).1
                have hv : (g i).1[j]? = some ((g i).1.getD j undef) := by simp [List.getD, List.getElem?_eq_getElem hj]
                exact ((hg i h1).2.2.2 j _ d hv hd).1)
            simpa using hres
      | struct fs =>
        simp only [shpC, ht] at hok
        obtain ⟨hok, hs⟩ := lenIs_some hok
        obtain ⟨fa, hu, hfa⟩ := hG
        obtain ⟨xs, n, _, rfl, hl, hxl, hx⟩ := DataW.trod_struct hu h
        have hc : P.cellsOf t = s := by
          obtain ⟨i, z', h1, h2, _⟩ := (hT t _ ht).info
          simp [Program.cellsOf, h1, h2]
        have hfl : fs.length = fa.size := by rw [← hfa]; simp
        obtain ⟨row, h1, h2⟩ := fields_ri (fun t cs x l a b c => trod_ri hT B hBm f n t cs x l a b c) hT cs fs 0 xs l hok (by
            rcases hB with hB | hB
            · exact .inl hB
            · right; simp only [Rows.uptoBulk] at hB; omega) (by rw [hxl, hfl]) (fun i p hp => by
            rw [← hfa] at hp
            simp only [List.getElem?_map, Option.map_eq_some_iff] at hp
            obtain ⟨fd, h3, rfl⟩ := hp
            exact hx i fd (by simpa using h3)) (by rw [hl, hc, hs, Nat.zero_add])
        exact ⟨row, h1, by simpa using h2⟩
      | array n e => simp [shpC, ht] at hok
      | ptr e => simp [shpC, ht] at hok
      | other => simp [shpC, ht] at hok
end
end Go.Vx
/- The plain-data machine, part 15: a law that answers true for all plain data holds as the given row says it. -/
namespace Go.Vx
open Go.RowKit Go.ChangeShapes Go.WideShapes
open Go.Proofs.YtaiondckookpiaaGreatDoor (Rows.uptoBulk Rows.uptoBulkAll)

def shapes (T : Tab) (f : Nat) : List TypeId → Option (List (List Shp))
  | [] => some []
  | t :: ts => match shpC T f t, shapes T f ts with | some l, some r => some (l :: r) | _, _ => none
def TyAs (T : Tab) (B : Nat) : List TypeId → List (List Shp) → List D → Prop
  | [], [], [] => True
  | t :: ts, l :: ls, x :: xs => TyA T B t l x ∧ TyAs T B ts ls xs
  | _, _, _ => False

section
variable {H : Type} {enc : TypeId × Value → H} {P : Program} {T : Tab} {w : World}

theorem arg_ri (hT : TOk P T) {B : Nat} (hBm : B ≤ maxLen) {f base : Nat} {r : Reach} {t : TypeId} {v : Value} {d : DataW H} {ps : List MemPlace} {l : List Shp} (hs : shpC T f t = some l) (hB : B = maxLen ∨ Rows.uptoBulk d ≤ B)
    (hv : Value.okWide P w r base t v) (h : DataW.Trod enc P w 0 (fun _ => true) true t v d ps) : ∃ x, TyA T B t l x ∧ RI (szOf T) (heapV w) v x := by
  obtain ⟨k, hk⟩ := h
  obtain ⟨row, h1, h2⟩ := trod_ri hT B hBm f k t _ _ l hs hB hk
  obtain ⟨hz, ti, ht⟩ := shpC_len hs
  obtain ⟨s, b, kd, z⟩ := ti
  have hG := (hT t _ ht).kind
  have one : ∀ u, v = u → u.cells = #[u] → TyA T B t l = (fun x => TySs B l [x]) → ∃ x, TyA T B t l x ∧ RI (szOf T) (heapV w) v x := by
    rintro u rfl hu he
    rw [hu] at h2
    obtain ⟨h3, h4⟩ := h2
    match row, h3 with
    | [x], _ => exact ⟨x, by rw [he]; exact h1, (h4 0 v x rfl rfl).1⟩
  cases kd with
  | bool => obtain ⟨u, rfl⟩ := okWide_bool hG hv; exact one _ rfl rfl (by funext x; simp [TyA, ht])
  | int kk => obtain ⟨u, rfl⟩ := okWide_int hG hv; exact one _ rfl rfl (by funext x; simp [TyA, ht])
  | str => obtain ⟨u, rfl⟩ := okWide_string hG hv; exact one _ rfl rfl (by funext x; simp [TyA, ht])
  | slice e => obtain ⟨a, m, n, rfl⟩ := okWide_slice hG hv; exact one _ rfl rfl (by funext x; simp [TyA, ht])
  | struct fs =>
    obtain ⟨fa, hu, _⟩ := hG
    obtain ⟨cs, rfl, _⟩ := okWide_struct hu hv
    refine ⟨.agg row, by simp only [TyA, ht]; exact ⟨row, rfl, h1⟩, ?_⟩
    simp only [Value.cells] at h2
    refine RI.agg row cs (by simpa using h2.1) (fun u hu => ?_) (fun j u d a b => (h2.2 j u d (by simpa using a) b).1)
    obtain ⟨j, hj⟩ := List.getElem?_of_mem hu
    have hl : j < row.length := by rw [← h2.1]; exact (List.getElem?_eq_some_iff.1 hj).1
    exact (h2.2 j u _ hj (List.getElem?_eq_getElem hl)).2
  | array n e => cases f with | zero => simp [shpC] at hs | succ f => simp [shpC, ht] at hs
  | ptr e => cases f with | zero => simp [shpC] at hs | succ f => simp [shpC, ht] at hs
  | other => cases f with | zero => simp [shpC] at hs | succ f => simp [shpC, ht] at hs

theorem args_ri (hT : TOk P T) {B : Nat} (hBm : B ≤ maxLen) {f base : Nat} {r : Reach} : ∀ (ts : List TypeId) (ls : List (List Shp)) (vs : List Value) (ds : List (DataW H)) (ps : List MemPlace), shapes T f ts = some ls →
    (B = maxLen ∨ Rows.uptoBulkAll ds ≤ B) → (∀ (j : Nat) t v, ts[j]? = some t → vs[j]? = some v → Value.okWide P w r base t v) → DataW.TrodAll enc P w 0 (fun _ => true) true ts vs ds ps →
    ∃ xs, TyAs T B ts ls xs ∧ vs.length = xs.length ∧ ∀ (j : Nat) v x, vs[j]? = some v → xs[j]? = some x → RI (szOf T) (heapV w) v x
  | [], ls, vs, ds, ps, hs, _, _, h => by
    obtain ⟨rfl, rfl, rfl⟩ := trodAll_nil h
    cases hs
    exact ⟨[], trivial, rfl, fun j v x h => by simp at h⟩
  | t :: ts, ls, vs, ds, ps, hs, hB, hv, h => by
    obtain ⟨v, vs', d, ds', p, q, rfl, rfl, rfl, h1, h2⟩ := trodAll_cons h
    simp only [shapes] at hs
    split at hs
    case h_2 => cases hs
    rename_i l r h3 h4
    cases hs
    obtain ⟨x, hx1, hx2⟩ := arg_ri hT hBm h3 (by
      rcases hB with hB | hB
      · exact .inl hB
      · right; simp only [Rows.uptoBulkAll] at hB; omega) (hv 0 t v rfl rfl) h1
    obtain ⟨xs, hy1, hy2, hy3⟩ := args_ri hT hBm ts r vs' ds' q h4 (by
      rcases hB with hB | hB
      · exact .inl hB
      · right; simp only [Rows.uptoBulkAll] at hB; omega) (fun j t' v' a b => hv (j + 1) t' v' (by simpa using a) (by simpa using b)) h2
    refine ⟨x :: xs, ⟨hx1, hy1⟩, by simp [hy2], fun j v' x' a b => ?_⟩
    cases j with
    | zero => simp at a b; subst a b; exact hx2
    | succ j => exact hy3 j v' x' (by simpa using a) (by simpa using b)

theorem stays (hl : laidOutB P = true) {W W' : World} (hb : Below W.heap.size W W') {sp : Nat → Bool} : ∀ (ts : List TypeId) (vs : List Value) (ds : List (DataW H)) (ps : List MemPlace), (∀ t ∈ ts, P.readableRec t = true ∧ t < P.types.size) →
    (∀ p ∈ ps, p.block < W.heap.size) → (∀ p ∈ ps, sp p.block = true) → DataW.TrodAll enc P W 0 (fun _ => true) true ts vs ds ps → DataW.TrodAll enc P W' 0 sp true ts vs ds ps
  | [], vs, ds, ps, _, _, _, h => by
    obtain ⟨rfl, rfl, rfl⟩ := trodAll_nil h
    exact trodAll_mk0
  | t :: ts, vs, ds, ps, ht, h1, h2, h => by
    obtain ⟨v, vs', d, ds', p, q, rfl, rfl, rfl, h3, h4⟩ := trodAll_cons h
    refine ⟨p, q, WideElems.Trod_stays hl (ht t (by simp)).1 (ht t (by simp)).2 h3 (fun x hx => hb.same (h1 x (by simp [hx]))) (fun x hx => h2 x (by simp [hx])),
      stays hl hb ts vs' ds' q (fun t' hm => ht t' (by simp [hm])) (fun x hx => h1 x (by simp [hx])) (fun x hx => h2 x (by simp [hx])) h4, rfl⟩

theorem trod_len : ∀ {ts : List TypeId} {vs : List Value} {ds : List (DataW H)} {ps : List MemPlace}, DataW.TrodAll enc P w 0 (fun _ => true) true ts vs ds ps → ds.length = ts.length
  | [], _, _, _, h => by obtain ⟨rfl, rfl, rfl⟩ := trodAll_nil h; rfl
  | _ :: _, _, _, _, h => by
    obtain ⟨v, vs', d, ds', p, q, rfl, rfl, rfl, _, h4⟩ := trodAll_cons h
    simp [trod_len h4]
theorem law_calls (hT : TOk P T) {B : Nat} (hBm : B ≤ maxLen) {f : FuncId} {fn : Func} {s : ChangeSpec} {ls : List (List Shp)} {n : Nat} {tb : TypeId} {ts : List TypeId} (hp : fn.params.toList = ts) (hr : fn.resultTypes = #[tb]) (htb : P.underlying tb = some .bool)
    (hsv : s.vars = []) (hs : ∀ (ds : List (DataW H)), ds.length = ts.length → s.fn H ds = { results := [.lit (.bool true)], args := ds })
    (hl : laidOutB P = true) (hts : ∀ t ∈ ts, P.readableRec t = true ∧ t < P.types.size) (hsh : shapes T n ts = some ls)
    (hlaw : ∀ xs, TyAs T B ts ls xs → FSpec P T f xs (fun d _ => d = .b True))
    (W : World) (base : Nat) (args : Array Value) (ds gs : List (DataW H)) (before : List MemPlace)
    (hval : ∀ (j : Nat) t v, fn.params[j]? = some t → args[j]? = some v → Value.okWide P W .any base t v)
    (hW : DataW.Whole enc P fn.params.toList s.vars false W args.toList ds gs before) (hB : B = maxLen ∨ Rows.uptoBulkAll (ds ++ gs) ≤ B) :
    Calls P f args W fun e W' => ∃ v, e = .returned v ∧ s.post enc P fn false true false false W args v W' := by
  have hlt := hW.lt
  obtain ⟨p, q, hA, hV, rfl, hfz, hnd⟩ := id hW
  rw [hsv] at hV
  obtain ⟨rfl, rfl⟩ := trodVars_none hV
  simp only [List.append_nil] at hlt hB hfz
  rw [hp] at hA
  obtain ⟨xs, h1, h2, h3⟩ := args_ri hT hBm ts ls args.toList ds p hsh hB (fun j t v a b => hval j t v (by rw [← hp] at a; simpa using a) (by simpa using b)) hA
  have hdl : ds.length = ts.length := trod_len hA
  refine ((hlaw xs h1).run (heapV W) W args (fun _ _ h => h) (by simpa using h2) (fun j v d a b => h3 j v d (by simpa using a) b)).mono fun e W' hx => ?_
  obtain ⟨V', ω, row, v, d, rfl, hd, hRS, hres⟩ := hx
  subst hd
  obtain ⟨b, rfl, hbt⟩ := hRS.bool
  have hbt : b = true := hbt.2 trivial
  subst hbt
  refine ⟨_, rfl, ?_⟩
  have hb := hres.below
  have hargs : ∀ sp : Nat → Bool, (∀ x ∈ p, sp x.block = true) → DataW.TrodAll enc P W' 0 sp true fn.params.toList args.toList ds p := fun sp hsp => by
    rw [hp]; exact stays hl hb ts args.toList ds p hts hlt hsp hA
  have hrs : ∀ (b : Nat) (sp : Nat → Bool) (hd : Bool), DataW.TrodAll enc P W' b sp hd fn.resultTypes.toList ((Value.bool true).resultList fn.resultTypes.size) [.lit (.bool true)] [] := fun b sp hd => by
    rw [hr]
    exact trodAll_mk1 (shut_bool htb _)
  have hsf := hs ds hdl
  refine ⟨ds, [], p, [], p, [], by simpa using hW, ?_, ?_, ?_, ?_, ?_⟩
  · rw [List.append_nil, hsf]; exact hrs _ _ _
  · rw [List.append_nil, hsf]; exact hargs _ fun x hx => by simpa using hlt x hx
  · rw [hsv, List.append_nil, hsf]; exact rfl
  · exact World.keptBut_mono (fun x hx => ⟨hx, by simpa using hx⟩) (hb.frame (· ∈ p))
  · intro _
    refine ⟨?_, ?_⟩
    · exact ok_one hr rfl (okWide_bool_mk htb _)
    · refine ⟨_, [], ([] ++ p) ++ [], ⟨[] ++ p, [], trodAll_append (hargs _ (fun _ _ => rfl)) (hrs 0 _ _), ?_, rfl, ?_, fun h => by cases h⟩, fun x hx _ => by simpa using hx⟩
      · rw [hsv]; rfl
      · intro b off hx
        have hin : MemPlace.cell b off ∈ p := by simpa using hx
        rw [hb.frozen (hlt _ hin)]
        exact hfz b off hin
end
end Go.Vx
/- The plain-data machine, part 17: lists of rows us lists of things. -/
namespace Go.Vx
open Go.RowKit
theorem ss_cons {B : Nat} {s : Shp} {ss : List Shp} {r : List D} (h : TySs B (s :: ss) r) : ∃ d ds, r = d :: ds ∧ TySs B [s] [d] ∧ TySs B ss ds := by
  cases r with
  | nil => simp [TySs] at h
  | cons d ds => simp only [TySs] at h; exact ⟨d, ds, rfl, by simpa only [TySs, and_true] using h.1, h.2⟩
theorem ss_nil {B : Nat} {r : List D} (h : TySs B [] r) : r = [] := by
  cases r with
  | nil => rfl
  | cons d ds => simp [TySs] at h
theorem as_cons {T : Tab} {B : Nat} {t : TypeId} {ts : List TypeId} {l : List Shp} {ls : List (List Shp)} {xs : List D} (h : TyAs T B (t :: ts) (l :: ls) xs) : ∃ x r, xs = x :: r ∧ TyA T B t l x ∧ TyAs T B ts ls r := by
  cases xs with
  | nil => exact h.elim
  | cons x r => exact ⟨x, r, rfl, h.1, h.2⟩
theorem as_nil {T : Tab} {B : Nat} {xs : List D} (h : TyAs T B [] [] xs) : xs = [] := by
  cases xs with
  | nil => rfl
  | cons x r => exact h.elim
def isSt : Option TI → Bool | some ⟨_, _, .struct _, _⟩ => true | _ => false
theorem leaf {T : Tab} {B : Nat} {t : TypeId} {l : List Shp} {x : D} (h : TyA T B t l x) (ht : isSt (T t) = false) : TySs B l [x] := by
  unfold TyA at h
  split at h
  · rename_i h1; rw [h1] at ht; cases ht
  · exact h
theorem agg_of {T : Tab} {B : Nat} {t : TypeId} {l : List Shp} {x : D} (h : TyA T B t l x) (ht : isSt (T t) = true) : ∃ row, x = .agg row ∧ TySs B l row := by
  unfold TyA at h
  split at h
  · exact h
  · rename_i h1
    exfalso
    unfold isSt at ht
    split at ht
    · rename_i h2; exact h1 _ _ _ _ h2
    · cases ht
theorem bool_of {B : Nat} {x : D} (h : TySs B [.bool] [x]) : ∃ p, x = .b p := by
  simpa only [TySs, TyS, and_true] using h
theorem list_of {α : Type} {f : α → List D} {p : α → Prop} : ∀ {rows : List (List D)}, (∀ r ∈ rows, ∃ a, r = f a ∧ p a) → ∃ l : List α, rows = l.map f ∧ ∀ a ∈ l, p a
  | [], _ => ⟨[], rfl, by simp⟩
  | r :: rows, h => by
    obtain ⟨a, rfl, ha⟩ := h r (by simp)
    obtain ⟨l, rfl, hl⟩ := list_of (rows := rows) fun r hr => h r (by simp [hr])
    exact ⟨a :: l, rfl, by simpa using ⟨ha, hl⟩⟩
theorem lst_of {B : Nat} {α : Type} {f : α → List D} {p : α → Prop} {e : TypeId} {l : List Shp} {x : D} (h : TySs B [.slice e l] [x]) (hf : ∀ r, TySs B l r → ∃ a, r = f a ∧ p a) :
    ∃ (us : List α) (room : List α), x = .lst e (us.map f) (room.map f) ∧ us.length + room.length ≤ B ∧ (∀ a ∈ us, p a) ∧ ∀ a ∈ room, p a := by
  simp only [TySs, TyS, and_true] at h
  obtain ⟨rows, room, rfl, hl, hr⟩ := h
  obtain ⟨us, rfl, h1⟩ := list_of (f := f) (p := p) (rows := rows) fun r h => hf r (hr r (by simp [h]))
  obtain ⟨bs, rfl, h2⟩ := list_of (f := f) (p := p) (rows := room) fun r h => hf r (hr r (by simp [h]))
  exact ⟨us, bs, rfl, by simpa using hl, h1, h2⟩
theorem int_of {B : Nat} {k : IntKind} {x : D} (h : TySs B [.int k] [x]) : ∃ n, x = .i k n ∧ (Lit.int k n).wf = true := by
  simpa only [TySs, TyS, and_true] using h
theorem str_of {B : Nat} {x : D} (h : TySs B [.str] [x]) : ∃ l, x = .s l ∧ l.length ≤ B := by
  simpa only [TySs, TyS, and_true] using h
theorem ints_of {B : Nat} {k : IntKind} {e : TypeId} {x : D} (h : TySs B [.slice e [.int k]] [x]) : ∃ (us : List Int) (room : List Int), x = .lst e (us.map fun n => [.i k n]) (room.map fun n => [.i k n]) ∧ us.length + room.length ≤ B ∧
    (∀ n ∈ us, (Lit.int k n).wf = true) ∧ ∀ n ∈ room, (Lit.int k n).wf = true :=
  lst_of h fun r hr => by
    obtain ⟨x, _, rfl, h1, h2⟩ := ss_cons hr
    obtain rfl := ss_nil h2
    obtain ⟨n, rfl, h⟩ := int_of h1
    exact ⟨n, rfl, h⟩
theorem wf64 {n : Int} (h : (Lit.int .i64 n).wf = true) : -9223372036854775808 ≤ n ∧ n ≤ 9223372036854775807 := by
  simpa [Lit.wf, IntKind.min, IntKind.max, IntKind.signed, IntKind.bits] using h
end Go.Vx
