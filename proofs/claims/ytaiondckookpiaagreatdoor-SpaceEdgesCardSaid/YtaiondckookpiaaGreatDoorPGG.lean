/- The walks and the plain laws that a law of spaces needs, part 7 of 7. -/
import Derived.Test.YtaiondckookpiaaGreatDoorPGF
set_option linter.unusedVariables false
set_option linter.unusedSimpArgs false
namespace Go.Proofs.YtaiondckookpiaaGreatDoor
open Go Go.Vx
set_option maxRecDepth 100000 in
set_option maxHeartbeats 8000000 in
theorem least_at {n : Int} {ts : List Term} (hf : Fine n ts) (ks : List TR) (rm : List (List D)) (h1 : ks.map TR.t = ts) (limit : Int) :
    FSpec Tryz.prog T 39 [.agg [.i .i64 n, .lst 112 (ks.map trow) rm], .i .i64 limit] (LOut (lstO (expO n ts limit))) := by
  have hex := expand_at hf ks rm h1 limit
  have hal := expO_all (limit := limit) hf
  generalize expO n ts limit = o at *
  obtain ⟨x, l⟩ := o
  dsimp only at hal
  obtain ⟨hal, hll⟩ := hal
  have hlm : (l.map crow).length = l.length := by simp
  replace hex : FSpec Tryz.prog T 34 [.agg [.i .i64 n, .lst 112 (ks.map trow) rm], .i .i64 limit] (fun d rows => rows = [] ∧ ∃ rm, d = .tup [.lst 46 (l.map crow) rm, .i .i64 x]) := hex
  refine FSpec.of_ok tok Tryz.func39 rfl Tryz.call39 (by simp) ?_
  by_cases hx : x = 0
  · subst hx
    rw [show lstO (0, l) = (0, lsts l) from if_pos rfl]
    (try (conv => whnf)); repeat' (first | refine Ok.seq ?_ | refine OkL.cons ?_ | ((first | refine Ok.region tok ?_ | refine Ok.region_draw tok follows (by kernel_rfl) ?_ | refine Ok.cond ?_); conv => whnf) | refine Ok.block ?_ | ((first | refine Ok.skip ?_ | refine Ok.exit ?_ | refine Ok.ret ?_ | refine nI ?_ | refine ix _ (by assumption) ?_ | refine ixI (by omega) (by assumption) ?_ | refine ix_new _ (by omega) fun _ _ => ?_ | refine ixI_new (by omega) (by omega) fun _ _ => ?_ | refine ⟨_, by assumption, ?_⟩); conv => whnf) | (refine Or.inr (Or.inl ?_); (conv => whnf); (repeat (refine aI ?_; conv => whnf)); refine ⟨_, hex , ?_⟩; rintro _ _ ⟨rfl, rm5, rfl⟩ <;> (conv => whnf)) | ((first | refine Alt2.l (aI ?_) | refine Alt2.r (aI ?_)); conv => whnf) | (refine Ok.scope ?_) | ((first | refine Ok.label ?_ | refine rd rfl (by assumption) ?_ | refine ⟨_, .inl ⟨rfl, rfl⟩, ?_⟩ | refine ⟨_, _, rfl, rfl, ?_⟩); conv => whnf) | (refine ⟨fun _ => ?_, fun _ => ?_⟩ <;> (conv => whnf) <;> (try (exfalso; omega))) | ((first | refine aJ ?_ | refine num_any ?_ | refine ⟨_, rfl, ?_⟩); conv => whnf) | fail)
    all_goals first
      | (rename_i h; exact absurd rfl h)
      | skip
    refine Ok.loopU [9, 22, 23] [24] 0 2 (fun (i : Nat) => [.i .i64 (i : Nat)]) (fun (i : Nat) (_ : List (List D)) => [[.i .i64 n, .lst 112 (ks.map trow) rm], [.s (lsts (l.take i))]]) (fun _ r => r) (fun (i : Nat) => i ≤ l.length) (fun (i : Nat) => l.length - i) (0) (Nat.zero_le _) ?_; (conv => whnf); refine ⟨by ((conv => whnf); first | rfl | (simp [envCat, List.take_of_length_le, crow, trow, srow, drow]; done) | (simp [envCat, List.take_of_length_le, crow, trow, srow, drow]; rw [IntKind.wrap_i64]; omega)), ?_⟩
    rintro i hi
    (conv => whnf)
    by_cases hil : i < l.length
    · obtain ⟨c, hc⟩ : ∃ c, l[i]? = some c := ⟨_, List.getElem?_eq_getElem hil⟩
      have hcI : l[((i : Nat) : Int).toNat]? = some c := hc
      have hcw := hal c (List.mem_of_getElem? hc)
      have hsn := lsts_snoc hc
      generalize hbst : lsts (l.take i) = bst at *
      (try (conv => whnf)); repeat' (first | refine Ok.seq ?_ | refine OkL.cons ?_ | ((first | refine Ok.region tok ?_ | refine Ok.region_draw tok follows (by kernel_rfl) ?_ | refine Ok.cond ?_); conv => whnf) | refine Ok.block ?_ | ((first | refine Ok.skip ?_ | refine Ok.exit ?_ | refine Ok.ret ?_ | refine nI ?_ | refine ix _ (by assumption) ?_ | refine ixI (by omega) (by assumption) ?_ | refine ix_new _ (by omega) fun _ _ => ?_ | refine ixI_new (by omega) (by omega) fun _ _ => ?_ | refine ⟨_, by assumption, ?_⟩); conv => whnf) | (refine Or.inr (Or.inl ?_); (conv => whnf); (repeat (refine aI ?_; conv => whnf)); refine ⟨_, memb_at c, ?_⟩; rintro _ _ ⟨rfl, rfl⟩ <;> (conv => whnf)) | ((first | refine Alt2.l (aI ?_) | refine Alt2.r (aI ?_)); conv => whnf) | (refine Ok.scope ?_) | ((first | refine Ok.label ?_ | refine rd rfl (by assumption) ?_ | refine ⟨_, .inl ⟨rfl, rfl⟩, ?_⟩ | refine ⟨_, _, rfl, rfl, ?_⟩); conv => whnf) | (refine ⟨fun _ => ?_, fun _ => ?_⟩ <;> (conv => whnf) <;> (try (exfalso; omega))) | ((first | refine aJ ?_ | refine num_any ?_ | refine ⟨_, rfl, ?_⟩); conv => whnf) | fail)
      all_goals first
        | (exfalso; omega)
        | skip
      refine Ok.rangeI [9, 22, 23, 24, 29] 0 2 (fun _ => ⟨[(9, .bp 1 0), (22, .lst 46 (l.map crow) rm5), (23, .i .i64 (l.map crow).length), (24, .i .i64 (i : Nat)), (29, .fn 128 [] [.ep (crow c)])], [[.i .i64 n, .lst 112 (ks.map trow) rm], [.s bst]], [], 43⟩) (· = 0) rfl (by
        (conv => whnf)
        rfl) rfl (memb_seq c hcw.1) (fun _ => rfl) (by simp) ?_ ?_
      · rintro k x hxk rfl
        obtain rfl : [D.s (leastL c)] = x := by simpa using hxk
        refine ⟨rfl, ?_⟩
        (conv => whnf)
        (try (conv => whnf)); repeat' (first | refine OkR.seq ?_ | refine OkL.cons ?_ | ((first | refine OkR.region tok ?_ | refine OkR.cond ?_); conv => whnf) | refine OkR.block ?_ | ((first | refine OkR.skip ?_ | refine OkR.exit ?_ | refine OkR.ret ?_ | refine nI ?_ | refine ix _ (by assumption) ?_ | refine ixI (by omega) (by assumption) ?_ | refine ix_new _ (by omega) fun _ _ => ?_ | refine ixI_new (by omega) (by omega) fun _ _ => ?_ | refine ⟨_, by assumption, ?_⟩ | refine Alt2.l (aI ?_) | refine Alt2.r (aI ?_)); conv => whnf) | (refine OkR.scope ?_) | ((first | refine OkR.label ?_ | refine rd rfl (by assumption) ?_ | refine ⟨_, .inl ⟨rfl, rfl⟩, ?_⟩ | refine ⟨_, _, rfl, rfl, ?_⟩); conv => whnf) | (refine ⟨fun _ => ?_, fun _ => ?_⟩ <;> (conv => whnf) <;> (try (exfalso; omega))) | ((first | refine aJ ?_ | refine num_any ?_ | refine ⟨_, rfl, ?_⟩); conv => whnf) | fail)
        all_goals first
          | (rw [lstep_yes (.inl (by assumption))] at hsn
             (try (conv => whnf)); repeat' (first | refine Ok.seq ?_ | refine OkL.cons ?_ | ((first | refine Ok.region tok ?_ | refine Ok.region_draw tok follows (by kernel_rfl) ?_ | refine Ok.cond ?_); conv => whnf) | refine Ok.block ?_ | ((first | refine Ok.skip ?_ | refine Ok.exit ?_ | refine Ok.ret ?_ | refine nI ?_ | refine ix _ (by assumption) ?_ | refine ixI (by omega) (by assumption) ?_ | refine ix_new _ (by omega) fun _ _ => ?_ | refine ixI_new (by omega) (by omega) fun _ _ => ?_ | refine ⟨_, by assumption, ?_⟩ | refine Alt2.l (aI ?_) | refine Alt2.r (aI ?_)); conv => whnf) | (refine Ok.scope ?_) | ((first | refine Ok.label ?_ | refine rd rfl (by assumption) ?_ | refine ⟨_, .inl ⟨rfl, rfl⟩, ?_⟩ | refine ⟨_, _, rfl, rfl, ?_⟩); conv => whnf) | (refine ⟨fun _ => ?_, fun _ => ?_⟩ <;> (conv => whnf) <;> (try (exfalso; omega))) | ((first | refine aJ ?_ | refine num_any ?_ | refine ⟨_, rfl, ?_⟩); conv => whnf) | fail)
             refine ⟨i + 1, by omega, by omega, ?_⟩
             rw [hsn]
             (conv => whnf)
             rfl)
          | (rw [lstep_yes (.inr (by assumption))] at hsn
             (try (conv => whnf)); repeat' (first | refine Ok.seq ?_ | refine OkL.cons ?_ | ((first | refine Ok.region tok ?_ | refine Ok.region_draw tok follows (by kernel_rfl) ?_ | refine Ok.cond ?_); conv => whnf) | refine Ok.block ?_ | ((first | refine Ok.skip ?_ | refine Ok.exit ?_ | refine Ok.ret ?_ | refine nI ?_ | refine ix _ (by assumption) ?_ | refine ixI (by omega) (by assumption) ?_ | refine ix_new _ (by omega) fun _ _ => ?_ | refine ixI_new (by omega) (by omega) fun _ _ => ?_ | refine ⟨_, by assumption, ?_⟩ | refine Alt2.l (aI ?_) | refine Alt2.r (aI ?_)); conv => whnf) | (refine Ok.scope ?_) | ((first | refine Ok.label ?_ | refine rd rfl (by assumption) ?_ | refine ⟨_, .inl ⟨rfl, rfl⟩, ?_⟩ | refine ⟨_, _, rfl, rfl, ?_⟩); conv => whnf) | (refine ⟨fun _ => ?_, fun _ => ?_⟩ <;> (conv => whnf) <;> (try (exfalso; omega))) | ((first | refine aJ ?_ | refine num_any ?_ | refine ⟨_, rfl, ?_⟩); conv => whnf) | fail)
             refine ⟨i + 1, by omega, by omega, ?_⟩
             rw [hsn]
             (conv => whnf)
             rfl)
          | (rename_i ha hb
             rw [lstep_no (fun h => h.elim ha hb)] at hsn
             (try (conv => whnf)); repeat' (first | refine Ok.seq ?_ | refine OkL.cons ?_ | ((first | refine Ok.region tok ?_ | refine Ok.region_draw tok follows (by kernel_rfl) ?_ | refine Ok.cond ?_); conv => whnf) | refine Ok.block ?_ | ((first | refine Ok.skip ?_ | refine Ok.exit ?_ | refine Ok.ret ?_ | refine nI ?_ | refine ix _ (by assumption) ?_ | refine ixI (by omega) (by assumption) ?_ | refine ix_new _ (by omega) fun _ _ => ?_ | refine ixI_new (by omega) (by omega) fun _ _ => ?_ | refine ⟨_, by assumption, ?_⟩ | refine Alt2.l (aI ?_) | refine Alt2.r (aI ?_)); conv => whnf) | (refine Ok.scope ?_) | ((first | refine Ok.label ?_ | refine rd rfl (by assumption) ?_ | refine ⟨_, .inl ⟨rfl, rfl⟩, ?_⟩ | refine ⟨_, _, rfl, rfl, ?_⟩); conv => whnf) | (refine ⟨fun _ => ?_, fun _ => ?_⟩ <;> (conv => whnf) <;> (try (exfalso; omega))) | ((first | refine aJ ?_ | refine num_any ?_ | refine ⟨_, rfl, ?_⟩); conv => whnf) | fail)
             refine ⟨i + 1, by omega, by omega, ?_⟩
             rw [hsn]
             (conv => whnf)
             rfl)
      · intro h
        cases h
    · have hie : i = l.length := by omega
      subst hie
      rw [List.take_length]
      generalize lsts l = bst
      (try (conv => whnf)); repeat' (first | refine Ok.seq ?_ | refine OkL.cons ?_ | ((first | refine Ok.region tok ?_ | refine Ok.region_draw tok follows (by kernel_rfl) ?_ | refine Ok.cond ?_); conv => whnf) | refine Ok.block ?_ | ((first | refine Ok.skip ?_ | refine Ok.exit ?_ | refine Ok.ret ?_ | refine nI ?_ | refine ix _ (by assumption) ?_ | refine ixI (by omega) (by assumption) ?_ | refine ix_new _ (by omega) fun _ _ => ?_ | refine ixI_new (by omega) (by omega) fun _ _ => ?_ | refine ⟨_, by assumption, ?_⟩ | refine Alt2.l (aI ?_) | refine Alt2.r (aI ?_)); conv => whnf) | (refine Ok.scope ?_) | ((first | refine Ok.label ?_ | refine rd rfl (by assumption) ?_ | refine ⟨_, .inl ⟨rfl, rfl⟩, ?_⟩ | refine ⟨_, _, rfl, rfl, ?_⟩); conv => whnf) | (refine ⟨fun _ => ?_, fun _ => ?_⟩ <;> (conv => whnf) <;> (try (exfalso; omega))) | ((first | refine aJ ?_ | refine num_any ?_ | refine ⟨_, rfl, ?_⟩); conv => whnf) | fail)
      all_goals first
        | (exfalso; omega)
        | skip
      refine Or.inl ?_; (conv => whnf)
      rfl
  · rw [show lstO (x, l) = (x, []) from if_neg hx]
    (try (conv => whnf)); repeat' (first | refine Ok.seq ?_ | refine OkL.cons ?_ | ((first | refine Ok.region tok ?_ | refine Ok.region_draw tok follows (by kernel_rfl) ?_ | refine Ok.cond ?_); conv => whnf) | refine Ok.block ?_ | ((first | refine Ok.skip ?_ | refine Ok.exit ?_ | refine Ok.ret ?_ | refine nI ?_ | refine ix _ (by assumption) ?_ | refine ixI (by omega) (by assumption) ?_ | refine ix_new _ (by omega) fun _ _ => ?_ | refine ixI_new (by omega) (by omega) fun _ _ => ?_ | refine ⟨_, by assumption, ?_⟩); conv => whnf) | (refine Or.inr (Or.inl ?_); (conv => whnf); (repeat (refine aI ?_; conv => whnf)); refine ⟨_, hex , ?_⟩; rintro _ _ ⟨rfl, rm5, rfl⟩ <;> (conv => whnf)) | ((first | refine Alt2.l (aI ?_) | refine Alt2.r (aI ?_)); conv => whnf) | (refine Ok.scope ?_) | ((first | refine Ok.label ?_ | refine rd rfl (by assumption) ?_ | refine ⟨_, .inl ⟨rfl, rfl⟩, ?_⟩ | refine ⟨_, _, rfl, rfl, ?_⟩); conv => whnf) | (refine ⟨fun _ => ?_, fun _ => ?_⟩ <;> (conv => whnf) <;> (try (exfalso; omega))) | ((first | refine aJ ?_ | refine num_any ?_ | refine ⟨_, rfl, ?_⟩); conv => whnf) | fail)
    all_goals first
      | (rename_i h; exact absurd hx h)
      | (refine Or.inl ?_; (conv => whnf)
         exact congrArg (fun p => D.tup [D.s [], D.b p, D.i .i64 x]) (propext ⟨False.elim, fun h => h rfl⟩))
end Go.Proofs.YtaiondckookpiaaGreatDoor
namespace Go.Proofs.YtaiondckookpiaaGreatDoor
open Go Go.Vx
section
variable {α : Type} {R L : α → α → Prop} {r b : α → α → Bool}
def addB (r : α → α → Bool) (k : List α) (x : α) : List α := if k.any (r x) = true then k else k.filter (fun y => !r y x) ++ [x]
def grB (r : α → α → Bool) (l : List α) : List α := l.foldl (addB r) []
def insB (b : α → α → Bool) (c : α) : List α → List α
  | [] => [c]
  | x :: q => if b c x = true then c :: x :: q else x :: insB b c q
def putB (r b : α → α → Bool) (k : List α) (c : α) : List α := if k.any (r c) = true then k else insB b c (k.filter fun x => !r x c)
def srtB (b : α → α → Bool) (l : List α) : List α := l.foldl (fun acc x => insB b x acc) []
theorem filt_eq (h : ∀ x y, R x y ↔ r x y = true) (k : List α) (x : α) [∀ y, Decidable (¬ R y x)] : k.filter (fun y => decide (¬ R y x)) = k.filter (fun y => !r y x) := by
  refine List.filter_congr fun y _ => ?_
  cases hr : r y x with
  | true => simp [(h y x).2 hr]
  | false =>
    have hn : ¬ R y x := fun e => by rw [(h y x).1 e] at hr; cases hr
    simp [hn]
theorem any_eq (h : ∀ x y, R x y ↔ r x y = true) (k : List α) (x : α) : (∃ y ∈ k, R x y) ↔ k.any (r x) = true := by simp [h]
theorem addG_eq (h : ∀ x y, R x y ↔ r x y = true) (k : List α) (x : α) : addG R k x = addB r k x := by
  unfold addG addB
  by_cases hk : k.any (r x) = true
  · rw [if_pos ((any_eq h k x).2 hk), if_pos hk]
  · rw [if_neg (fun e => hk ((any_eq h k x).1 e)), if_neg hk, filt_eq h]
theorem grG_eq (h : ∀ x y, R x y ↔ r x y = true) (l : List α) : grG R l = grB r l := by
  have e : addG R = addB r := by funext k x; exact addG_eq h k x
  unfold grG grB
  rw [e]
theorem insG_eq (h : ∀ x y, L x y ↔ b x y = true) (c : α) : ∀ l : List α, insG L c l = insB b c l
  | [] => rfl
  | x :: q => by
    unfold insG insB
    by_cases hk : b c x = true
    · rw [if_pos ((h c x).2 hk), if_pos hk]
    · rw [if_neg (fun e => hk ((h c x).1 e)), if_neg hk, insG_eq h c q]
theorem putG_eq (h : ∀ x y, R x y ↔ r x y = true) (h2 : ∀ x y, L x y ↔ b x y = true) (k : List α) (c : α) : putG R L k c = putB r b k c := by
  unfold putG putB
  by_cases hk : k.any (r c) = true
  · rw [if_pos ((any_eq h k c).2 hk), if_pos hk]
  · rw [if_neg (fun e => hk ((any_eq h k c).1 e)), if_neg hk, filt_eq h, insG_eq h2]
theorem srt_eq (h : ∀ x y, L x y ↔ b x y = true) (l : List α) : srt L l = srtB b l := by
  unfold srt srtB
  congr 1
  funext acc x
  exact insG_eq h x acc
end
def inB : Str → Str → Bool
  | [], [] => true
  | a :: c, b :: d => (b == 120 || b == a) && inB c d
  | _, _ => false
theorem inL_b : ∀ c d : Str, inL c d ↔ inB c d = true
  | [], [] => by simp [inL, inB]
  | [], _ :: _ => by simp [inL, inB]
  | _ :: _, [] => by simp [inL, inB]
  | a :: c, b :: d => by simp [inL, inB, inL_b c d]
def inTB (c d : Str) : Bool := !c.isEmpty && inB c d
theorem inT_b (c d : Str) : inT c d ↔ inTB c d = true := by
  unfold inT inTB
  rw [inL_b]
  cases c <;> simp
theorem blt_b (c d : Str) : blt c d ↔ Op.bytesLess c d = true := .rfl
def termB (p : Str) (less : List Str) : Option Term := if (metL p less).foldl (putB inB Op.bytesLess) [] = [p] then none else some ⟨p, (metL p less).foldl (putB inB Op.bytesLess) []⟩
theorem termT_b (p : Str) (less : List Str) : termT p less = termB p less := by
  have e : putG inL blt = putB inB Op.bytesLess := by funext k c; exact putG_eq inL_b blt_b k c
  unfold termT termB
  rw [e]
def covB (t u : Term) : Bool := inTB t.p u.p && u.less.all fun m => match meetT m t.p with | none => true | some c => t.less.any fun n => inTB c n
theorem covT_b (t u : Term) : covT t u ↔ covB t u = true := by
  unfold covT covB
  rw [inT_b, Bool.and_eq_true, List.all_eq_true]
  refine and_congr_right fun _ => forall_congr' fun m => forall_congr' fun _ => ?_
  cases meetT m t.p with
  | none => simp
  | some c => simp [inT_b]
def lexB : List Str → List Str → Bool
  | _, [] => false
  | [], _ :: _ => true
  | x :: a, y :: b => Op.bytesLess x y || (x == y && lexB a b)
theorem lexL_b : ∀ a b : List Str, lexL a b ↔ lexB a b = true
  | a, [] => by cases a <;> simp [lexL, lexB]
  | [], _ :: _ => by simp [lexL, lexB]
  | x :: a, y :: b => by simp [lexL, lexB, lexL_b a b]
def formB (l : List Term) : List Term := srtB (fun t u => lexB (t.p :: t.less) (u.p :: u.less)) (grB covB l)
theorem formT_b (l : List Term) : formT l = formB l := by
  unfold formT formB
  rw [grG_eq covT_b]
  exact srt_eq (L := aheadT) (b := fun t u => lexB (t.p :: t.less) (u.p :: u.less)) (fun t u => lexL_b _ _) _
theorem trms_b (ms : List (List Str)) : trms ms = ms.filterMap fun m => termB (m.headD []) m.tail := by
  unfold trms
  congr 1
  funext m
  exact termT_b _ _
instance (n : Int) (w : Str) : Decidable (OkW n w) := decidable_of_iff ((w.length : Int) = n ∧ (w.length ≤ 256 ∧ ∀ b ∈ w, b = 48 ∨ b = 49 ∨ b = 120) ∧ w ≠ []) ⟨fun h => ⟨h.1, ⟨h.2.1.1, h.2.1.2⟩, h.2.2⟩, fun h => ⟨h.1, ⟨h.2.1.1, h.2.1.2⟩, h.2.2⟩⟩
instance (n : Int) (ms : List (List Str)) : Decidable (OkP n ms) := inferInstanceAs (Decidable (∀ m ∈ ms, ∀ w ∈ m, OkW n w))
def exS : Str := [49, 48, 120, 120, 45, 49, 49, 49, 49, 45, 49, 48, 49, 120, 45, 49, 48, 49, 48, 43, 48, 120, 120, 120, 45, 49, 120, 120, 120]
def exT : List Term := [⟨[48, 120, 120, 120], []⟩, ⟨[49, 48, 120, 120], [[49, 48, 49, 120]]⟩]
theorem ex_form : formB ((pieces exS).filterMap fun m => termB (m.headD []) m.tail) = exT := by
  kernel_rfl
theorem parO_ex : parO 4 exS = (0, 4, exT) := by
  unfold parO
  rw [if_neg (by decide), if_neg (by decide), if_neg (by decide), if_neg (fun h => h (by decide)), if_neg (by decide), formT_b, trms_b, ex_form]
theorem text_ex : textS exT = [48, 120, 120, 120, 43, 49, 48, 120, 120, 45, 49, 48, 49, 120] := by
  unfold textS
  rw [if_neg (by simp [exT])]
  decide
theorem sptext_at {n : Int} {ts : List Term} (hf : Fine n ts) (ks : List TR) (rm : List (List D)) (h1 : ks.map TR.t = ts) : FSpec Tryz.prog T 59 [.agg [.i .i64 n, .lst 112 (ks.map trow) rm]] (fun d _ => d = .s (textS ts)) := by
  have h := text2_at n.toNat ks (room := rm) (hf.sp h1) rfl
  rw [hf.cast, h1] at h
  exact h
theorem spsize_at {n : Int} {ts : List Term} (hf : Fine n ts) (ks : List TR) (rm : List (List D)) (h1 : ks.map TR.t = ts) : FSpec Tryz.prog T 60 [.agg [.i .i64 n, .lst 112 (ks.map trow) rm]] (fun d _ => d = .i .i64 (szT ts : Nat)) := by
  have h := size_at n ks (room := rm) (hf.mlen h1) (hf.mless h1) rfl
  rw [h1] at h
  exact h
set_option maxHeartbeats 4000000 in
theorem awake_at : FSpec Tryz.prog T 43 [] (fun r _ => r = .b True) := by
  have hp := parse2_at 4 exS
  have hf := parO_fine 4 exS
  unfold POut at hp
  rw [parO_ex] at hp hf
  have htx := fun ks rm h1 => sptext_at hf ks rm h1
  have hsz := fun ks rm h1 => spsize_at hf ks rm h1
  dsimp only at hp htx hsz
  rw [text_ex] at htx
  rw [show szT exT = 3 from rfl] at hsz
  refine FSpec.of_ok tok Tryz.func43 rfl Tryz.call43 (by simp) ?_
  (try (conv => whnf)); repeat' (first | refine Ok.seq ?_ | refine OkL.cons ?_ | ((first | refine Ok.region tok ?_ | refine Ok.region_draw tok follows (by kernel_rfl) ?_ | refine Ok.cond ?_); conv => whnf) | refine Ok.block ?_ | ((first | refine Ok.skip ?_ | refine Ok.exit ?_ | refine Ok.ret ?_ | refine nI ?_ | refine ix _ (by assumption) ?_ | refine ixI (by omega) (by assumption) ?_ | refine ix_new _ (by omega) fun _ _ => ?_ | refine ixI_new (by omega) (by omega) fun _ _ => ?_ | refine ⟨_, by assumption, ?_⟩); conv => whnf) | (refine Or.inl ?_; (conv => whnf); (repeat (refine aI ?_; conv => whnf)); refine ⟨_, htx ks rm hk, rfl, ?_⟩; conv => whnf) | (refine Or.inl ?_; (conv => whnf); (repeat (refine aI ?_; conv => whnf)); refine ⟨_, hsz ks rm hk, rfl, ?_⟩; conv => whnf) | (refine Or.inl ?_; (conv => whnf); (repeat (refine aI ?_; conv => whnf)); refine ⟨_, bits_at 4 (.lst 112 (ks.map trow) rm) ⟨_, _, _, rfl⟩, rfl, ?_⟩; conv => whnf) | ((first | refine ⟨_, htx ks rm hk, rfl, ?_⟩ | refine ⟨_, hsz ks rm hk, rfl, ?_⟩ | refine ⟨_, bits_at 4 (.lst 112 (ks.map trow) rm) ⟨_, _, _, rfl⟩, rfl, ?_⟩); conv => whnf) | (refine Or.inr (Or.inl ?_); (conv => whnf); (repeat (refine aI ?_; conv => whnf)); refine ⟨_, htx ks rm hk, ?_⟩; rintro _ _ ⟨rfl, rfl⟩; conv => whnf) | (refine Or.inr (Or.inl ?_); (conv => whnf); (repeat (refine aI ?_; conv => whnf)); refine ⟨_, hsz ks rm hk, ?_⟩; rintro _ _ ⟨rfl, rfl⟩; conv => whnf) | (refine Or.inr (Or.inl ?_); (conv => whnf); (repeat (refine aI ?_; conv => whnf)); refine ⟨_, bits_at 4 (.lst 112 (ks.map trow) rm) ⟨_, _, _, rfl⟩, ?_⟩; rintro _ _ ⟨rfl, rfl⟩; conv => whnf) | (refine Or.inr (Or.inl ?_); (conv => whnf); (repeat (refine aI ?_; conv => whnf)); refine ⟨_, hp , ?_⟩; rintro _ _ ⟨rfl, _, rfl, ks, rm, rfl, hk⟩ <;> (conv => whnf)) | ((first | refine Alt2.l (aI ?_) | refine Alt2.r (aI ?_)); conv => whnf) | (refine Ok.scope ?_) | ((first | refine Ok.label ?_ | refine rd rfl (by assumption) ?_ | refine ⟨_, .inl ⟨rfl, rfl⟩, ?_⟩ | refine ⟨_, _, rfl, rfl, ?_⟩); conv => whnf) | (refine ⟨fun _ => ?_, fun _ => ?_⟩ <;> (conv => whnf) <;> (try (exfalso; omega))) | ((first | refine aJ ?_ | refine num_any ?_ | refine ⟨_, rfl, ?_⟩); conv => whnf) | fail)
  all_goals first
    | (rename_i h; exact absurd rfl h)
    | (refine Or.inl ?_; (conv => whnf)
       exact congrArg D.b (propext ⟨fun _ => trivial, fun _ => rfl⟩))
end Go.Proofs.YtaiondckookpiaaGreatDoor
namespace Go.Proofs.YtaiondckookpiaaGreatDoor
open Go Go.Vx Go.RowKit
theorem idle_of (p q : Addr) (w : World) : CallsD Tryz.prog 103 #[.pointer (some p), .pointer (some q)] .returning w fun e u' w' => e = .returned (.tuple #[]) ∧ u' = .returning ∧ Ext w w' := by
  refine callsD_of_wpS Tryz.func103 rfl fun c₀ cs hu => ?_
  apply wpS_seq
  apply wpS_region
  simp [wpOpsS, go_sem, recoverD, hu, Tryz.ntmps103, Exit.thenS]
  refine (ours_nil w).mono ?_
  rintro e w' ⟨rfl, rfl⟩
  refine wpS_cond (t := false) (by simp [Act.eval, Act.put, Array.replicate]) ?_
  simp only [Bool.false_eq_true, if_false]
  refine wpS_of_wp (wp_skip ?_)
  cases c₀
  simp_all [bodyPostS, results, Tryz.results103]
  exact Ext.refl _
theorem caught_of (p q : Addr) (w : World) {R : Ending → FrameMode → World → Prop} (h : ∀ w1, Ext w w1 → ∃ w2, (storeCells p [.int .i64 0, .slice none 0 0]).run Tryz.prog w1 = .ok () w2 ∧ ∃ w3, (storeCells q [.int .i64 3]).run Tryz.prog w2 = .ok () w3)
    (hR : ∀ w1 w2 w3, Ext w w1 → (storeCells p [.int .i64 0, .slice none 0 0]).run Tryz.prog w1 = .ok () w2 → (storeCells q [.int .i64 3]).run Tryz.prog w2 = .ok () w3 → R (.returned (.tuple #[])) (.panicking [{ v := .iface 154 (.agg #[]), recovered := true }]) w3) :
    CallsD Tryz.prog 103 #[.pointer (some p), .pointer (some q)] (.panicking [{ v := .iface 154 (.agg #[]), recovered := false }]) w R := by
  refine callsD_of_wpS Tryz.func103 rfl fun c₀ cs hu => ?_
  apply wpS_seq
  apply wpS_region
  simp [wpOpsS, go_sem, recoverD, hu, Tryz.ntmps103, Exit.thenS]
  refine (ours_passed w).mono ?_
  rintro e w1 ⟨rfl, hx⟩
  obtain ⟨w2, h1, w3, h2⟩ := h w1 hx
  have hr := hR w1 w2 w3 hx h1 h2
  refine wpS_cond (t := true) (by simp [Act.eval, Act.put, Array.replicate]) ?_
  simp only [if_true]
  refine wpS_of_wp ?_
  refine wp_region_lit ?_
  unfold wpList
  rw [if_pos (by simp [Region.wanted])]
  left
  unfold Oper.wp
  rw [run_build2]
  show wpList _ _ _ [_, _] (Act.put _ (some 4) _) w1
  unfold wpList
  rw [if_pos (by simp [Region.wanted])]
  left
  unfold Oper.wp
  rw [run_store2 (p := p) (z := [.int .i64 0, .slice none 0 0]) (fun w => by kernel_rfl) (by simp [Act.eval, Act.put, Array.replicate]) (by simp [Act.eval, Act.put, Array.replicate, Value.cells]) h1]
  show wpList _ _ _ [_] _ w2
  unfold wpList
  rw [if_pos (by simp [Region.wanted])]
  left
  unfold Oper.wp
  rw [run_store2 (p := q) (z := [.int .i64 3]) (fun w => by kernel_rfl) (by simp [Act.eval, Act.put, Array.replicate]) (by simp [Act.eval, Value.cells]) h2]
  show bodyPostS _ _ _ _ _ .normal _ _ w3
  cases c₀
  simp_all [bodyPostS, results, Tryz.results103]
  try exact rfl
theorem def_of : DefSpec Tryz.prog 103 (.iface 154 (.agg #[])) [.int .i64 0, .slice none 0 0] [.int .i64 3] :=
  ⟨Tryz.call103, idle_of, fun p q w h => caught_of p q w h fun _ _ _ hx h1 h2 => ⟨rfl, rfl, _, _, hx, h1, h2⟩⟩
def allC (n : Int) : Str := if n < 1 ∨ 256 < n then [] else List.replicate n.toNat 120
theorem rep_bits (n : Nat) (i : Nat) : car (List.replicate n 120) i = false ∧ one (List.replicate n 120) i = false := by
  by_cases h : i < n
  · have e : (List.replicate n (120 : UInt8))[i]? = some 120 := by simp [List.getElem?_replicate, h]
    rw [(at_b e).1, (at_b e).2]
    exact ⟨rfl, rfl⟩
  · exact at_out (by simp; omega)
theorem wof_none {f : Nat → Bool} (h : ∀ i, f i = false) (k : Nat) : wof f k = 0#64 := BitVec.eq_of_getLsbD_eq fun i hi => by rw [wof_get _ _ _ hi, h]; simp
theorem crow_rep (n : Nat) : crow (List.replicate n 120) = [.i .i64 n, .i .u64 0, .i .u64 0, .i .u64 0, .i .u64 0, .i .u64 0, .i .u64 0, .i .u64 0, .i .u64 0] := by
  have h1 := wof_none (fun i => (rep_bits n i).1)
  have h2 := wof_none (fun i => (rep_bits n i).2)
  simp only [crow, cells9, h1, h2, List.length_replicate]
  rfl
theorem allC_ct (n : Int) : CT (allC n) := by
  unfold allC
  split
  · exact .nil
  · refine ⟨by simp; omega, fun b hb => ?_⟩
    rw [(List.mem_replicate.1 hb).2]
    simp
theorem all_at (n : Int) : FSpec Tryz.prog T 53 [.i .i64 n] (fun d rows => d = .agg (crow (allC n)) ∧ rows = []) := by
  refine FSpec.of_ok tok Tryz.func53 rfl Tryz.call53 (by simp) ?_
  (try (conv => whnf)); repeat' (first | refine Ok.seq ?_ | refine OkL.cons ?_ | ((first | refine Ok.region tok ?_ | refine Ok.region_draw tok follows (by kernel_rfl) ?_ | refine Ok.cond ?_); conv => whnf) | refine Ok.block ?_ | ((first | refine Ok.skip ?_ | refine Ok.exit ?_ | refine Ok.ret ?_ | refine nI ?_ | refine ix _ (by assumption) ?_ | refine ixI (by omega) (by assumption) ?_ | refine ix_new _ (by omega) fun _ _ => ?_ | refine ixI_new (by omega) (by omega) fun _ _ => ?_ | refine ⟨_, by assumption, ?_⟩ | refine Alt2.l (aI ?_) | refine Alt2.r (aI ?_)); conv => whnf) | (refine Ok.scope ?_) | ((first | refine Ok.label ?_ | refine rd rfl (by assumption) ?_ | refine ⟨_, .inl ⟨rfl, rfl⟩, ?_⟩ | refine ⟨_, _, rfl, rfl, ?_⟩); conv => whnf) | (refine ⟨fun _ => ?_, fun _ => ?_⟩ <;> (conv => whnf) <;> (try (exfalso; omega))) | ((first | refine aJ ?_ | refine num_any ?_ | refine ⟨_, rfl, ?_⟩); conv => whnf) | fail)
  all_goals
    refine Or.inl ?_; (conv => whnf)
    refine ⟨?_, rfl⟩
    unfold allC
    first
      | (rw [if_pos (by omega), crow_nil]; rfl)
      | (rw [if_neg (by omega), crow_rep, Int.toNat_of_nonneg (by omega)]; rfl)
open Classical in
noncomputable def ofO (c : Str) (less : List Str) : Int × Int × List Term :=
  if 2048 < less.length then (2, 0, []) else if (∃ m ∈ less, m.length ≠ c.length) ∨ c = [] then (11, 0, []) else match termT c less with
    | none => (0, (c.length : Int), [])
    | some t => bndO c.length (formT [t])
theorem ofO_long {c : Str} {less : List Str} (h : 2048 < less.length) : ofO c less = (2, 0, []) := by unfold ofO; rw [if_pos h]
theorem ofO_wide {c : Str} {less : List Str} (h : ¬ 2048 < less.length) (h2 : (∃ m ∈ less, m.length ≠ c.length) ∨ c = []) : ofO c less = (11, 0, []) := by unfold ofO; rw [if_neg h, if_pos h2]
theorem ofO_none {c : Str} {less : List Str} (h : ¬ 2048 < less.length) (h2 : ¬ ((∃ m ∈ less, m.length ≠ c.length) ∨ c = [])) (h3 : termT c less = none) : ofO c less = (0, (c.length : Int), []) := by unfold ofO; rw [if_neg h, if_neg h2, h3]
theorem ofO_some {c : Str} {less : List Str} {t : Term} (h : ¬ 2048 < less.length) (h2 : ¬ ((∃ m ∈ less, m.length ≠ c.length) ∨ c = [])) (h3 : termT c less = some t) : ofO c less = bndO c.length (formT [t]) := by unfold ofO; rw [if_neg h, if_neg h2, h3]
set_option maxRecDepth 100000 in
set_option maxHeartbeats 8000000 in
theorem of_at (c : Str) (less : List Str) (room : List (List D)) (hc : CT c) (hl : ∀ m ∈ less, CT m) :
    FSpec Tryz.prog T 52 [.agg (crow c), .lst 46 (less.map crow) room] (POut (ofO c less)) := by
  have htx := text_at c hc
  have hlm : (less.map crow).length = less.length := by simp
  have hcl := hc.len
  refine FSpec.of_deferK 8 tok Tryz.func52 rfl Tryz.call52 (by simp) def_of (zd1 := [.i .i64 0, .nilS]) (zd2 := [.i .i64 3]) rfl rfl (by simp [Value.oneCell']) (by simp [Value.oneCell']) rfl ?_
  by_cases hlong : 2048 < less.length
  · rw [ofO_long hlong]
    (try (conv => whnf)); repeat' (first | refine Ok.seq ?_ | refine OkL.cons ?_ | ((first | refine Ok.region tok ?_ | refine Ok.region_draw tok follows (by kernel_rfl) ?_ | refine Ok.cond ?_); conv => whnf) | refine Ok.block ?_ | ((first | refine Ok.skip ?_ | refine Ok.exit ?_ | refine Ok.ret ?_ | refine nI ?_ | refine ix _ (by assumption) ?_ | refine ixI (by omega) (by assumption) ?_ | refine ix_new _ (by omega) fun _ _ => ?_ | refine ixI_new (by omega) (by omega) fun _ _ => ?_ | refine ⟨_, by assumption, ?_⟩ | refine Alt2.l (aI ?_) | refine Alt2.r (aI ?_)); conv => whnf) | (refine Ok.scope ?_) | ((first | refine Ok.label ?_ | refine rd rfl (by assumption) ?_ | refine ⟨_, .inl ⟨rfl, rfl⟩, ?_⟩ | refine ⟨_, _, rfl, rfl, ?_⟩); conv => whnf) | (refine ⟨fun _ => ?_, fun _ => ?_⟩ <;> (conv => whnf) <;> (try (exfalso; omega))) | ((first | refine aJ ?_ | refine num_any ?_ | refine ⟨_, rfl, ?_⟩); conv => whnf) | fail)
    all_goals first
      | (exfalso; omega)
      | (refine Or.inl ?_; (conv => whnf)
         exact ⟨rfl, _, rfl, PSp.nil 0⟩)
  (try (conv => whnf)); repeat' (first | refine Ok.seq ?_ | refine OkL.cons ?_ | ((first | refine Ok.region tok ?_ | refine Ok.region_draw tok follows (by kernel_rfl) ?_ | refine Ok.cond ?_); conv => whnf) | refine Ok.block ?_ | ((first | refine Ok.skip ?_ | refine Ok.exit ?_ | refine Ok.ret ?_ | refine nI ?_ | refine ix _ (by assumption) ?_ | refine ixI (by omega) (by assumption) ?_ | refine ix_new _ (by omega) fun _ _ => ?_ | refine ixI_new (by omega) (by omega) fun _ _ => ?_ | refine ⟨_, by assumption, ?_⟩); conv => whnf) | (refine Or.inl ?_; (conv => whnf); (repeat (refine aI ?_; conv => whnf)); refine ⟨_, htx, rfl, ?_⟩; conv => whnf) | (refine ⟨_, htx, rfl, ?_⟩; conv => whnf) | (refine Or.inr (Or.inl ?_); (conv => whnf); (repeat (refine aI ?_; conv => whnf)); refine ⟨_, htx, ?_⟩; rintro _ _ ⟨rfl, rfl⟩; conv => whnf) | ((first | refine Alt2.l (aI ?_) | refine Alt2.r (aI ?_)); conv => whnf) | (refine Ok.scope ?_) | ((first | refine Ok.label ?_ | refine rd rfl (by assumption) ?_ | refine ⟨_, .inl ⟨rfl, rfl⟩, ?_⟩ | refine ⟨_, _, rfl, rfl, ?_⟩); conv => whnf) | (refine ⟨fun _ => ?_, fun _ => ?_⟩ <;> (conv => whnf) <;> (try (exfalso; omega))) | ((first | refine aJ ?_ | refine num_any ?_ | refine ⟨_, rfl, ?_⟩); conv => whnf) | fail)
  all_goals first
    | (exfalso; omega)
    | skip
  refine Ok.loopU [1, 2, 4, 5, 6, 18, 19] [20] 0 3 (fun (i : Nat) => [.i .i64 (i : Nat)]) (fun (i : Nat) (_ : List (List D)) => [crow c, [.i .i64 0, .nilS], [.i .i64 0]]) (fun _ r => r) (fun (i : Nat) => i ≤ less.length ∧ ∀ m ∈ less.take i, m.length = c.length) (fun (i : Nat) => less.length - i) (0) (⟨Nat.zero_le _, by simp⟩) ?_; (conv => whnf); refine ⟨by ((conv => whnf); first | rfl | (simp [envCat, List.take_of_length_le, crow, trow, srow, drow]; done) | (simp [envCat, List.take_of_length_le, crow, trow, srow, drow]; rw [IntKind.wrap_i64]; omega)), ?_⟩
  rintro i ⟨hi, hw⟩
  (conv => whnf)
  by_cases hil : i < less.length
  · obtain ⟨m, hm⟩ : ∃ m, less[i]? = some m := ⟨_, List.getElem?_eq_getElem hil⟩
    have hmI : less[((i : Nat) : Int).toNat]? = some m := hm
    have hmc := hl m (List.mem_of_getElem? hm)
    have hmx := text_at m hmc
    by_cases hml : m.length = c.length
    · (try (conv => whnf)); repeat' (first | refine Ok.seq ?_ | refine OkL.cons ?_ | ((first | refine Ok.region tok ?_ | refine Ok.region_draw tok follows (by kernel_rfl) ?_ | refine Ok.cond ?_); conv => whnf) | refine Ok.block ?_ | ((first | refine Ok.skip ?_ | refine Ok.exit ?_ | refine Ok.ret ?_ | refine nI ?_ | refine ix _ (by assumption) ?_ | refine ixI (by omega) (by assumption) ?_ | refine ix_new _ (by omega) fun _ _ => ?_ | refine ixI_new (by omega) (by omega) fun _ _ => ?_ | refine ⟨_, by assumption, ?_⟩); conv => whnf) | (refine Or.inl ?_; (conv => whnf); (repeat (refine aI ?_; conv => whnf)); refine ⟨_, hmx, rfl, ?_⟩; conv => whnf) | (refine ⟨_, hmx, rfl, ?_⟩; conv => whnf) | (refine Or.inr (Or.inl ?_); (conv => whnf); (repeat (refine aI ?_; conv => whnf)); refine ⟨_, hmx, ?_⟩; rintro _ _ ⟨rfl, rfl⟩; conv => whnf) | ((first | refine Alt2.l (aI ?_) | refine Alt2.r (aI ?_)); conv => whnf) | (refine Ok.scope ?_) | ((first | refine Ok.label ?_ | refine rd rfl (by assumption) ?_ | refine ⟨_, .inl ⟨rfl, rfl⟩, ?_⟩ | refine ⟨_, _, rfl, rfl, ?_⟩); conv => whnf) | (refine ⟨fun _ => ?_, fun _ => ?_⟩ <;> (conv => whnf) <;> (try (exfalso; omega))) | ((first | refine aJ ?_ | refine num_any ?_ | refine ⟨_, rfl, ?_⟩); conv => whnf) | fail)
      all_goals first
        | (exfalso; omega)
        | (refine ⟨i + 1, by omega, ⟨by omega, fun x hx => by
            rw [take_snoc hm] at hx
            rcases List.mem_append.1 hx with hx | hx
            · exact hw x hx
            · simp at hx; rw [hx]; exact hml⟩, ?_⟩
           (conv => whnf)
           rfl)
    · rw [ofO_wide hlong (.inl ⟨m, List.mem_of_getElem? hm, hml⟩)]
      (try (conv => whnf)); repeat' (first | refine Ok.seq ?_ | refine OkL.cons ?_ | ((first | refine Ok.region tok ?_ | refine Ok.region_draw tok follows (by kernel_rfl) ?_ | refine Ok.cond ?_); conv => whnf) | refine Ok.block ?_ | ((first | refine Ok.skip ?_ | refine Ok.exit ?_ | refine Ok.ret ?_ | refine nI ?_ | refine ix _ (by assumption) ?_ | refine ixI (by omega) (by assumption) ?_ | refine ix_new _ (by omega) fun _ _ => ?_ | refine ixI_new (by omega) (by omega) fun _ _ => ?_ | refine ⟨_, by assumption, ?_⟩); conv => whnf) | (refine Or.inl ?_; (conv => whnf); (repeat (refine aI ?_; conv => whnf)); refine ⟨_, hmx, rfl, ?_⟩; conv => whnf) | (refine ⟨_, hmx, rfl, ?_⟩; conv => whnf) | (refine Or.inr (Or.inl ?_); (conv => whnf); (repeat (refine aI ?_; conv => whnf)); refine ⟨_, hmx, ?_⟩; rintro _ _ ⟨rfl, rfl⟩; conv => whnf) | ((first | refine Alt2.l (aI ?_) | refine Alt2.r (aI ?_)); conv => whnf) | (refine Ok.scope ?_) | ((first | refine Ok.label ?_ | refine rd rfl (by assumption) ?_ | refine ⟨_, .inl ⟨rfl, rfl⟩, ?_⟩ | refine ⟨_, _, rfl, rfl, ?_⟩); conv => whnf) | (refine ⟨fun _ => ?_, fun _ => ?_⟩ <;> (conv => whnf) <;> (try (exfalso; omega))) | ((first | refine aJ ?_ | refine num_any ?_ | refine ⟨_, rfl, ?_⟩); conv => whnf) | fail)
      all_goals first
        | (exfalso; omega)
        | (refine Or.inl ?_; (conv => whnf)
           exact ⟨rfl, _, rfl, PSp.nil 0⟩)
  have hie : i = less.length := by omega
  subst hie
  rw [List.take_length] at hw
  by_cases hc0 : c = []
  · rw [ofO_wide hlong (.inr hc0)]
    have hc00 : c.length = 0 := by rw [hc0]; rfl
    (try (conv => whnf)); repeat' (first | refine Ok.seq ?_ | refine OkL.cons ?_ | ((first | refine Ok.region tok ?_ | refine Ok.region_draw tok follows (by kernel_rfl) ?_ | refine Ok.cond ?_); conv => whnf) | refine Ok.block ?_ | ((first | refine Ok.skip ?_ | refine Ok.exit ?_ | refine Ok.ret ?_ | refine nI ?_ | refine ix _ (by assumption) ?_ | refine ixI (by omega) (by assumption) ?_ | refine ix_new _ (by omega) fun _ _ => ?_ | refine ixI_new (by omega) (by omega) fun _ _ => ?_ | refine ⟨_, by assumption, ?_⟩ | refine Alt2.l (aI ?_) | refine Alt2.r (aI ?_)); conv => whnf) | (refine Ok.scope ?_) | ((first | refine Ok.label ?_ | refine rd rfl (by assumption) ?_ | refine ⟨_, .inl ⟨rfl, rfl⟩, ?_⟩ | refine ⟨_, _, rfl, rfl, ?_⟩); conv => whnf) | (refine ⟨fun _ => ?_, fun _ => ?_⟩ <;> (conv => whnf) <;> (try (exfalso; omega))) | ((first | refine aJ ?_ | refine num_any ?_ | refine ⟨_, rfl, ?_⟩); conv => whnf) | fail)
    all_goals first
      | (exfalso; omega)
      | (refine Or.inl ?_; (conv => whnf)
         exact ⟨rfl, _, rfl, PSp.nil 0⟩)
  have hpos : 0 < c.length := List.length_pos_iff.2 hc0
  have h2 : ¬ ((∃ m ∈ less, m.length ≠ c.length) ∨ c = []) := fun h => h.elim (fun ⟨m, hm, hne⟩ => hne (hw m hm)) hc0
  have hcn : CN c := ⟨hc, hc0⟩
  have hnew : ∀ rl room, rl = List.map lrow [⟨less, room⟩] → ∀ room2, FSpec Tryz.prog T 72 [.agg (crow c), .lst 58 rl room2] (NewT c less) := fun rl room h room2 => by
    have := newTerm_at c [⟨less, room⟩] (room := room2) hcn (by
      intro x hx m hm
      simp at hx
      subst hx
      exact hl m hm) (by simp [allL]; omega) (by simp) h
    rwa [show allL [⟨less, room⟩] = less by simp [allL]] at this
  (try (conv => whnf)); repeat' (first | refine Ok.seq ?_ | refine OkL.cons ?_ | ((first | refine Ok.region tok ?_ | refine Ok.region_draw tok follows (by kernel_rfl) ?_ | refine Ok.cond ?_); conv => whnf) | refine Ok.block ?_ | ((first | refine Ok.skip ?_ | refine Ok.exit ?_ | refine Ok.ret ?_ | refine nI ?_ | refine ix _ (by assumption) ?_ | refine ixI (by omega) (by assumption) ?_ | refine ix_new _ (by omega) fun _ _ => ?_ | refine ixI_new (by omega) (by omega) fun _ _ => ?_ | refine ⟨_, by assumption, ?_⟩ | refine Alt2.l (aI ?_) | refine Alt2.r (aI ?_)); conv => whnf) | (refine Ok.scope ?_) | ((first | refine Ok.label ?_ | refine rd rfl (by assumption) ?_ | refine ⟨_, .inl ⟨rfl, rfl⟩, ?_⟩ | refine ⟨_, _, rfl, rfl, ?_⟩); conv => whnf) | (refine ⟨fun _ => ?_, fun _ => ?_⟩ <;> (conv => whnf) <;> (try (exfalso; omega))) | ((first | refine aJ ?_ | refine num_any ?_ | refine ⟨_, rfl, ?_⟩); conv => whnf) | fail)
  all_goals first
    | (exfalso; omega)
    | skip
  refine OkL.nil ?_
  (conv => whnf)
  refine ⟨1, 2, rfl, rfl, by decide, by decide, by decide, rfl, ?_⟩
  have hnb : noneB (c.length : Int) = c.length := by unfold noneB; rw [if_neg (by omega)]
  cases ht0 : termT c less with
  | none =>
    rw [ofO_none hlong h2 ht0]
    (try (conv => whnf)); repeat' (first | refine Ok.seq ?_ | refine OkL.cons ?_ | ((first | refine Ok.region tok ?_ | refine Ok.region_draw tok follows (by kernel_rfl) ?_ | refine Ok.cond ?_); conv => whnf) | refine Ok.block ?_ | ((first | refine Ok.skip ?_ | refine Ok.exit ?_ | refine Ok.ret ?_ | refine nI ?_ | refine ix _ (by assumption) ?_ | refine ixI (by omega) (by assumption) ?_ | refine ix_new _ (by omega) fun _ _ => ?_ | refine ixI_new (by omega) (by omega) fun _ _ => ?_ | refine ⟨_, by assumption, ?_⟩); conv => whnf) | (refine Or.inr (Or.inl ?_); (conv => whnf); (repeat (refine aI ?_; conv => whnf)); refine ⟨_, hnew _ room (by simp [lrow, List.take_of_length_le, List.drop_of_length_le]) _ , ?_⟩; rintro _ _ ⟨rfl, (⟨ht, rfl⟩ | ⟨t, rm4, ht, rfl⟩)⟩ <;> (conv => whnf)) | (refine Or.inr (Or.inl ?_); (conv => whnf); (repeat (refine aI ?_; conv => whnf)); refine ⟨_, none_at (c.length : Int), ?_⟩; rintro _ _ ⟨rfl, rfl⟩ <;> (conv => whnf)) | ((first | refine Alt2.l (aI ?_) | refine Alt2.r (aI ?_)); conv => whnf) | (refine Ok.scope ?_) | ((first | refine Ok.label ?_ | refine rd rfl (by assumption) ?_ | refine ⟨_, .inl ⟨rfl, rfl⟩, ?_⟩ | refine ⟨_, _, rfl, rfl, ?_⟩); conv => whnf) | (refine ⟨fun _ => ?_, fun _ => ?_⟩ <;> (conv => whnf) <;> (try (exfalso; omega))) | ((first | refine aJ ?_ | refine num_any ?_ | refine ⟨_, rfl, ?_⟩); conv => whnf) | fail)
    all_goals first
      | (rename_i h; exact absurd trivial h)
      | (rename_i h; cases h; done)
      | (exfalso; rw [ht0] at ht; cases ht; done)
      | (refine Or.inl ?_; (conv => whnf)
         rw [hnb]
         exact ⟨rfl, _, rfl, PSp.nil _⟩)
  | some t0 =>
    rw [ofO_some hlong h2 ht0]
    obtain ⟨hg0, _⟩ := termT_good (n := c.length) hcn rfl hl ht0
    have hle0 : t0.less.length ≤ 1048576 := by have := termT_sz ht0; omega
    by_cases hsz : szT (formT [t0]) ≤ 128
    · rw [bndO_le hsz]
      have hform : ∀ t rm4, termT c less = some t → FSpec Tryz.prog T 65 [.i .i64 (c.length : Int), .lst 112 [trow ⟨t, rm4⟩] []] (fun d rows => ∃ (ks : List TR) (rm : List (List D)), d = .agg [.i .i64 (c.length : Int), .lst 112 (ks.map trow) rm] ∧ rows = [] ∧ ks.map TR.t = formT [t0]) := fun t rm4 ht => by
        rw [ht0] at ht
        cases ht
        refine FSpec.mono (form_at (room := []) (c.length : Int) c.length [⟨t0, rm4⟩] (by simp) (by
          intro x hx
          simp at hx
          subst hx
          exact hg0.to hle0) rfl (by simpa using hsz)) ?_
        rintro d rows ⟨ks, rm, h1, h2, h3, _⟩
        exact ⟨ks, rm, h1, h2, by simpa using h3⟩
      (try (conv => whnf)); repeat' (first | refine Ok.seq ?_ | refine OkL.cons ?_ | ((first | refine Ok.region tok ?_ | refine Ok.region_draw tok follows (by kernel_rfl) ?_ | refine Ok.cond ?_); conv => whnf) | refine Ok.block ?_ | ((first | refine Ok.skip ?_ | refine Ok.exit ?_ | refine Ok.ret ?_ | refine nI ?_ | refine ix _ (by assumption) ?_ | refine ixI (by omega) (by assumption) ?_ | refine ix_new _ (by omega) fun _ _ => ?_ | refine ixI_new (by omega) (by omega) fun _ _ => ?_ | refine ⟨_, by assumption, ?_⟩); conv => whnf) | (refine Or.inr (Or.inl ?_); (conv => whnf); (repeat (refine aI ?_; conv => whnf)); refine ⟨_, hnew _ room (by simp [lrow, List.take_of_length_le, List.drop_of_length_le]) _ , ?_⟩; rintro _ _ ⟨rfl, (⟨ht, rfl⟩ | ⟨t, rm4, ht, rfl⟩)⟩ <;> (conv => whnf)) | (refine Or.inr (Or.inl ?_); (conv => whnf); (repeat (refine aI ?_; conv => whnf)); refine ⟨_, hform t rm4 ht , ?_⟩; rintro _ _ ⟨ks3, rm3, rfl, rfl, hks3⟩ <;> (conv => whnf)) | ((first | refine Alt2.l (aI ?_) | refine Alt2.r (aI ?_)); conv => whnf) | (refine Ok.scope ?_) | ((first | refine Ok.label ?_ | refine rd rfl (by assumption) ?_ | refine ⟨_, .inl ⟨rfl, rfl⟩, ?_⟩ | refine ⟨_, _, rfl, rfl, ?_⟩); conv => whnf) | (refine ⟨fun _ => ?_, fun _ => ?_⟩ <;> (conv => whnf) <;> (try (exfalso; omega))) | ((first | refine aJ ?_ | refine num_any ?_ | refine ⟨_, rfl, ?_⟩); conv => whnf) | fail)
      all_goals first
        | (rename_i h; exact absurd trivial h)
        | (rename_i h; cases h; done)
        | (exfalso; rw [ht0] at ht; cases ht; done)
        | (refine Or.inl ?_; (conv => whnf)
           exact ⟨rfl, _, rfl, ks3, rm3, rfl, hks3⟩)
        | trace_state
    · rw [bndO_gt (by omega)]
      (try (conv => whnf)); repeat' (first | (refine Ok.region_pan (id := 15) tok 3 ?_; (conv => whnf)) | refine Ok.seq ?_ | refine OkL.cons ?_ | ((first | refine Ok.region tok ?_ | refine Ok.region_draw tok follows (by kernel_rfl) ?_ | refine Ok.cond ?_); conv => whnf) | refine Ok.block ?_ | ((first | refine Ok.skip ?_ | refine Ok.exit ?_ | refine Ok.ret ?_ | refine nI ?_ | refine ix _ (by assumption) ?_ | refine ixI (by omega) (by assumption) ?_ | refine ix_new _ (by omega) fun _ _ => ?_ | refine ixI_new (by omega) (by omega) fun _ _ => ?_ | refine ⟨_, by assumption, ?_⟩); conv => whnf) | (refine Or.inr (Or.inl ?_); (conv => whnf); (repeat (refine aI ?_; conv => whnf)); refine ⟨_, hnew _ room (by simp [lrow, List.take_of_length_le, List.drop_of_length_le]) _ , ?_⟩; rintro _ _ ⟨rfl, (⟨ht, rfl⟩ | ⟨t, rm4, ht, rfl⟩)⟩ <;> (conv => whnf)) | ((first | refine Alt2.l (aI ?_) | refine Alt2.r (aI ?_)); conv => whnf) | (refine Ok.scope ?_) | ((first | refine Ok.label ?_ | refine rd rfl (by assumption) ?_ | refine ⟨_, .inl ⟨rfl, rfl⟩, ?_⟩ | refine ⟨_, _, rfl, rfl, ?_⟩); conv => whnf) | (refine ⟨fun _ => ?_, fun _ => ?_⟩ <;> (conv => whnf) <;> (try (exfalso; omega))) | ((first | refine aJ ?_ | refine num_any ?_ | refine ⟨_, rfl, ?_⟩); conv => whnf) | fail)
      all_goals first
        | (rename_i h; exact absurd trivial h)
        | (rename_i h; cases h; done)
        | (exfalso; rw [ht0] at ht; cases ht; done)
        | skip
      rw [ht0] at ht
      cases ht
      refine ⟨_, form_pan (c.length : Int) c.length [⟨t0, rm4⟩] (by simp) (by
        intro x hx
        simp at hx
        subst hx
        exact hg0.to hle0) rfl (by simp; omega), ?_⟩
      (conv => whnf)
      refine ⟨rfl, 1, 2, _, _, rfl, rfl, rfl, rfl, rfl, rfl, by decide, rfl, ?_⟩
      (conv => whnf)
      refine Or.inl ?_; (conv => whnf)
      exact ⟨rfl, _, rfl, PSp.nil 0⟩
end Go.Proofs.YtaiondckookpiaaGreatDoor
namespace Go.Proofs.YtaiondckookpiaaGreatDoor
open Go Go.Vx
theorem fit00 : ¬ fitP 0 0 := fun h => absurd h.2 (by decide)
theorem fit01 : ¬ fitP 0 1 := fun h => absurd h.1 (by decide)
theorem fit10 : ¬ fitP 1 0 := fun h => absurd h.1 (by decide)
set_option maxRecDepth 100000 in
set_option maxHeartbeats 16000000 in
theorem edgesLaw_at : FSpec Tryz.prog T 16 [] (fun r _ => r = .b True) := by
  have hz : Fine 0 [] := Fine.nil (by decide) (by decide)
  have hn : Fine 1 [] := Fine.nil (by decide) (by decide)
  have e0 : ([] : List TR).map TR.t = [] := rfl
  have hc0 : CT [] := .nil
  have p1 := parse2_at 1 [110, 111, 110, 101]
  rw [parO_none (by decide) (by decide) rfl] at p1
  have p2 := parse2_at 257 [110, 111, 110, 101]
  rw [parO_arg (by decide) (by decide)] at p2
  have p3 := parse2_at 0 [63]
  rw [parO_arg (by decide) (by decide)] at p3
  have tz := sptext_at hz [] [] e0
  have tn := fun ks rm h1 => sptext_at hn ks rm h1
  rw [show textS [] = [110, 111, 110, 101] from if_pos rfl] at tz tn
  have sz := spsize_at hz [] [] e0
  have sn := fun ks rm h1 => spsize_at hn ks rm h1
  rw [show szT [] = 0 from rfl] at sz sn
  have hno : ∀ h : Str, hasS [] h = False := fun h => propext ⟨fun ⟨t, ht, _⟩ => by simp at ht, False.elim⟩
  have mz := fun h => hasS_at hz [] [] e0 h
  have mn := fun ks rm h1 h => hasS_at hn ks rm h1 h
  simp only [hno] at mz mn
  have j := join_at hz hz [] [] [] [] e0 e0
  rw [joinO_not fit00] at j
  have m := fun ks rm h1 => meet2_at hz hn [] ks [] rm e0 h1
  simp only [meetO_not fit01] at m
  have k := fun ks rm h1 => minus_at hn hz ks [] rm [] h1 e0
  simp only [minusO_not fit10] at k
  have b := before2_at hz [] [] e0 [] hc0
  rw [befO_not fit00, crow_nil] at b
  have a := fun ks rm h1 => after_at hn ks rm h1 [] hc0 (-1)
  simp only [aftO_not (r := []) fit10, crow_nil] at a
  have w := withinS_at hz hz [] [] [] [] e0 e0 (-1)
  rw [withO_not fit00] at w
  have x := expand_at hz [] [] e0 (-1)
  rw [expO_zero rfl] at x
  have y := least_at hz [] [] e0 (-1)
  rw [expO_zero rfl, show lstO (11, []) = (11, []) from if_neg (by decide)] at y
  have x1 := fun ks rm h1 => expand_at hn ks rm h1 (-1)
  simp only [expO_arg (n := 1) (by decide) (Or.inl (by decide : (-1 : Int) < 0))] at x1
  have x2 := fun ks rm h1 => expand_at hn ks rm h1 2049
  simp only [expO_arg (n := 1) (by decide) (Or.inr (by decide : (2048 : Int) < 2049))] at x2
  have x3 := fun ks rm h1 => expand_at hn ks rm h1 0
  simp only [expO_some (n := 1) (limit := 0) (ts := []) (l := []) (by decide) (by decide) rfl] at x3
  have o1 := of_at [] [] [] hc0 (by simp)
  rw [ofO_wide (by decide) (.inr rfl), crow_nil] at o1
  have o2 := of_at (allC 3) [allC 4] [] (allC_ct _) (fun m hm => by simp at hm; rw [hm]; exact allC_ct _)
  rw [ofO_wide (by decide) (.inl ⟨allC 4, by simp, by decide⟩)] at o2
  have n1 := none_at (-1)
  have n2 := none_at 256
  have n3 := none_at 257
  rw [show noneB (-1) = 0 from rfl] at n1
  rw [show noneB 256 = 256 from rfl] at n2
  rw [show noneB 257 = 0 from rfl] at n3
  have bz := bits_at 0 (.lst 112 [] []) ⟨_, _, _, rfl⟩
  have bx := bits_at 256 (.lst 112 [] []) ⟨_, _, _, rfl⟩
  refine FSpec.of_ok tok Tryz.func16 rfl Tryz.call16 (by simp) ?_
  (try (conv => whnf)); repeat' (first | (exact absurd rfl (by assumption)) | (exact absurd trivial (by assumption)) | refine Ok.seq ?_ | refine OkL.cons ?_ | ((first | refine Ok.region tok ?_ | refine Ok.region_draw tok follows (by kernel_rfl) ?_ | refine Ok.cond ?_); conv => whnf) | refine Ok.block ?_ | ((first | refine Ok.skip ?_ | refine Ok.exit ?_ | refine Ok.ret ?_ | refine nI ?_ | refine ix _ (by assumption) ?_ | refine ixI (by omega) (by assumption) ?_ | refine ix_new _ (by omega) fun _ _ => ?_ | refine ixI_new (by omega) (by omega) fun _ _ => ?_ | refine ⟨_, by assumption, ?_⟩); conv => whnf) | (refine Or.inl ?_; (conv => whnf); (repeat (refine aI ?_; conv => whnf)); refine ⟨_, awake_at, rfl, ?_⟩; conv => whnf) | (refine Or.inl ?_; (conv => whnf); (repeat (refine aI ?_; conv => whnf)); refine ⟨_, bits_at 1 (.lst 112 (ks1.map trow) rm1) ⟨_, _, _, rfl⟩, rfl, ?_⟩; conv => whnf) | (refine Or.inl ?_; (conv => whnf); (repeat (refine aI ?_; conv => whnf)); refine ⟨_, tn ks1 rm1 h1, rfl, ?_⟩; conv => whnf) | (refine Or.inl ?_; (conv => whnf); (repeat (refine aI ?_; conv => whnf)); refine ⟨_, sn ks1 rm1 h1, rfl, ?_⟩; conv => whnf) | (refine Or.inl ?_; (conv => whnf); (repeat (refine aI ?_; conv => whnf)); refine ⟨_, tz, rfl, ?_⟩; conv => whnf) | (refine Or.inl ?_; (conv => whnf); (repeat (refine aI ?_; conv => whnf)); refine ⟨_, sz, rfl, ?_⟩; conv => whnf) | (refine Or.inl ?_; (conv => whnf); (repeat (refine aI ?_; conv => whnf)); refine ⟨_, bz, rfl, ?_⟩; conv => whnf) | (refine Or.inl ?_; (conv => whnf); (repeat (refine aI ?_; conv => whnf)); refine ⟨_, mz [], rfl, ?_⟩; conv => whnf) | (refine Or.inl ?_; (conv => whnf); (repeat (refine aI ?_; conv => whnf)); refine ⟨_, mz [48], rfl, ?_⟩; conv => whnf) | (refine Or.inl ?_; (conv => whnf); (repeat (refine aI ?_; conv => whnf)); refine ⟨_, mn ks1 rm1 h1 [], rfl, ?_⟩; conv => whnf) | (refine Or.inl ?_; (conv => whnf); (repeat (refine aI ?_; conv => whnf)); refine ⟨_, y, rfl, ?_⟩; conv => whnf) | (refine Or.inl ?_; (conv => whnf); (repeat (refine aI ?_; conv => whnf)); refine ⟨_, bx, rfl, ?_⟩; conv => whnf) | ((first | refine ⟨_, awake_at, rfl, ?_⟩ | refine ⟨_, bits_at 1 (.lst 112 (ks1.map trow) rm1) ⟨_, _, _, rfl⟩, rfl, ?_⟩ | refine ⟨_, tn ks1 rm1 h1, rfl, ?_⟩ | refine ⟨_, sn ks1 rm1 h1, rfl, ?_⟩ | refine ⟨_, tz, rfl, ?_⟩ | refine ⟨_, sz, rfl, ?_⟩ | refine ⟨_, bz, rfl, ?_⟩ | refine ⟨_, mz [], rfl, ?_⟩ | refine ⟨_, mz [48], rfl, ?_⟩ | refine ⟨_, mn ks1 rm1 h1 [], rfl, ?_⟩ | refine ⟨_, y, rfl, ?_⟩ | refine ⟨_, bx, rfl, ?_⟩); conv => whnf) | (refine Or.inr (Or.inl ?_); (conv => whnf); (repeat (refine aI ?_; conv => whnf)); refine ⟨_, awake_at, ?_⟩; rintro _ _ ⟨rfl, rfl⟩; conv => whnf) | (refine Or.inr (Or.inl ?_); (conv => whnf); (repeat (refine aI ?_; conv => whnf)); refine ⟨_, bits_at 1 (.lst 112 (ks1.map trow) rm1) ⟨_, _, _, rfl⟩, ?_⟩; rintro _ _ ⟨rfl, rfl⟩; conv => whnf) | (refine Or.inr (Or.inl ?_); (conv => whnf); (repeat (refine aI ?_; conv => whnf)); refine ⟨_, tn ks1 rm1 h1, ?_⟩; rintro _ _ ⟨rfl, rfl⟩; conv => whnf) | (refine Or.inr (Or.inl ?_); (conv => whnf); (repeat (refine aI ?_; conv => whnf)); refine ⟨_, sn ks1 rm1 h1, ?_⟩; rintro _ _ ⟨rfl, rfl⟩; conv => whnf) | (refine Or.inr (Or.inl ?_); (conv => whnf); (repeat (refine aI ?_; conv => whnf)); refine ⟨_, tz, ?_⟩; rintro _ _ ⟨rfl, rfl⟩; conv => whnf) | (refine Or.inr (Or.inl ?_); (conv => whnf); (repeat (refine aI ?_; conv => whnf)); refine ⟨_, sz, ?_⟩; rintro _ _ ⟨rfl, rfl⟩; conv => whnf) | (refine Or.inr (Or.inl ?_); (conv => whnf); (repeat (refine aI ?_; conv => whnf)); refine ⟨_, bz, ?_⟩; rintro _ _ ⟨rfl, rfl⟩; conv => whnf) | (refine Or.inr (Or.inl ?_); (conv => whnf); (repeat (refine aI ?_; conv => whnf)); refine ⟨_, mz [], ?_⟩; rintro _ _ ⟨rfl, rfl⟩; conv => whnf) | (refine Or.inr (Or.inl ?_); (conv => whnf); (repeat (refine aI ?_; conv => whnf)); refine ⟨_, mz [48], ?_⟩; rintro _ _ ⟨rfl, rfl⟩; conv => whnf) | (refine Or.inr (Or.inl ?_); (conv => whnf); (repeat (refine aI ?_; conv => whnf)); refine ⟨_, mn ks1 rm1 h1 [], ?_⟩; rintro _ _ ⟨rfl, rfl⟩; conv => whnf) | (refine Or.inr (Or.inl ?_); (conv => whnf); (repeat (refine aI ?_; conv => whnf)); refine ⟨_, y, ?_⟩; rintro _ _ ⟨rfl, rfl⟩; conv => whnf) | (refine Or.inr (Or.inl ?_); (conv => whnf); (repeat (refine aI ?_; conv => whnf)); refine ⟨_, bx, ?_⟩; rintro _ _ ⟨rfl, rfl⟩; conv => whnf) | (refine Or.inr (Or.inl ?_); (conv => whnf); (repeat (refine aI ?_; conv => whnf)); refine ⟨_, p1 , ?_⟩; rintro _ _ ⟨rfl, _, rfl, ks1, rm1, rfl, h1⟩ <;> (conv => whnf)) | (refine Or.inr (Or.inl ?_); (conv => whnf); (repeat (refine aI ?_; conv => whnf)); refine ⟨_, j , ?_⟩; rintro _ _ ⟨rfl, _, rfl, ks2, rm2, rfl, h2⟩ <;> (conv => whnf)) | (refine Or.inr (Or.inl ?_); (conv => whnf); (repeat (refine aI ?_; conv => whnf)); refine ⟨_, m ks1 rm1 h1 , ?_⟩; rintro _ _ ⟨rfl, _, rfl, ks3, rm3, rfl, h3⟩ <;> (conv => whnf)) | (refine Or.inr (Or.inl ?_); (conv => whnf); (repeat (refine aI ?_; conv => whnf)); refine ⟨_, k ks1 rm1 h1 , ?_⟩; rintro _ _ ⟨rfl, _, rfl, ks4, rm4, rfl, h4⟩ <;> (conv => whnf)) | (refine Or.inr (Or.inl ?_); (conv => whnf); (repeat (refine aI ?_; conv => whnf)); refine ⟨_, b , ?_⟩; rintro _ _ ⟨rfl, _, rfl, ks5, rm5, rfl, h5⟩ <;> (conv => whnf)) | (refine Or.inr (Or.inl ?_); (conv => whnf); (repeat (refine aI ?_; conv => whnf)); refine ⟨_, a ks1 rm1 h1 , ?_⟩; rintro _ _ ⟨rfl, _, rfl, ks6, rm6, rfl, h6⟩ <;> (conv => whnf)) | (refine Or.inr (Or.inl ?_); (conv => whnf); (repeat (refine aI ?_; conv => whnf)); refine ⟨_, w, ?_⟩; rintro _ _ ⟨rfl, rfl⟩ <;> (conv => whnf)) | (refine Or.inr (Or.inl ?_); (conv => whnf); (repeat (refine aI ?_; conv => whnf)); refine ⟨_, x , ?_⟩; rintro _ _ ⟨rfl, rm8, rfl⟩ <;> (conv => whnf)) | (refine Or.inr (Or.inl ?_); (conv => whnf); (repeat (refine aI ?_; conv => whnf)); refine ⟨_, x1 ks1 rm1 h1 , ?_⟩; rintro _ _ ⟨rfl, rm9, rfl⟩ <;> (conv => whnf)) | (refine Or.inr (Or.inl ?_); (conv => whnf); (repeat (refine aI ?_; conv => whnf)); refine ⟨_, x2 ks1 rm1 h1 , ?_⟩; rintro _ _ ⟨rfl, rm10, rfl⟩ <;> (conv => whnf)) | (refine Or.inr (Or.inl ?_); (conv => whnf); (repeat (refine aI ?_; conv => whnf)); refine ⟨_, x3 ks1 rm1 h1 , ?_⟩; rintro _ _ ⟨rfl, rm11, rfl⟩ <;> (conv => whnf)) | (refine Or.inr (Or.inl ?_); (conv => whnf); (repeat (refine aI ?_; conv => whnf)); refine ⟨_, o1 , ?_⟩; rintro _ _ ⟨rfl, _, rfl, ks12, rm12, rfl, h12⟩ <;> (conv => whnf)) | (refine Or.inr (Or.inl ?_); (conv => whnf); (repeat (refine aI ?_; conv => whnf)); refine ⟨_, all_at 3, ?_⟩; rintro _ _ ⟨rfl, rfl⟩ <;> (conv => whnf)) | (refine Or.inr (Or.inl ?_); (conv => whnf); (repeat (refine aI ?_; conv => whnf)); refine ⟨_, all_at 4, ?_⟩; rintro _ _ ⟨rfl, rfl⟩ <;> (conv => whnf)) | (refine Or.inr (Or.inl ?_); (conv => whnf); (repeat (refine aI ?_; conv => whnf)); refine ⟨_, o2 , ?_⟩; rintro _ _ ⟨rfl, _, rfl, ks13, rm13, rfl, h13⟩ <;> (conv => whnf)) | (refine Or.inr (Or.inl ?_); (conv => whnf); (repeat (refine aI ?_; conv => whnf)); refine ⟨_, p2 , ?_⟩; rintro _ _ ⟨rfl, _, rfl, ks14, rm14, rfl, h14⟩ <;> (conv => whnf)) | (refine Or.inr (Or.inl ?_); (conv => whnf); (repeat (refine aI ?_; conv => whnf)); refine ⟨_, p3 , ?_⟩; rintro _ _ ⟨rfl, _, rfl, ks15, rm15, rfl, h15⟩ <;> (conv => whnf)) | (refine Or.inr (Or.inl ?_); (conv => whnf); (repeat (refine aI ?_; conv => whnf)); refine ⟨_, n1, ?_⟩; rintro _ _ ⟨rfl, rfl⟩ <;> (conv => whnf)) | (refine Or.inr (Or.inl ?_); (conv => whnf); (repeat (refine aI ?_; conv => whnf)); refine ⟨_, n2, ?_⟩; rintro _ _ ⟨rfl, rfl⟩ <;> (conv => whnf)) | (refine Or.inr (Or.inl ?_); (conv => whnf); (repeat (refine aI ?_; conv => whnf)); refine ⟨_, n3, ?_⟩; rintro _ _ ⟨rfl, rfl⟩ <;> (conv => whnf)) | ((first | refine Alt2.l (aI ?_) | refine Alt2.r (aI ?_)); conv => whnf) | (refine Ok.scope ?_) | ((first | refine Ok.label ?_ | refine rd rfl (by assumption) ?_ | refine ⟨_, .inl ⟨rfl, rfl⟩, ?_⟩ | refine ⟨_, _, rfl, rfl, ?_⟩); conv => whnf) | (refine ⟨fun _ => ?_, fun _ => ?_⟩ <;> (conv => whnf) <;> (try (exfalso; omega))) | ((first | refine aJ ?_ | refine num_any ?_ | refine ⟨_, rfl, ?_⟩); conv => whnf) | fail)
  refine Or.inl ?_; (conv => whnf)
  exact congrArg D.b (propext ⟨fun _ => trivial, fun _ => rfl⟩)
end Go.Proofs.YtaiondckookpiaaGreatDoor
