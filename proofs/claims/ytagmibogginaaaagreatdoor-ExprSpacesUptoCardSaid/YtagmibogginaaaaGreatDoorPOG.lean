/- The walks and the plain laws that a law of spaces needs, part 7 of 7. -/
import Derived.Test.YtagmibogginaaaaGreatDoorPOF
set_option linter.unusedVariables false
set_option linter.unusedSimpArgs false
namespace Go.Proofs.YtagmibogginaaaaGreatDoor
open Go Go.Vx Go.Shelf
theorem ofO_one {c : Str} (hn : c ≠ []) : ofO c [] = (0, (c.length : Int), [⟨c, []⟩]) := by
 rw [ofO_some (by simp) (fun q => q.elim (fun ⟨m, hm, _⟩ => by cases hm) hn) termT_one, formT_one, bndO_le (by simp [szT])]
theorem one_fine {c : Str} (hc : CT c) (hn : c ≠ []) : Fine (c.length : Int) [⟨c, []⟩] := by
 have h := ofO_fine (c := c) (less := []) hc (by simp)
 rw [ofO_one hn] at h
 exact h
theorem rep_ct (w : Nat) (h : w <= 256) : CT (List.replicate w 120) := ⟨by simp; omega, fun b hb => by rw [(List.mem_replicate.1 hb).2]; simp⟩
theorem all_fine {w : Nat} (h0 : w ≠ 0) (h : w <= 256) : Fine (w : Int) [allT w] := by
 have := one_fine (rep_ct w h) (fun e => by have := congrArg List.length e; simp at this; exact h0 this)
 simpa [allT] using this
theorem allC_nat {w : Nat} (h0 : w ≠ 0) (h : w <= 256) : allC (w : Int) = List.replicate w 120 := by unfold allC; rw [if_neg (by omega)]; rfl
noncomputable def negO (w : Nat) (o : Oc) : Oc := if o.1 ≠ 0 then o else minusO w o.2.1 [allT w] o.2.2
noncomputable def cubO : Oc -> List Str -> Oc
 | o, [] => o
 | o, c :: cs => if (joinO o.2.1 c.length o.2.2 [⟨c, []⟩]).1 ≠ 0 then joinO o.2.1 c.length o.2.2 [⟨c, []⟩] else cubO (joinO o.2.1 c.length o.2.2 [⟨c, []⟩]) cs
noncomputable def tstO (l : List Fd) (t : Tst) : Oc := cubO (0, (wid l : Nat), []) (cubL l t)
def isT (t : Tst) : Tst := ⟨t.f, 1, t.form, t.lo, t.hi, t.len, t.pat⟩
noncomputable def bothO (f : Int -> Int -> List Term -> List Term -> Oc) (x y : Oc) : Oc := if x.1 ≠ 0 then x else if y.1 ≠ 0 then y else f x.2.1 y.2.1 x.2.2 y.2.2
open Classical in
noncomputable def Tr.sp (l : List Fd) : Tr -> Oc
 | .leaf p => if p then (0, (wid l : Nat), [allT (wid l)]) else (0, (wid l : Nat), [])
 | .test t => if t.op = 2 then negO (wid l) (tstO l (isT t)) else tstO l t
 | .neg x => negO (wid l) (x.sp l)
 | .and x y => bothO meetO (x.sp l) (y.sp l)
 | .or x y => bothO joinO (x.sp l) (y.sp l)
theorem negO_err {w : Nat} {o : Oc} (h : o.1 ≠ 0) : negO w o = o := if_pos h
theorem negO_ok {w : Nat} {o : Oc} (h : o.1 = 0) : negO w o = minusO w o.2.1 [allT w] o.2.2 := if_neg (fun x => x h)
theorem bothO_1 {f : Int -> Int -> List Term -> List Term -> Oc} {x y : Oc} (h : x.1 ≠ 0) : bothO f x y = x := if_pos h
theorem bothO_2 {f : Int -> Int -> List Term -> List Term -> Oc} {x y : Oc} (h : x.1 = 0) (h2 : y.1 ≠ 0) : bothO f x y = y := (if_neg (fun e => e h)).trans (if_pos h2)
theorem bothO_3 {f : Int -> Int -> List Term -> List Term -> Oc} {x y : Oc} (h : x.1 = 0) (h2 : y.1 = 0) : bothO f x y = f x.2.1 y.2.1 x.2.2 y.2.2 := (if_neg (fun e => e h)).trans (if_neg (fun e => e h2))
theorem cubO_bad {o : Oc} {c : Str} {cs : List Str} (h : (joinO o.2.1 c.length o.2.2 [⟨c, []⟩]).1 ≠ 0) : cubO o (c :: cs) = joinO o.2.1 c.length o.2.2 [⟨c, []⟩] := if_pos h
theorem cubO_ok {o : Oc} {c : Str} {cs : List Str} (h : (joinO o.2.1 c.length o.2.2 [⟨c, []⟩]).1 = 0) : cubO o (c :: cs) = cubO (joinO o.2.1 c.length o.2.2 [⟨c, []⟩]) cs := if_neg (fun e => e h)
def FineO (o : Oc) : Prop := Fine o.2.1 o.2.2
theorem cubO_fine : ∀ (cs : List Str) (o : Oc), FineO o -> (∀ c ∈ cs, CT c /\ c ≠ []) -> FineO (cubO o cs)
 | [], o, h, _ => h
 | c :: cs, o, h, hc => by
  have h1 := hc c (by simp)
  have h2 : FineO (joinO o.2.1 c.length o.2.2 [⟨c, []⟩]) := joinO_fine h (one_fine h1.1 h1.2)
  by_cases he : (joinO o.2.1 c.length o.2.2 [⟨c, []⟩]).1 = 0
  . rw [cubO_ok he]; exact cubO_fine cs _ h2 fun x hx => hc x (by simp [hx])
  . rw [cubO_bad he]; exact h2
theorem xsT_cub (n : Nat) : cubOk (xsT n) := fun b hb => by rw [(List.mem_replicate.1 hb).2]; simp
theorem cub_app {a b : Str} (ha : cubOk a) (hb : cubOk b) : cubOk (a ++ b) := fun x hx => (List.mem_append.1 hx).elim (ha x) (hb x)
theorem bitC_cub (v k : Nat) : bitC v k = 48 \/ bitC v k = 49 := by unfold bitC; split <;> simp
theorem binT_cub (v b n : Nat) : cubOk (binT v b n) := fun x hx => by
 unfold binT at hx
 obtain ⟨i, _, rfl⟩ := List.mem_map.1 hx
 rcases bitC_cub v (b - 1 - i) with h | h <;> simp [h]
theorem coverF_cub {bits H : Nat} : ∀ (k lo : Nat), ∀ s ∈ coverF bits H k lo, cubOk s
 | 0, lo => by simp [coverF]
 | k + 1, lo => by
  unfold coverF
  split
  . intro s hs
    rcases List.mem_cons.1 hs with rfl | hs
    . exact cub_app (binT_cub _ _ _) (xsT_cub _)
    . exact coverF_cub k _ s hs
  . simp
theorem val_cub {t : Tst} {b : Nat} (h0 : 1 <= b) (hb : b <= 32) (hpl : t.form = 4 -> DigOk t.pat b) (hn : t.len.toNat <= b) : ∀ s ∈ valT t b, cubOk s := by
 have hc : ∀ H lo, ∀ s ∈ coverC b H lo, cubOk s := fun H lo => coverF_cub _ _
 have hol := one_len (t := t) (b := b) (fun h => (hpl h).1) hn
 have hoc := one_cub (t := t) (b := b) (fun h => (hpl h).2)
 intro s hs
 unfold valT eitT at hs
 repeat' split at hs
 all_goals first
  | exact hc _ _ s hs
  | (rcases List.mem_append.1 hs with h | h <;> exact hc _ _ s h)
  | (rw [List.mem_singleton.1 hs]; exact hoc)
  | (exact ((splitT_cn (xs_cn (by omega) h0) ⟨by omega, hoc⟩) s hs).1.1.2)
theorem chkFrom_wid {all : List Fd} : ∀ (r : List Fd) (i : Nat) (sum : Int), (chkFrom all r i sum).1 = 0 -> sum <= 256 -> sum + (wid r : Nat) <= 256
 | [], _, _, _, hs => by simp [wid]; exact hs
 | f :: r, i, sum, h, hs => by
  by_cases hb : badF (all.take i) f sum
  . rw [chkFrom_bad hb] at h; cases h
  . rw [chkFrom_ok hb] at h
    have h1 : ¬ 256 < sum + f.bits := fun e => hb (.inr (.inr (.inr (.inr (.inr (.inr e))))))
    have h2 : ¬ f.bits < 1 := fun e => hb (.inr (.inr (.inr (.inr (.inl e)))))
    have := chkFrom_wid r _ _ h (by omega)
    simp only [wid, List.map_cons, List.sum_cons] at this ⊢
    omega
theorem chk_wid {l : List Fd} (h : (chkO l).1 = 0) : wid l <= 256 := by
 by_cases h1 : 12 < l.length
 . rw [chkO_long h1] at h; cases h
 by_cases h2 : l.length = 0
 . rw [chkO_nil h2] at h; cases h
 rw [chkO_of h1 h2] at h
 have := chkFrom_wid _ _ _ h (by omega)
 omega
theorem cubL_ct {l : List Fd} {t : Tst} (hc : (chkO l).1 = 0) (he : errF l t = 0) : ∀ c ∈ cubL l t, CT c /\ c ≠ [] := by
 obtain ⟨hlay, _⟩ := chk_lay hc
 have hw := chk_wid hc
 rcases find_cases t.f l with hfi | ⟨k, f, hfi, hf⟩
 . rw [errF_none hfi] at he; cases he
 rw [errF_some hfi hf] at he
 have hfb := hlay f (List.mem_of_getElem? hf)
 obtain ⟨hF, hV, hD⟩ := errT_zero he
 have hn : t.len.toNat <= f.bits.toNat := by have := hV.2.2.2.2.2; omega
 intro c hcm
 unfold cubL at hcm
 rw [hfi, show ((k : Nat) : Int).toNat = k from rfl, hf] at hcm
 dsimp only at hcm
 obtain ⟨s, hs, rfl⟩ := List.mem_map.1 hcm
 have h1 := val_one (t := t) (b := f.bits.toNat) (by omega) (by omega) hD hn s hs
 have h2 := val_cub (t := t) (b := f.bits.toNat) (by omega) (by omega) hD hn s hs
 have h3 := wid_app l (k + 1)
 have h4 := wid_snoc hf
 have hlen : (wrapT l k s).length = wid l := by unfold wrapT; simp only [List.length_append, xsT_len]; omega
 refine ⟨⟨by omega, cub_app (cub_app (xsT_cub _) h2) (xsT_cub _)⟩, fun e => ?_⟩
 rw [e] at hlen
 simp at hlen
 omega
theorem cubL_len {l : List Fd} {t : Tst} (hc : (chkO l).1 = 0) (he : errF l t = 0) : (cubL l t).length <= 400 := by
 obtain ⟨hlay, _⟩ := chk_lay hc
 rcases find_cases t.f l with hfi | ⟨k, f, hfi, hf⟩
 . rw [errF_none hfi] at he; cases he
 rw [errF_some hfi hf] at he
 have hfb := hlay f (List.mem_of_getElem? hf)
 obtain ⟨hF, hV, hD⟩ := errT_zero he
 unfold ValOk at hV
 have h1 := val_len (t := t) (b := f.bits.toNat) (by omega) (by omega) (by omega) (by omega)
 unfold cubL
 rw [hfi, show ((k : Nat) : Int).toNat = k from rfl, hf]
 simpa using h1
theorem errT_is {t : Tst} {b : Nat} (h : t.op = 2) : errT (isT t) b = errT t b := by
 have hF : FormOk (isT t) = FormOk t := propext ⟨fun ⟨a, p⟩ => ⟨by simp only [isT] at a; omega, p⟩, fun ⟨a, p⟩ => ⟨by simp only [isT]; omega, p⟩⟩
 unfold errT
 rw [hF]
 rfl
theorem errF_is {l : List Fd} {t : Tst} (h : t.op = 2) : errF l (isT t) = errF l t := by
 rcases find_cases t.f l with hfi | ⟨k, f, hfi, hf⟩
 . rw [errF_none hfi, errF_none (t := isT t) hfi]
 . rw [errF_some hfi hf, errF_some (t := isT t) hfi hf, errT_is h]
theorem negO_fine {w : Nat} {o : Oc} (h0 : w ≠ 0) (h : w <= 256) (ho : FineO o) : FineO (negO w o) := by
 by_cases he : o.1 = 0
 . rw [negO_ok he]; exact minusO_fine (all_fine h0 h) ho
 . rw [negO_err he]; exact ho
theorem tstO_fine {l : List Fd} {t : Tst} (hc : (chkO l).1 = 0) (he : errF l t = 0) : FineO (tstO l t) :=
 cubO_fine _ _ (Fine.nil (by show (0 : Int) <= (wid l : Nat); omega) (by have := chk_wid hc; show ((wid l : Nat) : Int) <= 256; omega)) (cubL_ct hc he)
theorem sp_fine {l : List Fd} (hc : (chkO l).1 = 0) : ∀ x : Tr, x.ok l -> FineO (x.sp l)
 | .leaf p, _ => by
  have hw := chk_wid hc
  have h0 := wid_pos hc
  unfold Tr.sp
  split
  . exact all_fine h0 hw
  . exact Fine.nil (by show (0 : Int) <= (wid l : Nat); omega) (by show ((wid l : Nat) : Int) <= 256; omega)
 | .test t, h => by
  unfold Tr.sp
  split
  . rename_i h2
    exact negO_fine (wid_pos hc) (chk_wid hc) (tstO_fine hc (by rw [errF_is h2]; exact h))
  . exact tstO_fine hc h
 | .neg x, h => by unfold Tr.sp; exact negO_fine (wid_pos hc) (chk_wid hc) (sp_fine hc x h)
 | .and x y, h => by
  have h1 := sp_fine hc x h.1
  have h2 := sp_fine hc y h.2
  unfold Tr.sp bothO
  split
  . exact h1
  . split
    . exact h2
    . exact meetO_fine h1 h2
 | .or x y, h => by
  have h1 := sp_fine hc x h.1
  have h2 := sp_fine hc y h.2
  unfold Tr.sp bothO
  split
  . exact h1
  . split
    . exact h2
    . exact joinO_fine h1 h2
theorem stay {l : List Fd} {g : Int} (hg : g ≠ 0) : ∀ (e : List Nd) (us r : List Tr) (z x0 : Tr), buildR e (us ++ z :: r) = some [x0] -> (z.sp l).1 = g -> (∀ x ∈ r, (x.sp l).1 = 0) -> (x0.sp l).1 = g
 | [], us, r, z, x0, h, hz, hr => by
  unfold buildR at h
  have h := Option.some.inj h
  cases us with
  | nil => simp at h; obtain ⟨rfl, _⟩ := h; exact hz
  | cons u us => simp at h
 | c :: e, us, r, z, x0, h, hz, hr => by
  obtain ⟨rs1, h1, h2⟩ := bld_go h
  have hz0 : (z.sp l).1 ≠ 0 := by omega
  by_cases hk1 : c.kind = 1 \/ c.kind = 2
  . rw [sh12 hk1] at h1; cases h1
    exact stay hg e (_ :: us) r z x0 h2 hz hr
  by_cases hk3 : c.kind = 3
  . rw [sh3 hk3] at h1; cases h1
    exact stay hg e (_ :: us) r z x0 h2 hz hr
  by_cases hk4 : c.kind = 4
  . obtain ⟨x, r1, hx, rfl⟩ := sh4_some hk4 h1
    match us, hx with
    | [], hx =>
     simp at hx
     obtain ⟨rfl, rfl⟩ := hx
     exact stay hg e [] r (.neg z) x0 h2 (by show (negO _ _).1 = g; rw [negO_err hz0]; exact hz) hr
    | u :: us, hx =>
     simp at hx
     obtain ⟨rfl, rfl⟩ := hx
     exact stay hg e (.neg u :: us) r z x0 h2 hz hr
  by_cases hk5 : c.kind = 5
  . obtain ⟨x, y, r1, hx, rfl⟩ := sh5_some hk5 h1
    match us, hx with
    | [], hx =>
     simp at hx
     obtain ⟨rfl, rfl⟩ := hx
     exact stay hg e [] r1 (.and x z) x0 h2 (by show (bothO _ _ _).1 = g; rw [bothO_2 (hr x (by simp)) hz0]; exact hz) fun q hq => hr q (by simp [hq])
    | [u], hx =>
     simp at hx
     obtain ⟨rfl, rfl, rfl⟩ := hx
     exact stay hg e [] r (.and z u) x0 h2 (by show (bothO _ _ _).1 = g; rw [bothO_1 hz0]; exact hz) hr
    | u :: v :: us, hx =>
     simp at hx
     obtain ⟨rfl, rfl, rfl⟩ := hx
     exact stay hg e (.and v u :: us) r z x0 h2 hz hr
  by_cases hk6 : c.kind = 6
  . obtain ⟨x, y, r1, hx, rfl⟩ := sh6_some hk6 h1
    match us, hx with
    | [], hx =>
     simp at hx
     obtain ⟨rfl, rfl⟩ := hx
     exact stay hg e [] r1 (.or x z) x0 h2 (by show (bothO _ _ _).1 = g; rw [bothO_2 (hr x (by simp)) hz0]; exact hz) fun q hq => hr q (by simp [hq])
    | [u], hx =>
     simp at hx
     obtain ⟨rfl, rfl, rfl⟩ := hx
     exact stay hg e [] r (.or z u) x0 h2 (by show (bothO _ _ _).1 = g; rw [bothO_1 hz0]; exact hz) hr
    | u :: v :: us, hx =>
     simp at hx
     obtain ⟨rfl, rfl, rfl⟩ := hx
     exact stay hg e (.or v u :: us) r z x0 h2 hz hr
  rw [sh0 (by omega)] at h1
  cases h1
end Go.Proofs.YtagmibogginaaaaGreatDoor
namespace Go.Proofs.YtagmibogginaaaaGreatDoor
open Go Go.Vx Go.Shelf
set_option maxHeartbeats 8000000 in
theorem rof_at (c : Str) (hc : CT c) (hn : c ≠ []) : FSpec Tryz.prog T 57 [.s c, .lst 9 [] []] (DOut (0, (c.length : Int), [⟨c, []⟩])) := by
 have hlen := hc.len
 have ht := fun rm => rterm1_at c [] (rl := []) (rm := rm) hn hc.len (by simp) (by simp) rfl
 have hpos : 0 < c.length := List.length_pos_iff.2 hn
 refine FSpec.of_ok tok Tryz.func57 rfl Tryz.call57 (by simp) ?_
 (try (conv => whnf)); repeat' (first | refine Ok.seq ?_ | ((first | refine Ok.region tok ?_ | refine Ok.cond ?_); conv => whnf) | refine Ok.block ?_ | ((first | refine Ok.skip ?_ | refine Ok.ret ?_); conv => whnf) | (refine bI ?_ ?_ <;> intro <;> (conv => whnf) <;> (try (exfalso; omega))) | fail)
 all_goals first
  | (exfalso; omega)
  | (rename_i h; simp at h; done)
  | (rename_i h; simp at h; exact absurd h hn)
  | skip
 refine Ok.loopU [0, 1, 4] [6] 0 1 (fun (i : Unit) => [.i .i64 0]) (fun (i : Unit) (_ : List (List D)) => [[.i .i64 0, .nilS]]) (fun _ r => r) (fun (i : Unit) => True) (fun (i : Unit) => 0) (()) (trivial) ?_; (conv => whnf); refine ⟨by ((conv => whnf); first | rfl | (simp [envCat, List.take_of_length_le, nrow, frow, bcell, srow, tcells, crow, qrow, trow, drow]; done) | (simp [envCat, List.take_of_length_le, nrow, frow, bcell, srow, tcells, crow, qrow, trow, drow]; rw [IntKind.wrap_i64]; omega)), ?_⟩
 rintro _ _
 (conv => whnf)
 simp only [termT_one, Option.getD_some, Option.isSome_some] at ht
 (try (conv => whnf)); repeat' (first | ((first | refine ⟨fun h => absurd h (Int.lt_irrefl 0), fun _ => ?_⟩ | refine ⟨fun _ => ?_, fun h => absurd trivial h⟩); conv => whnf) | refine Ok.seq ?_ | ((first | refine Ok.region tok ?_ | refine Ok.cond ?_ | refine Ok.exit ?_ | refine Ok.ret ?_); conv => whnf) | (refine Or.inr (Or.inl ?_); (conv => whnf); (repeat (refine aI ?_; conv => whnf)); refine ⟨_, ht [] , ?_⟩; rintro _ _ ⟨rm2, rfl, rfl⟩ <;> (conv => whnf)) | (refine Or.inr (Or.inl ?_); (conv => whnf); (repeat (refine aI ?_; conv => whnf)); refine ⟨_, rbound_at (c.length : Int) [⟨⟨c, []⟩, rm2⟩] (by simp) (by simp) rfl , ?_⟩; rintro _ _ ⟨rfl, (⟨hb, rfl⟩ | ⟨hb, rfl⟩)⟩ <;> (conv => whnf)) | ((first | refine ⟨_, .inl ⟨rfl, rfl⟩, ?_⟩ | refine ⟨_, _, rfl, rfl, ?_⟩ | refine aJ ?_); conv => whnf) | fail)
 all_goals first
  | (exfalso; omega)
  | (rename_i h; exact absurd rfl h)
  | (exfalso; simp [szT] at hb; done)
  | (refine Or.inl ?_; (conv => whnf)
     exact ⟨rfl, _, rfl, [⟨⟨c, []⟩, rm2⟩], _, rfl, rfl⟩)
set_option maxHeartbeats 8000000 in
theorem rall_at (w : Nat) (h0 : w ≠ 0) (h : w <= 256) : FSpec Tryz.prog T 30 [.i .i64 (w : Nat)] (fun d rows => rows = [] /\ ∃ (ks : List TR) (rm : List (List D)), d = .agg [.i .i64 (w : Nat), .lst 109 (ks.map drow) rm] /\ ks.map TR.t = [allT w]) := by
 have hof := rof_at (List.replicate w 120) (rep_ct w h) (fun e => by have := congrArg List.length e; simp at this; exact h0 this)
 rw [List.length_replicate] at hof
 refine FSpec.of_ok tok Tryz.func30 rfl Tryz.call30 (by simp) ?_
 (try (conv => whnf)); repeat' (first | refine Ok.seq ?_ | (refine Ok.region tok ?_; conv => whnf) | refine Ok.block ?_ | ((first | refine ⟨_, _, rfl, rfl, ?_⟩ | refine aJ ?_ | refine ⟨_, rfl, ?_⟩); conv => whnf) | fail)
 all_goals first
  | (exfalso; omega)
  | skip
 rw [show List.replicate w [D.i .u8 0] = ((List.replicate 0 (120 : UInt8)) ++ (List.replicate w (0 : UInt8))).map bcell by simp [bcell]]
 refine Ok.loopU [0, 2, 3] [4] 1 1 (fun (i : Nat) => [.i .i64 (i : Nat)]) (fun (i : Nat) (_ : List (List D)) => [[.i .i64 0, .nilS]]) (fun (i : Nat) (_ : Vx.Rows) => [some (5, ((List.replicate i (120 : UInt8)) ++ (List.replicate (w - i) (0 : UInt8))).map bcell)]) (fun (i : Nat) => i <= w) (fun (i : Nat) => w - i) (0) (Nat.zero_le _) ?_; (conv => whnf); refine ⟨by ((conv => whnf); first | rfl | (simp [envCat, List.take_of_length_le, nrow, frow, bcell, srow, tcells, crow, qrow, trow, drow]; done) | (simp [envCat, List.take_of_length_le, nrow, frow, bcell, srow, tcells, crow, qrow, trow, drow]; rw [IntKind.wrap_i64]; omega)), ?_⟩
 intro i hi
 have hll : (((List.replicate i (120 : UInt8)) ++ (List.replicate (w - i) (0 : UInt8))).map bcell).length = w := by simp; omega
 (conv => whnf)
 by_cases hil : i < w
 . have hfa : ((List.replicate i (120 : UInt8)) ++ (List.replicate (w - i) (0 : UInt8)))[((i : Nat) : Int).toNat]? = some 0 := by
     rw [show ((i : Nat) : Int).toNat = i from rfl, List.getElem?_append_right (by simp)]
     simp only [List.length_replicate, Nat.sub_self, List.getElem?_replicate]
     rw [if_pos (by omega)]
   have hst : ((List.replicate i (120 : UInt8)) ++ (List.replicate (w - i) (0 : UInt8))).set i 120 = (List.replicate (i + 1) (120 : UInt8)) ++ (List.replicate (w - (i + 1)) (0 : UInt8)) := by
    rw [List.set_append_right _ _ (by simp), List.length_replicate, Nat.sub_self, show w - i = (w - (i + 1)) + 1 by omega, List.replicate_succ, List.set_cons_zero, List.replicate_succ', List.append_assoc]
    rfl
   (try (conv => whnf)); repeat' (first | (refine st (120 : UInt8) hfa (by simp [bcell]) rfl ?_; conv => whnf) | refine Ok.seq ?_ | ((first | refine Ok.region tok ?_ | refine Ok.cond ?_); conv => whnf) | refine Ok.block ?_ | ((first | refine Ok.skip ?_ | refine nI ?_); conv => whnf) | (refine bI ?_ ?_ <;> intro <;> (conv => whnf) <;> (try (exfalso; omega))) | (refine aJ ?_; conv => whnf) | fail)
   all_goals first
    | (exfalso; omega)
    | skip
   refine ⟨i + 1, by omega, by omega, ?_⟩
   rw [<- hst]
   (conv => whnf)
   rfl
 . have hie : i = w := by omega
   subst hie
   (try (conv => whnf)); repeat' (first | (refine ⟨List.replicate i 120, (by rw [List.take_of_length_le (by omega)]; simp), ?_⟩; conv => whnf) | refine Ok.seq ?_ | ((first | refine Ok.region tok ?_ | refine Ok.cond ?_ | refine Ok.exit ?_ | refine Ok.ret ?_); conv => whnf) | (refine Or.inr (Or.inl ?_); (conv => whnf); (repeat (refine aI ?_; conv => whnf)); refine ⟨_, hof , ?_⟩; rintro _ _ ⟨rfl, _, rfl, ks, rm, rfl, hks⟩ <;> (conv => whnf)) | (refine bI ?_ ?_ <;> intro <;> (conv => whnf) <;> (try (exfalso; omega))) | (refine aJ ?_; conv => whnf) | fail)
   all_goals first
    | (exfalso; omega)
    | (refine Or.inl ?_; (conv => whnf)
       exact ⟨rfl, ks, rm, rfl, hks⟩)
end Go.Proofs.YtagmibogginaaaaGreatDoor
namespace Go.Proofs.YtagmibogginaaaaGreatDoor
open Go Go.Vx Go.Shelf
def SpR (o : Oc) (d : D) (rows : Vx.Rows) : Prop := rows = [] /\ ∃ (n : Int) (ks : List TR) (rm : List (List D)), d = .tup [.agg [.i .i64 n, .lst 130 (ks.map trow) rm], .i .i64 o.1] /\ (o.1 = 0 -> n = o.2.1 /\ ks.map TR.t = o.2.2)
theorem SpR.err {o : Oc} {n : Int} {ks : List TR} {rm : List (List D)} (h : o.1 ≠ 0) : SpR o (.tup [.agg [.i .i64 n, .lst 130 (ks.map trow) rm], .i .i64 o.1]) [] := ⟨rfl, n, ks, rm, rfl, fun e => absurd e h⟩
theorem SpR.nil {o : Oc} {n : Int} {rm : List (List D)} (h : o.1 ≠ 0) : SpR o (.tup [.agg [.i .i64 n, .lst 130 [] rm], .i .i64 o.1]) [] := ⟨rfl, n, [], rm, rfl, fun e => absurd e h⟩
theorem every_at (w : Nat) (h0 : w ≠ 0) (h : w <= 256) : FSpec Tryz.prog T 157 [.i .i64 (w : Nat)] (POut (0, (w : Nat), [allT w])) := by
 have hne : List.replicate w (120 : UInt8) ≠ [] := fun e => by have := congrArg List.length e; simp at this; exact h0 this
 have hal := all_at (w : Nat)
 rw [allC_nat h0 h] at hal
 have hof := of_at (List.replicate w 120) [] [] (rep_ct w h) (by simp)
 rw [ofO_one hne, List.length_replicate] at hof
 refine FSpec.of_ok tok Tryz.func157 rfl Tryz.call157 (by simp) ?_
 (try (conv => whnf)); repeat' (first | refine Ok.seq ?_ | ((first | refine Ok.region tok ?_ | refine Ok.ret ?_); conv => whnf) | (refine Or.inr (Or.inl ?_); (conv => whnf); (repeat (refine aI ?_; conv => whnf)); refine ⟨_, hal , ?_⟩; rintro _ _ ⟨rfl, rfl⟩ <;> (conv => whnf)) | (refine Or.inr (Or.inl ?_); (conv => whnf); (repeat (refine aI ?_; conv => whnf)); refine ⟨_, hof , ?_⟩; rintro _ _ ⟨rfl, _, rfl, ks, rm, rfl, hks⟩ <;> (conv => whnf)) | fail)
 refine Or.inl ?_; (conv => whnf)
 exact ⟨rfl, _, rfl, ks, rm, rfl, hks⟩
set_option maxHeartbeats 8000000 in
theorem others_at (w : Nat) (h0 : w ≠ 0) (h : w <= 256) (o : Oc) (ho : FineO o) (n : Int) (ks : List TR) (rm : List (List D)) (hk : o.1 = 0 -> n = o.2.1 /\ ks.map TR.t = o.2.2) :
    FSpec Tryz.prog T 208 [.agg [.i .i64 n, .lst 130 (ks.map trow) rm], .i .i64 o.1, .i .i64 (w : Nat)] (SpR (negO w o)) := by
 have hev := every_at w h0 h
 by_cases he : o.1 = 0
 . obtain ⟨rfl, hks⟩ := hk he
   have hmi := fun ks1 rm1 hk1 => minus_at (all_fine h0 h) ho ks1 ks rm1 rm hk1 hks
   rw [negO_ok he, he]
   generalize minusO (w : Nat) o.2.1 [allT w] o.2.2 = M at *
   refine FSpec.of_ok tok Tryz.func208 rfl Tryz.call208 (by simp) ?_
   (try (conv => whnf)); repeat' (first | refine Ok.seq ?_ | ((first | refine Ok.region tok ?_ | refine Ok.cond ?_ | refine Ok.skip ?_ | refine Ok.ret ?_); conv => whnf) | (refine Or.inr (Or.inl ?_); (conv => whnf); (repeat (refine aI ?_; conv => whnf)); refine ⟨_, hev , ?_⟩; rintro _ _ ⟨rfl, _, rfl, ks1, rm1, rfl, hks1⟩ <;> (conv => whnf)) | (refine Or.inr (Or.inl ?_); (conv => whnf); (repeat (refine aI ?_; conv => whnf)); refine ⟨_, hmi ks1 rm1 hks1 , ?_⟩; rintro _ _ ⟨rfl, _, rfl, ks2, rm2, rfl, hks2⟩ <;> (conv => whnf)) | (refine bI ?_ ?_ <;> intro <;> (conv => whnf) <;> (try (exfalso; omega))) | fail)
   all_goals first
    | (exfalso; omega)
    | (rename_i h; exact absurd rfl h)
    | (refine Or.inl ?_; (conv => whnf)
       exact ⟨rfl, _, ks2, rm2, rfl, fun _ => ⟨rfl, hks2⟩⟩)
 . rw [negO_err he]
   refine FSpec.of_ok tok Tryz.func208 rfl Tryz.call208 (by simp) ?_
   (try (conv => whnf)); repeat' (first | refine Ok.seq ?_ | ((first | refine Ok.region tok ?_ | refine Ok.cond ?_ | refine Ok.ret ?_); conv => whnf) | (refine bI ?_ ?_ <;> intro <;> (conv => whnf) <;> (try (exfalso; omega))) | fail)
   all_goals first
    | (exfalso; omega)
    | (refine Or.inl ?_; (conv => whnf)
       exact SpR.err he)
theorem leafS (l : List Fd) (r : List (List D)) (p : Prop) (h0 : wid l ≠ 0) (h : wid l <= 256) : FSpec Tryz.prog T 155 [.agg [.b p], .lst 34 (l.map frow) r, .i .i64 (wid l : Nat)] (SpR ((Tr.leaf p).sp l)) := by
 have hev := every_at (wid l) h0 h
 have hno := none_at (wid l : Nat)
 have hnb : noneB (wid l : Nat) = (wid l : Nat) := by unfold noneB; rw [if_neg (by omega)]
 rw [hnb] at hno
 refine FSpec.of_ok tok Tryz.func155 rfl Tryz.call155 (by simp) ?_
 by_cases hp : p
 . rw [show (Tr.leaf p).sp l = ((0, ((wid l : Nat) : Int), [allT (wid l)]) : Oc) by unfold Tr.sp; rw [if_pos hp]]
   (try (conv => whnf)); repeat' (first | (refine ⟨fun _ => ?_, fun h => absurd hp h⟩; conv => whnf) | refine Ok.seq ?_ | ((first | refine Ok.region tok ?_ | refine Ok.cond ?_ | refine Ok.ret ?_); conv => whnf) | (refine Or.inr (Or.inl ?_); (conv => whnf); (repeat (refine aI ?_; conv => whnf)); refine ⟨_, hev , ?_⟩; rintro _ _ ⟨rfl, _, rfl, ks1, rm1, rfl, hks1⟩ <;> (conv => whnf)) | fail)
   refine Or.inl ?_; (conv => whnf)
   exact ⟨rfl, _, ks1, rm1, rfl, fun _ => ⟨rfl, hks1⟩⟩
 . rw [show (Tr.leaf p).sp l = ((0, ((wid l : Nat) : Int), []) : Oc) by unfold Tr.sp; rw [if_neg hp]]
   (try (conv => whnf)); repeat' (first | (refine ⟨fun h => absurd h hp, fun _ => ?_⟩; conv => whnf) | refine Ok.seq ?_ | ((first | refine Ok.region tok ?_ | refine Ok.cond ?_ | refine Ok.skip ?_ | refine Ok.ret ?_); conv => whnf) | (refine Or.inr (Or.inl ?_); (conv => whnf); (repeat (refine aI ?_; conv => whnf)); refine ⟨_, hno , ?_⟩; rintro _ _ ⟨rfl, rfl⟩ <;> (conv => whnf)) | fail)
   refine Or.inl ?_; (conv => whnf)
   exact ⟨rfl, _, [], [], rfl, fun _ => ⟨rfl, rfl⟩⟩
set_option maxRecDepth 100000 in
set_option maxHeartbeats 16000000 in
theorem plainS (l : List Fd) (r : List (List D)) (hl : l.length <= 1000) (hc : (chkO l).1 = 0) (f : Str) (op form lo hi len : Int) (pat : Str) (hs : pat.length <= 1000000000000) (hop : op ≠ 2) (he : errF l ⟨f, op, form, lo, hi, len, pat⟩ = 0) :
    FSpec Tryz.prog T 205 [.agg (tcl f op form lo hi len pat), .lst 34 (l.map frow) r, .i .i64 (wid l : Nat)] (SpR (tstO l ⟨f, op, form, lo, hi, len, pat⟩)) := by
 have h0 := wid_pos hc
 have hw := chk_wid hc
 have hcu := cubes_ok l r hl f op form lo hi len pat hs (by rw [errC_f hc]; exact he)
 have hct := cubL_ct hc he
 have hno := none_at (wid l : Nat)
 have hnb : noneB (wid l : Nat) = (wid l : Nat) := by unfold noneB; rw [if_neg (by omega)]
 rw [hnb] at hno
 have hcl : (cubL l ⟨f, op, form, lo, hi, len, pat⟩).length <= 400 := cubL_len hc he
 unfold tstO
 generalize cubL l ⟨f, op, form, lo, hi, len, pat⟩ = C at *
 have hCm : (C.map srow).length = C.length := by simp
 refine FSpec.of_ok tok Tryz.func205 rfl Tryz.call205 (by simp) ?_
 (try (conv => whnf)); repeat' (first | refine Ok.seq ?_ | ((first | refine Ok.region tok ?_ | refine Ok.cond ?_); conv => whnf) | refine Ok.block ?_ | (refine Ok.skip ?_; conv => whnf) | (refine Or.inr (Or.inl ?_); (conv => whnf); (repeat (refine aI ?_; conv => whnf)); refine ⟨_, hcu, ?_⟩; rintro _ _ ⟨rfl, rfl⟩; conv => whnf) | (refine Or.inr (Or.inl ?_); (conv => whnf); (repeat (refine aI ?_; conv => whnf)); refine ⟨_, hno , ?_⟩; rintro _ _ ⟨rfl, rfl⟩ <;> (conv => whnf)) | (refine bI ?_ ?_ <;> intro <;> (conv => whnf) <;> (try (exfalso; omega))) | fail)
 all_goals first
  | (exfalso; omega)
  | (rename_i h; exact absurd rfl h)
  | skip
 refine Ok.loopU [6, 12, 50, 51] [52] 1 3 (fun (x : Nat × Oc × List TR × List (List D)) => [.i .i64 (x.1 : Nat)]) (fun (x : Nat × Oc × List TR × List (List D)) (_ : List (List D)) => [tcl f op form lo hi len pat, [.i .i64 0, .nilS], [.i .i64 x.2.1.2.1, .lst 130 (x.2.2.1.map trow) x.2.2.2]]) (fun _ r => r) (fun (x : Nat × Oc × List TR × List (List D)) => x.1 <= C.length /\ FineO x.2.1 /\ x.2.1.1 = 0 /\ x.2.2.1.map TR.t = x.2.1.2.2 /\ cubO (0, (wid l : Nat), []) C = cubO x.2.1 (C.drop x.1)) (fun (x : Nat × Oc × List TR × List (List D)) => C.length - x.1) ((0, (0, (wid l : Nat), []), [], [])) (⟨Nat.zero_le _, Fine.nil (by show (0 : Int) <= (wid l : Nat); omega) (by show ((wid l : Nat) : Int) <= 256; omega), rfl, rfl, rfl⟩) ?_; (conv => whnf); refine ⟨by ((conv => whnf); first | rfl | (simp [envCat, List.take_of_length_le, nrow, frow, bcell, srow, tcells, crow, qrow, trow, drow]; done) | (simp [envCat, List.take_of_length_le, nrow, frow, bcell, srow, tcells, crow, qrow, trow, drow]; rw [IntKind.wrap_i64]; omega)), ?_⟩
 rintro ⟨k, o, ks, rm⟩ ⟨hk, hfo, ho0, hks, hcb⟩
 dsimp only at hk hfo ho0 hks hcb ⊢
 (conv => whnf)
 by_cases hkl : k < C.length
 . obtain ⟨c, hcc⟩ : ∃ c, C[k]? = some c := ⟨_, List.getElem?_eq_getElem hkl⟩
   have hcI : C[((k : Nat) : Int).toNat]? = some c := hcc
   obtain ⟨hc1, hc2⟩ := hct c (List.mem_of_getElem? hcc)
   have hpa := parse_at c
   rw [zer_of ⟨hc1, hc2⟩, perr_of ⟨hc1, hc2⟩] at hpa
   have hof := of_at c [] [] hc1 (by simp)
   rw [ofO_one hc2] at hof
   rw [edrop_at hcc] at hcb
   have hjo := fun ks1 rm1 hk1 => join_at hfo (one_fine hc1 hc2) ks ks1 rm rm1 hks hk1
   have hjf : FineO (joinO o.2.1 c.length o.2.2 [⟨c, []⟩]) := joinO_fine hfo (one_fine hc1 hc2)
   have hb1 := cubO_bad (o := o) (c := c) (cs := C.drop (k + 1))
   have hb2 := cubO_ok (o := o) (c := c) (cs := C.drop (k + 1))
   generalize joinO o.2.1 c.length o.2.2 [⟨c, []⟩] = J at *
   obtain ⟨je, jn, jt⟩ := J
   by_cases hje : je = 0
   . subst hje
     have hcb2 := hcb.trans (hb2 rfl)
     (try (conv => whnf)); repeat' (first | refine Ok.seq ?_ | ((first | refine Ok.region tok ?_ | refine Ok.cond ?_); conv => whnf) | refine Ok.block ?_ | ((first | refine Ok.skip ?_ | refine nI ?_); conv => whnf) | (refine Or.inr (Or.inl ?_); (conv => whnf); (repeat (refine aI ?_; conv => whnf)); refine ⟨_, hpa , ?_⟩; rintro _ _ ⟨rfl, rfl⟩ <;> (conv => whnf)) | (refine Or.inr (Or.inl ?_); (conv => whnf); (repeat (refine aI ?_; conv => whnf)); refine ⟨_, hof , ?_⟩; rintro _ _ ⟨rfl, _, rfl, ks1, rm1, rfl, hks1⟩ <;> (conv => whnf)) | (refine Or.inr (Or.inl ?_); (conv => whnf); (repeat (refine aI ?_; conv => whnf)); refine ⟨_, hjo ks1 rm1 hks1 , ?_⟩; rintro _ _ ⟨rfl, _, rfl, ks2, rm2, rfl, hks2⟩ <;> (conv => whnf)) | (refine rd rfl (by assumption) ?_; conv => whnf) | (refine bI ?_ ?_ <;> intro <;> (conv => whnf) <;> (try (exfalso; omega))) | (refine aJ ?_; conv => whnf) | fail)
     all_goals first
      | (exfalso; omega)
      | (rename_i h; exact absurd rfl h)
      | (refine ⟨(k + 1, (0, jn, jt), ks2, rm2), by dsimp only; omega, ⟨by dsimp only; omega, hjf, rfl, hks2, hcb2⟩, ?_⟩
         (conv => whnf)
         rfl)
   . have hcb2 := hcb.trans (hb1 hje)
     rw [hcb2]
     (try (conv => whnf)); repeat' (first | refine Ok.seq ?_ | ((first | refine Ok.region tok ?_ | refine Ok.cond ?_); conv => whnf) | refine Ok.block ?_ | ((first | refine Ok.skip ?_ | refine Ok.ret ?_); conv => whnf) | (refine Or.inr (Or.inl ?_); (conv => whnf); (repeat (refine aI ?_; conv => whnf)); refine ⟨_, hpa , ?_⟩; rintro _ _ ⟨rfl, rfl⟩ <;> (conv => whnf)) | (refine Or.inr (Or.inl ?_); (conv => whnf); (repeat (refine aI ?_; conv => whnf)); refine ⟨_, hof , ?_⟩; rintro _ _ ⟨rfl, _, rfl, ks1, rm1, rfl, hks1⟩ <;> (conv => whnf)) | (refine Or.inr (Or.inl ?_); (conv => whnf); (repeat (refine aI ?_; conv => whnf)); refine ⟨_, hjo ks1 rm1 hks1 , ?_⟩; rintro _ _ ⟨rfl, _, rfl, ks2, rm2, rfl, hks2⟩ <;> (conv => whnf)) | (refine rd rfl (by assumption) ?_; conv => whnf) | (refine bI ?_ ?_ <;> intro <;> (conv => whnf) <;> (try (exfalso; omega))) | (refine aJ ?_; conv => whnf) | fail)
     all_goals first
      | (exfalso; omega)
      | (rename_i h; exact absurd rfl h)
      | (refine Or.inl ?_; (conv => whnf)
         exact SpR.err (o := (je, jn, jt)) hje)
 . have hke : k = C.length := by omega
   subst hke
   rw [List.drop_length] at hcb
   have hcb : cubO (0, (wid l : Nat), []) C = o := hcb
   rw [hcb]
   (try (conv => whnf)); repeat' (first | refine Ok.seq ?_ | ((first | refine Ok.region tok ?_ | refine Ok.cond ?_ | refine Ok.exit ?_ | refine Ok.ret ?_); conv => whnf) | (refine bI ?_ ?_ <;> intro <;> (conv => whnf) <;> (try (exfalso; omega))) | fail)
   all_goals first
    | (exfalso; omega)
    | (refine Or.inl ?_; (conv => whnf)
       refine ⟨rfl, _, ks, rm, ?_, fun _ => ⟨rfl, hks⟩⟩
       rw [ho0]
       rfl)
end Go.Proofs.YtagmibogginaaaaGreatDoor
namespace Go.Proofs.YtagmibogginaaaaGreatDoor
open Go Go.Vx Go.Shelf
set_option maxHeartbeats 16000000 in
theorem testS (l : List Fd) (r : List (List D)) (hl : l.length <= 1000) (hc : (chkO l).1 = 0) (f : Str) (op form lo hi len : Int) (pat : Str) (hs : pat.length <= 1000000000000) (he : errF l ⟨f, op, form, lo, hi, len, pat⟩ = 0) :
    FSpec Tryz.prog T 205 [.agg (tcl f op form lo hi len pat), .lst 34 (l.map frow) r, .i .i64 (wid l : Nat)] (SpR ((Tr.test ⟨f, op, form, lo, hi, len, pat⟩).sp l)) := by
 by_cases hop : op = 2
 case neg =>
  rw [show (Tr.test ⟨f, op, form, lo, hi, len, pat⟩).sp l = tstO l ⟨f, op, form, lo, hi, len, pat⟩ by unfold Tr.sp; exact if_neg hop]
  exact plainS l r hl hc f op form lo hi len pat hs hop he
 rw [show (Tr.test ⟨f, op, form, lo, hi, len, pat⟩).sp l = negO (wid l) (tstO l ⟨f, 1, form, lo, hi, len, pat⟩) by unfold Tr.sp; exact if_pos hop]
 have h0 := wid_pos hc
 have hw := chk_wid hc
 have he1 : errF l ⟨f, 1, form, lo, hi, len, pat⟩ = 0 := by have := errF_is (l := l) (t := ⟨f, op, form, lo, hi, len, pat⟩) hop; exact this.trans he
 have hpl := plainS l r hl hc f 1 form lo hi len pat hs (by decide) he1
 have hof := tstO_fine hc he1
 subst hop
 generalize tstO l ⟨f, 1, form, lo, hi, len, pat⟩ = o at *
 have hot := fun n ks rm hk => others_at (wid l) h0 hw o hof n ks rm hk
 unfold SpR at hpl hot
 generalize negO (wid l) o = O2 at *
 generalize o.1 = o1 at *
 refine FSpec.of_ok tok Tryz.func205 rfl Tryz.call205 (by simp) ?_
 (try (conv => whnf)); repeat' (first | refine Ok.seq ?_ | ((first | refine Ok.region tok ?_ | refine Ok.cond ?_ | refine Ok.ret ?_); conv => whnf) | (refine Or.inr (Or.inl ?_); (conv => whnf); (repeat (refine aI ?_; conv => whnf)); refine ⟨_, hpl , ?_⟩; rintro _ _ ⟨rfl, n1, ks1, rm1, rfl, hk1⟩ <;> (conv => whnf)) | (refine Or.inr (Or.inl ?_); (conv => whnf); (repeat (refine aI ?_; conv => whnf)); refine ⟨_, hot n1 ks1 rm1 hk1 , ?_⟩; rintro _ _ ⟨rfl, n2, ks2, rm2, rfl, hk2⟩ <;> (conv => whnf)) | (refine bI ?_ ?_ <;> intro <;> (conv => whnf) <;> (try (exfalso; omega))) | fail)
 all_goals first
  | (exfalso; omega)
  | (refine Or.inl ?_; (conv => whnf)
     exact ⟨rfl, n2, ks2, rm2, rfl, hk2⟩)
theorem sLeaf : MethC Tryz.prog "reach/expr.space" 139 155 := .of tok (by kernel_rfl) (by kernel_rfl) Tryz.call155
theorem sTest : MethC Tryz.prog "reach/expr.space" 141 205 := .of tok (by kernel_rfl) (by kernel_rfl) Tryz.call205
theorem sNot : MethC Tryz.prog "reach/expr.space" 143 218 := .of tok (by kernel_rfl) (by kernel_rfl) Tryz.call218
theorem sAnd : MethC Tryz.prog "reach/expr.space" 147 224 := .of tok (by kernel_rfl) (by kernel_rfl) Tryz.call224
theorem sOr : MethC Tryz.prog "reach/expr.space" 148 234 := .of tok (by kernel_rfl) (by kernel_rfl) Tryz.call234
def Tr.pok : Tr -> Prop
 | .leaf _ => True | .test t => t.pat.length <= 1000000000000 | .neg x => x.pok | .and x y => x.pok /\ y.pok | .or x y => x.pok /\ y.pok
def SpS (l : List Fd) (r : List (List D)) (f : FuncId) (cs : List D) (o : Oc) : Prop := FSpec Tryz.prog T f [.agg cs, .lst 34 (l.map frow) r, .i .i64 (wid l : Nat)] (SpR o)
def SpR2 (x y : Oc) (d : D) (rows : Vx.Rows) : Prop := rows = [] /\ ∃ (n m : Int) (ks ks2 : List TR) (rm rm2 : List (List D)) (e : Int), d = .tup [.agg [.i .i64 n, .lst 130 (ks.map trow) rm], .agg [.i .i64 m, .lst 130 (ks2.map trow) rm2], .i .i64 e] /\
 (x.1 ≠ 0 -> e = x.1) /\ (x.1 = 0 -> e = y.1 /\ (y.1 = 0 -> (n = x.2.1 /\ ks.map TR.t = x.2.2) /\ m = y.2.1 /\ ks2.map TR.t = y.2.2))
set_option maxHeartbeats 16000000 in
theorem spaces_at (l : List Fd) (r : List (List D)) (x y : Tr) (fx fy : FuncId) (mx : MethC Tryz.prog "reach/expr.space" x.ty fx) (my : MethC Tryz.prog "reach/expr.space" y.ty fy) (sx : SpS l r fx x.cs (x.sp l)) (sy : SpS l r fy y.cs (y.sp l)) :
    FSpec Tryz.prog T 229 [.agg [x.d, y.d], .lst 34 (l.map frow) r, .i .i64 (wid l : Nat)] (SpR2 (x.sp l) (y.sp l)) := by
 unfold SpS SpR at sx sy
 unfold SpR2
 generalize x.sp l = o at *
 generalize y.sp l = o2 at *
 obtain ⟨oe, on, ot⟩ := o
 obtain ⟨pe, pn, pt⟩ := o2
 dsimp only at sx sy ⊢
 by_cases hoe : oe = 0
 . subst hoe
   refine FSpec.of_ok tok Tryz.func229 rfl Tryz.call229 (by simp) ?_
   (try (conv => whnf)); repeat' (first | refine Ok.seq ?_ | ((first | refine Ok.region tok ?_ | refine Ok.region_plan (id := 5) tok follows [(0, 3, []), (0, 4, []), (1, 4, []), (3, 4, [])] [.q 0, .q 1, .q 2, .l 3, .l 4, .q 5] (by kernel_rfl) ?_ | refine Ok.cond ?_ | refine Ok.skip ?_ | refine Ok.ret ?_); conv => whnf) | (refine Or.inr ?_; (conv => whnf); refine ⟨_, mx, ?_⟩; (conv => whnf); (repeat (refine aI ?_; conv => whnf)); refine ⟨_, sx, ?_⟩; rintro _ _ ⟨rfl, n1, ks1, rm1, rfl, hk1⟩ <;> (conv => whnf)) | (refine Or.inr ?_; (conv => whnf); refine ⟨_, my, ?_⟩; (conv => whnf); (repeat (refine aI ?_; conv => whnf)); refine ⟨_, sy, ?_⟩; rintro _ _ ⟨rfl, n2, ks2, rm2, rfl, hk2⟩ <;> (conv => whnf)) | (refine bI ?_ ?_ <;> intro <;> (conv => whnf) <;> (try (exfalso; omega))) | fail)
   all_goals first
    | (exfalso; omega)
    | (rename_i h; exact absurd rfl h)
    | (refine Or.inl ?_; (conv => whnf)
       exact ⟨rfl, _, _, ks1, ks2, rm1, rm2, _, rfl, fun e => absurd rfl e, fun _ => ⟨rfl, fun e => ⟨hk1 rfl, hk2 e⟩⟩⟩)
 . refine FSpec.of_ok tok Tryz.func229 rfl Tryz.call229 (by simp) ?_
   (try (conv => whnf)); repeat' (first | refine Ok.seq ?_ | ((first | refine Ok.region tok ?_ | refine Ok.region_plan (id := 3) tok follows [(0, 3, []), (0, 4, []), (1, 4, []), (3, 4, [])] [.q 0, .q 1, .q 2, .l 3, .l 4, .q 5] (by kernel_rfl) ?_ | refine Ok.cond ?_ | refine Ok.ret ?_); conv => whnf) | (refine Or.inr ?_; (conv => whnf); refine ⟨_, mx, ?_⟩; (conv => whnf); (repeat (refine aI ?_; conv => whnf)); refine ⟨_, sx, ?_⟩; rintro _ _ ⟨rfl, n1, ks1, rm1, rfl, hk1⟩ <;> (conv => whnf)) | (refine bI ?_ ?_ <;> intro <;> (conv => whnf) <;> (try (exfalso; omega))) | fail)
   all_goals first
    | (exfalso; omega)
    | (refine Or.inl ?_; (conv => whnf)
       exact ⟨rfl, _, _, ks1, [], rm1, _, _, rfl, fun _ => rfl, fun e => absurd e hoe⟩)
end Go.Proofs.YtagmibogginaaaaGreatDoor
namespace Go.Proofs.YtagmibogginaaaaGreatDoor
open Go Go.Vx Go.Shelf
theorem spaces_1 {l : List Fd} {r : List (List D)} {x y : Tr} (h : FSpec Tryz.prog T 229 [.agg [x.d, y.d], .lst 34 (l.map frow) r, .i .i64 (wid l : Nat)] (SpR2 (x.sp l) (y.sp l))) {e : Int} (he : (x.sp l).1 = e) (h0 : e ≠ 0) :
    FSpec Tryz.prog T 229 [.agg [x.d, y.d], .lst 34 (l.map frow) r, .i .i64 (wid l : Nat)] (fun d rows => rows = [] /\ ∃ (n m : Int) (ks ks2 : List TR) (rm rm2 : List (List D)), d = .tup [.agg [.i .i64 n, .lst 130 (ks.map trow) rm], .agg [.i .i64 m, .lst 130 (ks2.map trow) rm2], .i .i64 e]) := by
 refine FSpec.mono h ?_
 rintro d rows ⟨rfl, n, m, ks, ks2, rm, rm2, e', rfl, h1, _⟩
 subst he
 rw [h1 h0]
 exact ⟨rfl, n, m, ks, ks2, rm, rm2, rfl⟩
theorem spaces_2 {l : List Fd} {r : List (List D)} {x y : Tr} (h : FSpec Tryz.prog T 229 [.agg [x.d, y.d], .lst 34 (l.map frow) r, .i .i64 (wid l : Nat)] (SpR2 (x.sp l) (y.sp l))) {e : Int} (hx : (x.sp l).1 = 0) (he : (y.sp l).1 = e) :
    FSpec Tryz.prog T 229 [.agg [x.d, y.d], .lst 34 (l.map frow) r, .i .i64 (wid l : Nat)] (fun d rows => rows = [] /\ ∃ (n m : Int) (ks ks2 : List TR) (rm rm2 : List (List D)), d = .tup [.agg [.i .i64 n, .lst 130 (ks.map trow) rm], .agg [.i .i64 m, .lst 130 (ks2.map trow) rm2], .i .i64 e] /\
     (e = 0 -> (n = (x.sp l).2.1 /\ ks.map TR.t = (x.sp l).2.2) /\ m = (y.sp l).2.1 /\ ks2.map TR.t = (y.sp l).2.2)) := by
 refine FSpec.mono h ?_
 rintro d rows ⟨rfl, n, m, ks, ks2, rm, rm2, e', rfl, _, h2⟩
 subst he
 obtain ⟨rfl, h3⟩ := h2 hx
 exact ⟨rfl, n, m, ks, ks2, rm, rm2, rfl, h3⟩
set_option maxHeartbeats 16000000 in
theorem notS (l : List Fd) (r : List (List D)) (hc : (chkO l).1 = 0) (x : Tr) (hf : FineO (x.sp l)) (fx : FuncId) (mx : MethC Tryz.prog "reach/expr.space" x.ty fx) (sx : SpS l r fx x.cs (x.sp l)) : SpS l r 218 (Tr.neg x).cs ((Tr.neg x).sp l) := by
 have hot := fun n ks rm hk => others_at (wid l) (wid_pos hc) (chk_wid hc) (x.sp l) hf n ks rm hk
 have e1 : (Tr.neg x).sp l = negO (wid l) (x.sp l) := rfl
 unfold SpS at sx ⊢
 rw [e1]
 unfold SpR at sx hot ⊢
 generalize negO (wid l) (x.sp l) = O2 at *
 generalize x.sp l = o at *
 obtain ⟨oe, on, ot⟩ := o
 dsimp only at sx hot
 refine FSpec.of_ok tok Tryz.func218 rfl Tryz.call218 (by simp) ?_
 (try (conv => whnf)); repeat' (first | refine Ok.seq ?_ | ((first | refine Ok.region tok ?_ | refine Ok.ret ?_); conv => whnf) | (refine Or.inr ?_; (conv => whnf); refine ⟨_, mx, ?_⟩; (conv => whnf); (repeat (refine aI ?_; conv => whnf)); refine ⟨_, sx, ?_⟩; rintro _ _ ⟨rfl, n1, ks1, rm1, rfl, hk1⟩ <;> (conv => whnf)) | (refine Or.inr (Or.inl ?_); (conv => whnf); (repeat (refine aI ?_; conv => whnf)); refine ⟨_, hot n1 ks1 rm1 hk1 , ?_⟩; rintro _ _ ⟨rfl, n2, ks2, rm2, rfl, hk2⟩ <;> (conv => whnf)) | fail)
 all_goals first
  | (refine Or.inl ?_; (conv => whnf)
     exact ⟨rfl, n2, ks2, rm2, rfl, hk2⟩)
set_option maxHeartbeats 16000000 in
theorem andS (l : List Fd) (r : List (List D)) (x y : Tr) (hfx : FineO (x.sp l)) (hfy : FineO (y.sp l)) (fx fy : FuncId) (mx : MethC Tryz.prog "reach/expr.space" x.ty fx) (my : MethC Tryz.prog "reach/expr.space" y.ty fy) (sx : SpS l r fx x.cs (x.sp l)) (sy : SpS l r fy y.cs (y.sp l)) :
    SpS l r 224 (Tr.and x y).cs ((Tr.and x y).sp l) := by
 have hsp := spaces_at l r x y fx fy mx my sx sy
 have e1 : (Tr.and x y).sp l = bothO meetO (x.sp l) (y.sp l) := rfl
 unfold SpS
 rw [e1]
 show FSpec Tryz.prog T 224 [.agg [x.d, y.d], .lst 34 (l.map frow) r, .i .i64 (wid l : Nat)] _
 refine FSpec.of_ok tok Tryz.func224 rfl Tryz.call224 (by simp) ?_
 by_cases hx : (x.sp l).1 = 0
 . by_cases hy : (y.sp l).1 = 0
   . have h2 := spaces_2 hsp hx hy
     rw [bothO_3 hx hy]
     have hme := fun ks ks2 rm rm2 h1 h2 => meet2_at hfx hfy ks ks2 rm rm2 h1 h2
     generalize meetO (x.sp l).2.1 (y.sp l).2.1 (x.sp l).2.2 (y.sp l).2.2 = M at *
     (try (conv => whnf)); repeat' (first | (obtain ⟨⟨rfl, hk1⟩, rfl, hk2⟩ := hk rfl; clear hk) | refine Ok.seq ?_ | ((first | refine Ok.region tok ?_ | refine Ok.cond ?_ | refine Ok.skip ?_ | refine Ok.ret ?_); conv => whnf) | (refine Or.inr (Or.inl ?_); (conv => whnf); (repeat (refine aI ?_; conv => whnf)); refine ⟨_, h2 , ?_⟩; rintro _ _ ⟨rfl, n1, n2, ks1, ks2, rm1, rm2, rfl, hk⟩ <;> (conv => whnf)) | (refine Or.inr (Or.inl ?_); (conv => whnf); (repeat (refine aI ?_; conv => whnf)); refine ⟨_, hme ks1 ks2 rm1 rm2 hk1 hk2 , ?_⟩; rintro _ _ ⟨rfl, _, rfl, ks3, rm3, rfl, hks3⟩ <;> (conv => whnf)) | (refine bI ?_ ?_ <;> intro <;> (conv => whnf) <;> (try (exfalso; omega))) | fail)
     all_goals first
      | (exfalso; omega)
      | (rename_i h; exact absurd rfl h)
      | (refine Or.inl ?_; (conv => whnf)
         exact ⟨rfl, _, ks3, rm3, rfl, fun _ => ⟨rfl, hks3⟩⟩)
   . have h2 := spaces_2 hsp hx rfl
     rw [bothO_2 hx hy]
     generalize y.sp l = o at *
     obtain ⟨oe, on, ot⟩ := o
     dsimp only at h2 hy
     (try (conv => whnf)); repeat' (first | refine Ok.seq ?_ | ((first | refine Ok.region tok ?_ | refine Ok.cond ?_ | refine Ok.ret ?_); conv => whnf) | (refine Or.inr (Or.inl ?_); (conv => whnf); (repeat (refine aI ?_; conv => whnf)); refine ⟨_, h2 , ?_⟩; rintro _ _ ⟨rfl, n1, n2, ks1, ks2, rm1, rm2, rfl, hk⟩ <;> (conv => whnf)) | (refine bI ?_ ?_ <;> intro <;> (conv => whnf) <;> (try (exfalso; omega))) | fail)
     all_goals first
      | (exfalso; omega)
      | (refine Or.inl ?_; (conv => whnf)
         exact SpR.err (o := (oe, on, ot)) hy)
 . have h1 := spaces_1 hsp rfl hx
   rw [bothO_1 hx]
   generalize x.sp l = o at *
   obtain ⟨oe, on, ot⟩ := o
   dsimp only at h1 hx
   (try (conv => whnf)); repeat' (first | refine Ok.seq ?_ | ((first | refine Ok.region tok ?_ | refine Ok.cond ?_ | refine Ok.ret ?_); conv => whnf) | (refine Or.inr (Or.inl ?_); (conv => whnf); (repeat (refine aI ?_; conv => whnf)); refine ⟨_, h1 , ?_⟩; rintro _ _ ⟨rfl, n1, n2, ks1, ks2, rm1, rm2, rfl⟩ <;> (conv => whnf)) | (refine bI ?_ ?_ <;> intro <;> (conv => whnf) <;> (try (exfalso; omega))) | fail)
   all_goals first
    | (exfalso; omega)
    | (refine Or.inl ?_; (conv => whnf)
       exact SpR.err (o := (oe, on, ot)) hx)
set_option maxHeartbeats 16000000 in
theorem orS (l : List Fd) (r : List (List D)) (x y : Tr) (hfx : FineO (x.sp l)) (hfy : FineO (y.sp l)) (fx fy : FuncId) (mx : MethC Tryz.prog "reach/expr.space" x.ty fx) (my : MethC Tryz.prog "reach/expr.space" y.ty fy) (sx : SpS l r fx x.cs (x.sp l)) (sy : SpS l r fy y.cs (y.sp l)) :
    SpS l r 234 (Tr.or x y).cs ((Tr.or x y).sp l) := by
 have hsp := spaces_at l r x y fx fy mx my sx sy
 have e1 : (Tr.or x y).sp l = bothO joinO (x.sp l) (y.sp l) := rfl
 unfold SpS
 rw [e1]
 show FSpec Tryz.prog T 234 [.agg [x.d, y.d], .lst 34 (l.map frow) r, .i .i64 (wid l : Nat)] _
 refine FSpec.of_ok tok Tryz.func234 rfl Tryz.call234 (by simp) ?_
 by_cases hx : (x.sp l).1 = 0
 . by_cases hy : (y.sp l).1 = 0
   . have h2 := spaces_2 hsp hx hy
     rw [bothO_3 hx hy]
     have hme := fun ks ks2 rm rm2 h1 h2 => join_at hfx hfy ks ks2 rm rm2 h1 h2
     generalize joinO (x.sp l).2.1 (y.sp l).2.1 (x.sp l).2.2 (y.sp l).2.2 = M at *
     (try (conv => whnf)); repeat' (first | (obtain ⟨⟨rfl, hk1⟩, rfl, hk2⟩ := hk rfl; clear hk) | refine Ok.seq ?_ | ((first | refine Ok.region tok ?_ | refine Ok.cond ?_ | refine Ok.skip ?_ | refine Ok.ret ?_); conv => whnf) | (refine Or.inr (Or.inl ?_); (conv => whnf); (repeat (refine aI ?_; conv => whnf)); refine ⟨_, h2 , ?_⟩; rintro _ _ ⟨rfl, n1, n2, ks1, ks2, rm1, rm2, rfl, hk⟩ <;> (conv => whnf)) | (refine Or.inr (Or.inl ?_); (conv => whnf); (repeat (refine aI ?_; conv => whnf)); refine ⟨_, hme ks1 ks2 rm1 rm2 hk1 hk2 , ?_⟩; rintro _ _ ⟨rfl, _, rfl, ks3, rm3, rfl, hks3⟩ <;> (conv => whnf)) | (refine bI ?_ ?_ <;> intro <;> (conv => whnf) <;> (try (exfalso; omega))) | fail)
     all_goals first
      | (exfalso; omega)
      | (rename_i h; exact absurd rfl h)
      | (refine Or.inl ?_; (conv => whnf)
         exact ⟨rfl, _, ks3, rm3, rfl, fun _ => ⟨rfl, hks3⟩⟩)
   . have h2 := spaces_2 hsp hx rfl
     rw [bothO_2 hx hy]
     generalize y.sp l = o at *
     obtain ⟨oe, on, ot⟩ := o
     dsimp only at h2 hy
     (try (conv => whnf)); repeat' (first | refine Ok.seq ?_ | ((first | refine Ok.region tok ?_ | refine Ok.cond ?_ | refine Ok.ret ?_); conv => whnf) | (refine Or.inr (Or.inl ?_); (conv => whnf); (repeat (refine aI ?_; conv => whnf)); refine ⟨_, h2 , ?_⟩; rintro _ _ ⟨rfl, n1, n2, ks1, ks2, rm1, rm2, rfl, hk⟩ <;> (conv => whnf)) | (refine bI ?_ ?_ <;> intro <;> (conv => whnf) <;> (try (exfalso; omega))) | fail)
     all_goals first
      | (exfalso; omega)
      | (refine Or.inl ?_; (conv => whnf)
         exact SpR.err (o := (oe, on, ot)) hy)
 . have h1 := spaces_1 hsp rfl hx
   rw [bothO_1 hx]
   generalize x.sp l = o at *
   obtain ⟨oe, on, ot⟩ := o
   dsimp only at h1 hx
   (try (conv => whnf)); repeat' (first | refine Ok.seq ?_ | ((first | refine Ok.region tok ?_ | refine Ok.cond ?_ | refine Ok.ret ?_); conv => whnf) | (refine Or.inr (Or.inl ?_); (conv => whnf); (repeat (refine aI ?_; conv => whnf)); refine ⟨_, h1 , ?_⟩; rintro _ _ ⟨rfl, n1, n2, ks1, ks2, rm1, rm2, rfl⟩ <;> (conv => whnf)) | (refine bI ?_ ?_ <;> intro <;> (conv => whnf) <;> (try (exfalso; omega))) | fail)
   all_goals first
    | (exfalso; omega)
    | (refine Or.inl ?_; (conv => whnf)
       exact SpR.err (o := (oe, on, ot)) hx)
theorem space_at (l : List Fd) (r : List (List D)) (hl : l.length ≤ 1000) (hc : (chkO l).1 = 0) : ∀ x : Tr, x.ok l → x.pok → ∃ f, MethC Tryz.prog "reach/expr.space" x.ty f ∧ SpS l r f x.cs (x.sp l)
 | .leaf p, _, _ => ⟨_, sLeaf, leafS l r p (wid_pos hc) (chk_wid hc)⟩
 | .test t, h, hp => ⟨_, sTest, testS l r hl hc t.f t.op t.form t.lo t.hi t.len t.pat hp h⟩
 | .neg x, h, hp => by
  obtain ⟨fx, mx, sx⟩ := space_at l r hl hc x h hp
  exact ⟨_, sNot, notS l r hc x (sp_fine hc x h) fx mx sx⟩
 | .and x y, h, hp => by
  obtain ⟨fx, mx, sx⟩ := space_at l r hl hc x h.1 hp.1
  obtain ⟨fy, my, sy⟩ := space_at l r hl hc y h.2 hp.2
  exact ⟨_, sAnd, andS l r x y (sp_fine hc x h.1) (sp_fine hc y h.2) fx fy mx my sx sy⟩
 | .or x y, h, hp => by
  obtain ⟨fx, mx, sx⟩ := space_at l r hl hc x h.1 hp.1
  obtain ⟨fy, my, sy⟩ := space_at l r hl hc y h.2 hp.2
  exact ⟨_, sOr, orS l r x y (sp_fine hc x h.1) (sp_fine hc y h.2) fx fy mx my sx sy⟩
theorem shapeT_pok {c : Nd} {rs rs' : List Tr} (h : shapeT c rs = some rs') (hc : c.t.pat.length <= 1000000000000) (hr : ∀ x ∈ rs, x.pok) : ∀ x ∈ rs', x.pok := by
 unfold shapeT at h
 split at h
 . cases h
   intro x hx
   rcases List.mem_cons.1 hx with rfl | hx
   . exact trivial
   . exact hr x hx
 split at h
 . cases h
   intro x hx
   rcases List.mem_cons.1 hx with rfl | hx
   . exact hc
   . exact hr x hx
 split at h
 . split at h
   . cases h
     rename_i y r1
     intro x hx
     rcases List.mem_cons.1 hx with rfl | hx
     . exact hr y (by simp)
     . exact hr x (by simp [hx])
   . cases h
 split at h
 . split at h
   . cases h
     intro x hx
     rcases List.mem_cons.1 hx with rfl | hx
     . exact ⟨hr _ (by simp), hr _ (by simp)⟩
     . exact hr x (by simp [hx])
   . cases h
 split at h
 . split at h
   . cases h
     intro x hx
     rcases List.mem_cons.1 hx with rfl | hx
     . exact ⟨hr _ (by simp), hr _ (by simp)⟩
     . exact hr x (by simp [hx])
   . cases h
 . cases h
theorem buildR_pok : ∀ {e : List Nd} {rs z : List Tr}, buildR e rs = some z -> (∀ c ∈ e, c.t.pat.length <= 1000000000000) -> (∀ x ∈ rs, x.pok) -> ∀ x ∈ z, x.pok
 | [], rs, z, h, _, hr => by unfold buildR at h; cases h; exact hr
 | c :: e, rs, z, h, hc, hr => by
  obtain ⟨rs1, h1, h2⟩ := bld_go h
  exact buildR_pok h2 (fun d hd => hc d (by simp [hd])) (shapeT_pok h1 (hc c (by simp)) hr)
noncomputable def spcT (l : List Fd) : Option Tr -> Oc
 | some x => if (x.sp l).1 ≠ 0 then ((x.sp l).1, 0, []) else x.sp l
 | none => (0, 0, [])
open Classical in
noncomputable def spcO (l : List Fd) (e : List Nd) : Oc := if chkE l e ≠ 0 then (chkE l e, 0, []) else spcT l (bldO e)
theorem spcO_err {l : List Fd} {e : List Nd} (h : chkE l e ≠ 0) : spcO l e = (chkE l e, 0, []) := by unfold spcO; rw [if_pos h]
theorem spcO_sp {l : List Fd} {e : List Nd} {x : Tr} (h : chkE l e = 0) (hb : bldO e = some x) (h2 : (x.sp l).1 ≠ 0) : spcO l e = ((x.sp l).1, 0, []) := by unfold spcO; rw [if_neg (fun e => e h), hb]; exact if_pos h2
theorem spcO_ok {l : List Fd} {e : List Nd} {x : Tr} (h : chkE l e = 0) (hb : bldO e = some x) (h2 : (x.sp l).1 = 0) : spcO l e = x.sp l := by unfold spcO; rw [if_neg (fun e => e h), hb]; exact if_neg (fun e => e h2)
theorem spcO_fine (l : List Fd) (e : List Nd) : FineO (spcO l e) := by
 by_cases h : chkE l e = 0
 . obtain ⟨hco, _, x, hb, hxo, _⟩ := chk_good h
   by_cases h2 : (x.sp l).1 = 0
   . rw [spcO_ok h hb h2]; exact sp_fine hco x hxo
   . rw [spcO_sp h hb h2]; exact Fine.nil (n := 0) (by decide) (by decide)
 . rw [spcO_err h]; exact Fine.nil (n := 0) (by decide) (by decide)
end Go.Proofs.YtagmibogginaaaaGreatDoor
namespace Go.Proofs.YtagmibogginaaaaGreatDoor
open Go Go.Vx Go.Shelf
def nrm (o : Oc) : Oc := if o.1 ≠ 0 then (o.1, 0, []) else o
theorem nrm_err {o : Oc} (h : o.1 ≠ 0) : nrm o = (o.1, 0, []) := if_pos h
theorem nrm_ok {o : Oc} (h : o.1 = 0) : nrm o = o := if_neg (fun e => e h)
theorem nrm_1 (o : Oc) : (nrm o).1 = o.1 := by
 by_cases he : o.1 = 0
 . rw [nrm_ok he]
 . rw [nrm_err he]
set_option maxRecDepth 100000 in
set_option maxHeartbeats 16000000 in
theorem rplainS (l : List Fd) (r : List (List D)) (hl : l.length <= 1000) (hc : (chkO l).1 = 0) (f : Str) (op form lo hi len : Int) (pat : Str) (hs : pat.length <= 1000000000000) (he : errF l ⟨f, op, form, lo, hi, len, pat⟩ = 0) :
    FSpec Tryz.prog T 64 [.lst 34 (l.map frow) r, .agg (tcl f op form lo hi len pat)] (DOut (nrm (tstO l ⟨f, op, form, lo, hi, len, pat⟩))) := by
 have h0 := wid_pos hc
 have hw := chk_wid hc
 obtain ⟨hlay, _⟩ := chk_lay hc
 have hwd := ewidth_at l r hl hlay
 have hcu := rcubes_ok l r hl f op form lo hi len pat hs (by rw [errC_f hc]; exact he)
 have hct := cubL_ct hc he
 have hno := rnone_at (wid l : Nat)
 have hnb : noneB (wid l : Nat) = (wid l : Nat) := by unfold noneB; rw [if_neg (by omega)]
 rw [hnb] at hno
 have hcl : (cubL l ⟨f, op, form, lo, hi, len, pat⟩).length <= 400 := cubL_len hc he
 unfold tstO
 generalize cubL l ⟨f, op, form, lo, hi, len, pat⟩ = C at *
 have hCm : (C.map srow).length = C.length := by simp
 refine FSpec.of_ok tok Tryz.func64 rfl Tryz.call64 (by simp) ?_
 (try (conv => whnf)); repeat' (first | refine Ok.seq ?_ | (refine Ok.region tok ?_; conv => whnf) | refine Ok.block ?_ | (refine Or.inl ?_; (conv => whnf); (repeat (refine aI ?_; conv => whnf)); refine ⟨_, hwd, rfl, ?_⟩; conv => whnf) | (refine Or.inr (Or.inl ?_); (conv => whnf); (repeat (refine aI ?_; conv => whnf)); refine ⟨_, hcu, ?_⟩; rintro _ _ ⟨rfl, rfl⟩; conv => whnf) | (refine Or.inr (Or.inl ?_); (conv => whnf); (repeat (refine aI ?_; conv => whnf)); refine ⟨_, hno , ?_⟩; rintro _ _ ⟨rfl, rfl⟩ <;> (conv => whnf)) | fail)
 all_goals first
  | (exfalso; omega)
  | (rename_i h; exact absurd rfl h)
  | skip
 refine Ok.loopU [4, 6, 8] [10] 1 3 (fun (x : Nat × Oc × List TR × List (List D)) => [.i .i64 (x.1 : Nat)]) (fun (x : Nat × Oc × List TR × List (List D)) (_ : List (List D)) => [tcl f op form lo hi len pat, [.i .i64 0, .nilS], [.i .i64 x.2.1.2.1, .lst 109 (x.2.2.1.map drow) x.2.2.2]]) (fun _ r => r) (fun (x : Nat × Oc × List TR × List (List D)) => x.1 <= C.length /\ FineO x.2.1 /\ x.2.1.1 = 0 /\ x.2.2.1.map TR.t = x.2.1.2.2 /\ cubO (0, (wid l : Nat), []) C = cubO x.2.1 (C.drop x.1)) (fun (x : Nat × Oc × List TR × List (List D)) => C.length - x.1) ((0, (0, (wid l : Nat), []), [], [])) (⟨Nat.zero_le _, Fine.nil (by show (0 : Int) <= (wid l : Nat); omega) (by show ((wid l : Nat) : Int) <= 256; omega), rfl, rfl, rfl⟩) ?_; (conv => whnf); refine ⟨by ((conv => whnf); first | rfl | (simp [envCat, List.take_of_length_le, nrow, frow, bcell, srow, tcells, crow, qrow, trow, drow, zrow]; done) | (simp [envCat, List.take_of_length_le, nrow, frow, bcell, srow, tcells, crow, qrow, trow, drow, zrow]; rw [IntKind.wrap_i64]; omega)), ?_⟩
 rintro ⟨k, o, ks, rm⟩ ⟨hk, hfo, ho0, hks, hcb⟩
 dsimp only at hk hfo ho0 hks hcb ⊢
 (conv => whnf)
 by_cases hkl : k < C.length
 . obtain ⟨c, hcc⟩ : ∃ c, C[k]? = some c := ⟨_, List.getElem?_eq_getElem hkl⟩
   have hcI : C[((k : Nat) : Int).toNat]? = some c := hcc
   obtain ⟨hc1, hc2⟩ := hct c (List.mem_of_getElem? hcc)
   have hof := rof_at c hc1 hc2
   rw [edrop_at hcc] at hcb
   have hjo := fun ks1 rm1 hk1 => rjoin_at hfo (one_fine hc1 hc2) ks ks1 rm rm1 hks hk1
   have hjf : FineO (joinO o.2.1 c.length o.2.2 [⟨c, []⟩]) := joinO_fine hfo (one_fine hc1 hc2)
   have hb1 := cubO_bad (o := o) (c := c) (cs := C.drop (k + 1))
   have hb2 := cubO_ok (o := o) (c := c) (cs := C.drop (k + 1))
   generalize joinO o.2.1 c.length o.2.2 [⟨c, []⟩] = J at *
   obtain ⟨je, jn, jt⟩ := J
   by_cases hje : je = 0
   . subst hje
     have hcb2 := hcb.trans (hb2 rfl)
     (try (conv => whnf)); repeat' (first | refine Ok.seq ?_ | ((first | refine Ok.region tok ?_ | refine Ok.cond ?_); conv => whnf) | refine Ok.block ?_ | ((first | refine Ok.skip ?_ | refine nI ?_); conv => whnf) | (refine Or.inr (Or.inl ?_); (conv => whnf); (repeat (refine aI ?_; conv => whnf)); refine ⟨_, hof , ?_⟩; rintro _ _ ⟨rfl, _, rfl, ks1, rm1, rfl, hks1⟩ <;> (conv => whnf)) | (refine Or.inr (Or.inl ?_); (conv => whnf); (repeat (refine aI ?_; conv => whnf)); refine ⟨_, hjo ks1 rm1 hks1 , ?_⟩; rintro _ _ ⟨rfl, _, rfl, ks2, rm2, rfl, hks2⟩ <;> (conv => whnf)) | (refine rd rfl (by assumption) ?_; conv => whnf) | (refine bI ?_ ?_ <;> intro <;> (conv => whnf) <;> (try (exfalso; omega))) | (refine aJ ?_; conv => whnf) | fail)
     all_goals first
      | (exfalso; omega)
      | (rename_i h; exact absurd rfl h)
      | (refine ⟨(k + 1, (0, jn, jt), ks2, rm2), by dsimp only; omega, ⟨by dsimp only; omega, hjf, rfl, hks2, hcb2⟩, ?_⟩
         (conv => whnf)
         rfl)
   . have hcb2 := hcb.trans (hb1 hje)
     rw [hcb2, nrm_err (o := (je, jn, jt)) hje]
     (try (conv => whnf)); repeat' (first | refine Ok.seq ?_ | ((first | refine Ok.region tok ?_ | refine Ok.cond ?_); conv => whnf) | refine Ok.block ?_ | ((first | refine Ok.skip ?_ | refine Ok.ret ?_); conv => whnf) | (refine Or.inr (Or.inl ?_); (conv => whnf); (repeat (refine aI ?_; conv => whnf)); refine ⟨_, hof , ?_⟩; rintro _ _ ⟨rfl, _, rfl, ks1, rm1, rfl, hks1⟩ <;> (conv => whnf)) | (refine Or.inr (Or.inl ?_); (conv => whnf); (repeat (refine aI ?_; conv => whnf)); refine ⟨_, hjo ks1 rm1 hks1 , ?_⟩; rintro _ _ ⟨rfl, _, rfl, ks2, rm2, rfl, hks2⟩ <;> (conv => whnf)) | (refine rd rfl (by assumption) ?_; conv => whnf) | (refine bI ?_ ?_ <;> intro <;> (conv => whnf) <;> (try (exfalso; omega))) | (refine aJ ?_; conv => whnf) | fail)
     all_goals first
      | (exfalso; omega)
      | (rename_i h; exact absurd rfl h)
      | (refine Or.inl ?_; (conv => whnf)
         exact ⟨rfl, _, rfl, DSp.nil 0⟩)
 . have hke : k = C.length := by omega
   subst hke
   rw [List.drop_length] at hcb
   have hcb : cubO (0, (wid l : Nat), []) C = o := hcb
   rw [hcb, nrm_ok ho0]
   (try (conv => whnf)); repeat' (first | refine Ok.seq ?_ | ((first | refine Ok.region tok ?_ | refine Ok.cond ?_ | refine Ok.exit ?_ | refine Ok.ret ?_); conv => whnf) | (refine bI ?_ ?_ <;> intro <;> (conv => whnf) <;> (try (exfalso; omega))) | fail)
   all_goals first
    | (exfalso; omega)
    | (refine Or.inl ?_; (conv => whnf)
       refine ⟨rfl, _, ?_, ks, rm, rfl, hks⟩
       rw [ho0]
       rfl)
noncomputable def lfO (l : List Fd) (c : Nd) : Oc := (Tr.sp l) (if c.kind = 1 \/ c.kind = 2 then .leaf (c.kind = 1) else .test c.t)
def SpD (o : Oc) (d : D) (rows : Vx.Rows) : Prop := rows = [] /\ ∃ (n : Int) (ks : List TR) (rm : List (List D)), d = .tup [.agg [.i .i64 n, .lst 109 (ks.map drow) rm], .i .i64 o.1] /\ (o.1 = 0 -> n = o.2.1 /\ ks.map TR.t = o.2.2)
set_option maxHeartbeats 16000000 in
theorem rleafS (l : List Fd) (r : List (List D)) (hl : l.length <= 1000) (hc : (chkO l).1 = 0) (kind : Int) (f : Str) (op form lo hi len : Int) (pat : Str) (hk : kind = 1 \/ kind = 2 \/ kind = 3) (hs : pat.length <= 1000000000000) (he : kind = 3 -> errF l ⟨f, op, form, lo, hi, len, pat⟩ = 0) :
    FSpec Tryz.prog T 33 [.lst 34 (l.map frow) r, .agg (.i .i64 kind :: tcl f op form lo hi len pat)] (SpD (lfO l ⟨kind, f, op, form, lo, hi, len, pat⟩)) := by
 have h0 := wid_pos hc
 have hw := chk_wid hc
 obtain ⟨hlay, _⟩ := chk_lay hc
 have hwd := ewidth_at l r hl hlay
 have hno := rnone_at (wid l : Nat)
 have hnb : noneB (wid l : Nat) = (wid l : Nat) := by unfold noneB; rw [if_neg (by omega)]
 rw [hnb] at hno
 have hal := rall_at (wid l) h0 hw
 refine FSpec.of_ok tok Tryz.func33 rfl Tryz.call33 (by simp) ?_
 rcases hk with rfl | rfl | rfl
 . rw [show lfO l ⟨1, f, op, form, lo, hi, len, pat⟩ = ((0, ((wid l : Nat) : Int), [allT (wid l)]) : Oc) by
     unfold lfO
     rw [if_pos (.inl rfl)]
     unfold Tr.sp
     rw [if_pos rfl]]
   (try (conv => whnf)); repeat' (first | refine Ok.seq ?_ | ((first | refine Ok.region tok ?_ | refine Ok.cond ?_); conv => whnf) | refine Ok.block ?_ | (refine Ok.ret ?_; conv => whnf) | (refine Or.inl ?_; (conv => whnf); (repeat (refine aI ?_; conv => whnf)); refine ⟨_, hwd, rfl, ?_⟩; conv => whnf) | (refine Or.inr (Or.inl ?_); (conv => whnf); (repeat (refine aI ?_; conv => whnf)); refine ⟨_, hal , ?_⟩; rintro _ _ ⟨rfl, ks1, rm1, rfl, hks1⟩ <;> (conv => whnf)) | (refine bI ?_ ?_ <;> intro <;> (conv => whnf) <;> (try (exfalso; omega))) | fail)
   all_goals first
    | (exfalso; omega)
    | (rename_i h; exact absurd rfl h)
    | (refine Or.inl ?_; (conv => whnf)
       exact ⟨rfl, _, ks1, rm1, rfl, fun _ => ⟨rfl, hks1⟩⟩)
 . rw [show lfO l ⟨2, f, op, form, lo, hi, len, pat⟩ = ((0, ((wid l : Nat) : Int), []) : Oc) by
     unfold lfO
     rw [if_pos (.inr rfl)]
     unfold Tr.sp
     rw [if_neg (show ¬ ((2 : Int) = 1) by decide)]]
   (try (conv => whnf)); repeat' (first | refine Ok.seq ?_ | ((first | refine Ok.region tok ?_ | refine Ok.cond ?_); conv => whnf) | refine Ok.block ?_ | (refine Ok.ret ?_; conv => whnf) | (refine Or.inl ?_; (conv => whnf); (repeat (refine aI ?_; conv => whnf)); refine ⟨_, hwd, rfl, ?_⟩; conv => whnf) | (refine Or.inr (Or.inl ?_); (conv => whnf); (repeat (refine aI ?_; conv => whnf)); refine ⟨_, hno , ?_⟩; rintro _ _ ⟨rfl, rfl⟩ <;> (conv => whnf)) | (refine bI ?_ ?_ <;> intro <;> (conv => whnf) <;> (try (exfalso; omega))) | fail)
   all_goals first
    | (exfalso; omega)
    | (rename_i h; exact absurd rfl h)
    | (refine Or.inl ?_; (conv => whnf)
       exact ⟨rfl, _, [], [], rfl, fun _ => ⟨rfl, rfl⟩⟩)
 . have he := he rfl
   by_cases hop : op = 2
   . have he1 : errF l ⟨f, 1, form, lo, hi, len, pat⟩ = 0 := by have := errF_is (l := l) (t := ⟨f, op, form, lo, hi, len, pat⟩) hop; exact this.trans he
     have hpl := rplainS l r hl hc f 1 form lo hi len pat hs he1
     have hof := tstO_fine hc he1
     rw [show lfO l ⟨3, f, op, form, lo, hi, len, pat⟩ = negO (wid l) (tstO l ⟨f, 1, form, lo, hi, len, pat⟩) by
      unfold lfO
      rw [if_neg (show ¬ ((3 : Int) = 1 \/ (3 : Int) = 2) by decide)]
      unfold Tr.sp
      exact if_pos hop]
     subst hop
     generalize tstO l ⟨f, 1, form, lo, hi, len, pat⟩ = o at *
     by_cases hoe : o.1 = 0
     . rw [nrm_ok hoe] at hpl
       rw [negO_ok hoe]
       have hmi := fun ks1 ks rm1 rm hk1 hks => rminus_at (all_fine h0 hw) hof ks1 ks rm1 rm hk1 hks
       unfold DOut at hpl
       rw [hoe] at hpl
       generalize minusO (wid l : Nat) o.2.1 [allT (wid l)] o.2.2 = M at *
       obtain ⟨me, mn, mt⟩ := M
       (try (conv => whnf)); repeat' (first | refine Ok.seq ?_ | ((first | refine Ok.region tok ?_ | refine Ok.region_plan (id := 14) tok follows [(2, 3, []), (1, 3, []), (2, 6, []), (1, 6, []), (3, 6, [])] [.q 0, .q 2, .l 1, .l 3, .q 4, .q 5, .l 6, .q 7] (by kernel_rfl) ?_ | refine Ok.cond ?_); conv => whnf) | refine Ok.block ?_ | ((first | refine Ok.skip ?_ | refine Ok.ret ?_); conv => whnf) | (refine Or.inl ?_; (conv => whnf); (repeat (refine aI ?_; conv => whnf)); refine ⟨_, hwd, rfl, ?_⟩; conv => whnf) | (refine Or.inr (Or.inl ?_); (conv => whnf); (repeat (refine aI ?_; conv => whnf)); refine ⟨_, hal , ?_⟩; rintro _ _ ⟨rfl, ks1, rm1, rfl, hks1⟩ <;> (conv => whnf)) | (refine Or.inr (Or.inl ?_); (conv => whnf); (repeat (refine aI ?_; conv => whnf)); refine ⟨_, hpl , ?_⟩; rintro _ _ ⟨rfl, _, rfl, ks2, rm2, rfl, hks2⟩ <;> (conv => whnf)) | (refine Or.inr (Or.inl ?_); (conv => whnf); (repeat (refine aI ?_; conv => whnf)); refine ⟨_, hmi ks1 ks2 rm1 rm2 hks1 hks2 , ?_⟩; rintro _ _ ⟨rfl, _, rfl, ks3, rm3, rfl, hks3⟩ <;> (conv => whnf)) | (refine bI ?_ ?_ <;> intro <;> (conv => whnf) <;> (try (exfalso; omega))) | fail)
       all_goals first
        | (exfalso; omega)
        | (rename_i h; exact absurd rfl h)
        | (refine Or.inl ?_; (conv => whnf)
           exact ⟨rfl, _, ks3, rm3, rfl, fun _ => ⟨rfl, hks3⟩⟩)
     . rw [nrm_err hoe] at hpl
       rw [negO_err hoe]
       unfold DOut at hpl
       unfold SpD
       generalize o.1 = oe at *
       (try (conv => whnf)); repeat' (first | refine Ok.seq ?_ | ((first | refine Ok.region tok ?_ | refine Ok.cond ?_); conv => whnf) | refine Ok.block ?_ | ((first | refine Ok.skip ?_ | refine Ok.ret ?_); conv => whnf) | (refine Or.inl ?_; (conv => whnf); (repeat (refine aI ?_; conv => whnf)); refine ⟨_, hwd, rfl, ?_⟩; conv => whnf) | (refine Or.inr (Or.inl ?_); (conv => whnf); (repeat (refine aI ?_; conv => whnf)); refine ⟨_, hpl , ?_⟩; rintro _ _ ⟨rfl, _, rfl, ks2, rm2, rfl, hks2⟩ <;> (conv => whnf)) | (refine bI ?_ ?_ <;> intro <;> (conv => whnf) <;> (try (exfalso; omega))) | fail)
       all_goals first
        | (exfalso; omega)
        | (rename_i h; exact absurd rfl h)
        | (refine Or.inl ?_; (conv => whnf)
           exact ⟨rfl, 0, [], [], rfl, fun h => absurd h hoe⟩)
   . have hpl := rplainS l r hl hc f op form lo hi len pat hs he
     rw [show lfO l ⟨3, f, op, form, lo, hi, len, pat⟩ = tstO l ⟨f, op, form, lo, hi, len, pat⟩ by
      unfold lfO
      rw [if_neg (show ¬ ((3 : Int) = 1 \/ (3 : Int) = 2) by decide)]
      unfold Tr.sp
      exact if_neg hop]
     generalize tstO l ⟨f, op, form, lo, hi, len, pat⟩ = o at *
     have h1 := nrm_1 o
     have h2 := fun h => nrm_ok (o := o) h
     generalize nrm o = o2 at *
     obtain ⟨pe, pn, pt⟩ := o2
     unfold DOut at hpl
     unfold SpD
     dsimp only at hpl h1
     rw [<- h1]
     (try (conv => whnf)); repeat' (first | refine Ok.seq ?_ | ((first | refine Ok.region tok ?_ | refine Ok.cond ?_); conv => whnf) | refine Ok.block ?_ | ((first | refine Ok.skip ?_ | refine Ok.ret ?_); conv => whnf) | (refine Or.inl ?_; (conv => whnf); (repeat (refine aI ?_; conv => whnf)); refine ⟨_, hwd, rfl, ?_⟩; conv => whnf) | (refine Or.inr (Or.inl ?_); (conv => whnf); (repeat (refine aI ?_; conv => whnf)); refine ⟨_, hpl , ?_⟩; rintro _ _ ⟨rfl, _, rfl, ks2, rm2, rfl, hks2⟩ <;> (conv => whnf)) | (refine bI ?_ ?_ <;> intro <;> (conv => whnf) <;> (try (exfalso; omega))) | fail)
     all_goals first
      | (exfalso; omega)
      | (rename_i h; exact absurd rfl h)
      | (refine Or.inl ?_; (conv => whnf)
         refine ⟨rfl, _, ks2, rm2, rfl, fun h => ?_⟩
         rw [<- h2 (h1 ▸ h)]
         exact ⟨rfl, hks2⟩)
end Go.Proofs.YtagmibogginaaaaGreatDoor
namespace Go.Proofs.YtagmibogginaaaaGreatDoor
open Go Go.Vx Go.Shelf
abbrev ZT := Tr × Int × List TR × List (List D)
@[reducible] def zrow (q : ZT) : List D := [.i .i64 q.2.1, .lst 109 (q.2.2.1.map drow) q.2.2.2]
def ZOk (l : List Fd) (q : ZT) : Prop := (q.1.sp l).1 = 0 /\ q.2.1 = (q.1.sp l).2.1 /\ q.2.2.1.map TR.t = (q.1.sp l).2.2
theorem zpush_nil (ps : List ZT) (x : ZT) : ((ps.reverse ++ []).map zrow) ++ [zrow x] = ((x :: ps).reverse ++ []).map zrow := by simp
theorem zpush_cons (ps : List ZT) (x y : ZT) (j : List ZT) : ((ps.reverse ++ y :: j).map zrow).set ps.length (zrow x) = ((x :: ps).reverse ++ j).map zrow := by
 rw [List.map_append, List.set_append_right _ _ (by simp)]
 simp
theorem zset_top (x y : ZT) (ps : List ZT) (j : List ZT) : (((y :: ps).reverse ++ j).map zrow).set ps.length (zrow x) = ((x :: ps).reverse ++ j).map zrow := by
 rw [show ((y :: ps).reverse ++ j) = ps.reverse ++ y :: j by simp]
 exact zpush_cons ps x y j
theorem zset_top2 (x y z : ZT) (ps : List ZT) (j : List ZT) : (((z :: y :: ps).reverse ++ j).map zrow).set ps.length (zrow x) = ((x :: ps).reverse ++ (z :: j)).map zrow := by
 rw [show ((z :: y :: ps).reverse ++ j) = ps.reverse ++ y :: (z :: j) by simp]
 exact zpush_cons ps x y (z :: j)
theorem zpile_top (x : ZT) (r j : List ZT) : ((x :: r).reverse ++ j)[r.length]? = some x := by simp
theorem zpile_top2 (x y : ZT) (r j : List ZT) : ((y :: x :: r).reverse ++ j)[r.length]? = some x := by simp
theorem zok_cons {l : List Fd} {q : ZT} {ps : List ZT} (h1 : ZOk l q) (h2 : ∀ q ∈ ps, ZOk l q) : ∀ q' ∈ q :: ps, ZOk l q' := by
 intro q' hq
 rcases List.mem_cons.1 hq with rfl | hq
 . exact h1
 . exact h2 q' hq
theorem zmap {l : List Fd} {ps : List ZT} (h : ∀ q ∈ ps, ZOk l q) : ∀ x ∈ ps.map Prod.fst, (x.sp l).1 = 0 := by
 intro x hx
 obtain ⟨q, hq, rfl⟩ := List.mem_map.1 hx
 exact (h q hq).1
theorem lf12 {l : List Fd} {c : Nd} (h : c.kind = 1 \/ c.kind = 2) : lfO l c = (Tr.leaf (c.kind = 1)).sp l := by unfold lfO; rw [if_pos h]
theorem lf3 {l : List Fd} {c : Nd} (h : c.kind = 3) : lfO l c = (Tr.test c.t).sp l := by unfold lfO; rw [if_neg (by omega)]
set_option maxRecDepth 100000 in
set_option maxHeartbeats 64000000 in
theorem rspace_ok (l : List Fd) (r : List (List D)) (e : List Nd) (r2 : List (List D)) (hl : l.length <= 1000) (he : e.length <= 1000) (htx : TxtOk e) (hc : chkE l e = 0) (x0 : Tr) (hb0 : bldO e = some x0) (ht : ∀ c ∈ e, c.kind = 3 -> errF l c.t = 0) :
    FSpec Tryz.prog T 18 [.lst 34 (l.map frow) r, .lst 56 (e.map nrow) r2] (DOut (spcO l e)) := by
 have h1 : (l.map frow).length = l.length := by simp
 have h2 : (e.map nrow).length = e.length := by simp
 have hk := rechk_at l r e r2 hl he htx
 rw [hc] at hk
 obtain ⟨hco, _, x1, hb1, hxo1, _⟩ := chk_good hc
 obtain ⟨hlay, _⟩ := chk_lay hco
 have h0 := wid_pos hco
 have hw := chk_wid hco
 have hwd := ewidth_at l r hl hlay
 have hal := rall_at (wid l) h0 hw
 have hone := bldO_one hb0
 have hs1 := spcO_sp hc hb0
 have hs2 := spcO_ok hc hb0
 refine FSpec.of_ok tok Tryz.func18 rfl Tryz.call18 (by simp) ?_
 (try (conv => whnf)); repeat' (first | refine Ok.seq ?_ | ((first | refine Ok.region tok ?_ | refine Ok.cond ?_); conv => whnf) | refine Ok.block ?_ | (refine Ok.skip ?_; conv => whnf) | (refine Or.inl ?_; (conv => whnf); (repeat (refine aI ?_; conv => whnf)); refine ⟨_, hk, rfl, ?_⟩; conv => whnf) | (refine bI ?_ ?_ <;> intro <;> (conv => whnf) <;> (try (exfalso; omega))) | fail)
 all_goals first
  | (exfalso; omega)
  | (rename_i h; exact absurd rfl h)
  | skip
 refine Ok.ghost 7 49 rfl ?_
 (conv => whnf)
 refine Ok.loopU [0, 1, 4] [7, 8] 1 1 (fun (x : Nat × Nat × List ZT × List ZT) => [.own 0 x.2.1, .i .i64 (x.1 : Nat)]) (fun (x : Nat × Nat × List ZT × List ZT) (_ : List (List D)) => [[.i .i64 0, .nilS]]) (fun (x : Nat × Nat × List ZT × List ZT) (_ : Vx.Rows) => [some (49, (x.2.2.1.reverse ++ x.2.2.2).map zrow)]) (fun (x : Nat × Nat × List ZT × List ZT) => x.1 <= e.length /\ x.2.2.1.length = x.2.1 /\ x.2.1 + x.2.2.2.length <= x.1 /\ buildR (e.drop x.1) (x.2.2.1.map Prod.fst) = some [x0] /\ (∀ q ∈ x.2.2.1, ZOk l q) /\ ∀ q ∈ x.2.2.1, q.1.ok l) (fun (x : Nat × Nat × List ZT × List ZT) => e.length - x.1) ((0, 0, [], [])) (⟨Nat.zero_le _, rfl, Nat.le_refl _, hone, by simp, by simp⟩) ?_; (conv => whnf); refine ⟨by ((conv => whnf); first | rfl | (simp [envCat, List.take_of_length_le, nrow, frow, bcell, srow, tcells, crow, qrow, trow, drow, zrow]; done) | (simp [envCat, List.take_of_length_le, nrow, frow, bcell, srow, tcells, crow, qrow, trow, drow, zrow]; rw [IntKind.wrap_i64]; omega)), ?_⟩
 rintro ⟨i, n, ps, j⟩ ⟨hi, hn, hj, hb, hz, hox⟩
 dsimp only at hi hn hj hb hz hox ⊢
 have hlm : ((ps.reverse ++ j).map zrow).length = n + j.length := by simp [hn]
 (conv => whnf)
 by_cases hil : i < e.length
 . obtain ⟨c, hcc⟩ : ∃ c, e[i]? = some c := ⟨_, List.getElem?_eq_getElem hil⟩
   have hcI : e[((i : Nat) : Int).toNat]? = some c := hcc
   have htc := htx c (List.mem_of_getElem? hcc)
   rw [edrop_at hcc] at hb
   obtain ⟨rs1, hsh, hb2⟩ := bld_go hb
   by_cases hkk : c.kind = 1 \/ c.kind = 2
   . rw [sh12 hkk] at hsh
     cases hsh
     have hlf := rleafS l r hl hco c.kind c.t.f c.t.op c.t.form c.t.lo c.t.hi c.t.len c.t.pat (by omega) htc.2 (fun h3 => ht c (List.mem_of_getElem? hcc) h3)
     rw [lf12 (c := ⟨c.kind, c.t.f, c.t.op, c.t.form, c.t.lo, c.t.hi, c.t.len, c.t.pat⟩) hkk] at hlf
     have hst := stay (l := l) (e := e.drop (i + 1)) (us := []) (r := ps.map Prod.fst) (z := (Tr.leaf (c.kind = 1))) (x0 := x0) (g := ((Tr.leaf (c.kind = 1)).sp l).1)
     have hxk : Tr.ok l ((Tr.leaf (c.kind = 1))) := trivial
     change FSpec _ _ _ _ (SpD ((Tr.leaf (c.kind = 1)).sp l)) at hlf
     unfold SpD at hlf
     have hzk : ∀ (m : Int) (ks : List TR) (rm : List (List D)), ((Tr.leaf (c.kind = 1)).sp l).1 = 0 -> m = ((Tr.leaf (c.kind = 1)).sp l).2.1 -> ks.map TR.t = ((Tr.leaf (c.kind = 1)).sp l).2.2 -> ZOk l ((Tr.leaf (c.kind = 1)), m, ks, rm) := fun m ks rm a b c => ⟨a, b, c⟩
     generalize (Tr.leaf (c.kind = 1)).sp l = o at *
     obtain ⟨oe, on, ot⟩ := o
     dsimp only at hst hzk hlf
     by_cases hoe : oe = 0
     . subst hoe
       cases j with
       | nil =>
        simp only [List.length_nil, Nat.add_zero] at hj hlm
        (try (conv => whnf)); repeat' (first | refine Ok.seq ?_ | ((first | refine Ok.region tok ?_ | refine Ok.cond ?_); conv => whnf) | refine Ok.block ?_ | ((first | refine Ok.skip ?_ | refine nI ?_ | refine ix _ (by assumption) ?_); conv => whnf) | (refine Or.inr (Or.inl ?_); (conv => whnf); (repeat (refine aI ?_; conv => whnf)); refine ⟨_, hlf , ?_⟩; rintro _ _ ⟨rfl, b1, ks1, rm1, rfl, hks1⟩ <;> (conv => whnf)) | ((first | refine Alt2.l (aI ?_) | refine ⟨_, .inl ⟨rfl, rfl⟩, ?_⟩ | refine ⟨_, _, rfl, rfl, ?_⟩); conv => whnf) | (refine bI ?_ ?_ <;> intro <;> (conv => whnf) <;> (try (exfalso; omega))) | (refine aJ ?_; conv => whnf) | fail)
        all_goals first
         | (exfalso; omega)
         | (rename_i h; exact absurd rfl h)
         | skip
        all_goals
         refine ⟨(i + 1, n + 1, ((Tr.leaf (c.kind = 1)), b1, ks1, rm1) :: ps, []), by dsimp only; omega, ⟨by dsimp only; omega, by simp [hn], by simp; omega, hb2, zok_cons (hzk _ _ _ rfl (hks1 rfl).1 (hks1 rfl).2) hz, fun q hq => (List.mem_cons.1 hq).elim (fun e => by rw [e]; exact hxk) (hox q)⟩, ?_⟩
         dsimp only
         rw [<- zpush_nil]
         (conv => whnf)
         simp [envCat, hn]
         try exact ⟨rfl, rfl⟩
       | cons y j =>
        simp only [List.length_cons] at hj hlm
        (try (conv => whnf)); repeat' (first | refine Ok.seq ?_ | ((first | refine Ok.region tok ?_ | refine Ok.cond ?_); conv => whnf) | refine Ok.block ?_ | ((first | refine Ok.skip ?_ | refine nI ?_ | refine ix _ (by assumption) ?_); conv => whnf) | (refine Or.inr (Or.inl ?_); (conv => whnf); (repeat (refine aI ?_; conv => whnf)); refine ⟨_, hlf , ?_⟩; rintro _ _ ⟨rfl, b1, ks1, rm1, rfl, hks1⟩ <;> (conv => whnf)) | ((first | refine Alt2.r (aI ?_) | refine ⟨_, .inl ⟨rfl, rfl⟩, ?_⟩ | refine ⟨_, _, rfl, rfl, ?_⟩); conv => whnf) | (refine bI ?_ ?_ <;> intro <;> (conv => whnf) <;> (try (exfalso; omega))) | ((first | refine aJ ?_ | refine ⟨_, rfl, ?_⟩); conv => whnf) | fail)
        all_goals first
         | (exfalso; omega)
         | (rename_i h; exact absurd rfl h)
         | skip
        all_goals
         refine ⟨(i + 1, n + 1, ((Tr.leaf (c.kind = 1)), b1, ks1, rm1) :: ps, j), by dsimp only; omega, ⟨by dsimp only; omega, by simp [hn], by simp; omega, hb2, zok_cons (hzk _ _ _ rfl (hks1 rfl).1 (hks1 rfl).2) hz, fun q hq => (List.mem_cons.1 hq).elim (fun e => by rw [e]; exact hxk) (hox q)⟩, ?_⟩
         dsimp only
         rw [<- zpush_cons ps _ y j, hn]
         (conv => whnf)
         simp [envCat, hn]
         try exact ⟨rfl, rfl⟩
     . have hx0 := hst hoe hb2 rfl (zmap hz)
       rw [hs1 (by rw [hx0]; exact hoe), hx0]
       (try (conv => whnf)); repeat' (first | refine Ok.seq ?_ | ((first | refine Ok.region tok ?_ | refine Ok.cond ?_); conv => whnf) | refine Ok.block ?_ | ((first | refine Ok.skip ?_ | refine Ok.ret ?_ | refine ix _ (by assumption) ?_); conv => whnf) | (refine Or.inr (Or.inl ?_); (conv => whnf); (repeat (refine aI ?_; conv => whnf)); refine ⟨_, hlf , ?_⟩; rintro _ _ ⟨rfl, b1, ks1, rm1, rfl, hks1⟩ <;> (conv => whnf)) | (refine bI ?_ ?_ <;> intro <;> (conv => whnf) <;> (try (exfalso; omega))) | fail)
       all_goals first
        | (exfalso; omega)
        | (rename_i h; exact absurd rfl h)
        | (refine Or.inl ?_; (conv => whnf)
           exact ⟨rfl, _, rfl, DSp.nil 0⟩)
   by_cases hkk : c.kind = 3
   . rw [sh3 hkk] at hsh
     cases hsh
     have hlf := rleafS l r hl hco c.kind c.t.f c.t.op c.t.form c.t.lo c.t.hi c.t.len c.t.pat (by omega) htc.2 (fun h3 => ht c (List.mem_of_getElem? hcc) h3)
     rw [lf3 (c := ⟨c.kind, c.t.f, c.t.op, c.t.form, c.t.lo, c.t.hi, c.t.len, c.t.pat⟩) hkk] at hlf
     have hst := stay (l := l) (e := e.drop (i + 1)) (us := []) (r := ps.map Prod.fst) (z := (Tr.test c.t)) (x0 := x0) (g := ((Tr.test c.t).sp l).1)
     have hxk : Tr.ok l ((Tr.test c.t)) := ht c (List.mem_of_getElem? hcc) hkk
     change FSpec _ _ _ _ (SpD ((Tr.test c.t).sp l)) at hlf
     unfold SpD at hlf
     have hzk : ∀ (m : Int) (ks : List TR) (rm : List (List D)), ((Tr.test c.t).sp l).1 = 0 -> m = ((Tr.test c.t).sp l).2.1 -> ks.map TR.t = ((Tr.test c.t).sp l).2.2 -> ZOk l ((Tr.test c.t), m, ks, rm) := fun m ks rm a b c => ⟨a, b, c⟩
     generalize (Tr.test c.t).sp l = o at *
     obtain ⟨oe, on, ot⟩ := o
     dsimp only at hst hzk hlf
     by_cases hoe : oe = 0
     . subst hoe
       cases j with
       | nil =>
        simp only [List.length_nil, Nat.add_zero] at hj hlm
        (try (conv => whnf)); repeat' (first | refine Ok.seq ?_ | ((first | refine Ok.region tok ?_ | refine Ok.cond ?_); conv => whnf) | refine Ok.block ?_ | ((first | refine Ok.skip ?_ | refine nI ?_ | refine ix _ (by assumption) ?_); conv => whnf) | (refine Or.inr (Or.inl ?_); (conv => whnf); (repeat (refine aI ?_; conv => whnf)); refine ⟨_, hlf , ?_⟩; rintro _ _ ⟨rfl, b1, ks1, rm1, rfl, hks1⟩ <;> (conv => whnf)) | ((first | refine Alt2.l (aI ?_) | refine ⟨_, .inl ⟨rfl, rfl⟩, ?_⟩ | refine ⟨_, _, rfl, rfl, ?_⟩); conv => whnf) | (refine bI ?_ ?_ <;> intro <;> (conv => whnf) <;> (try (exfalso; omega))) | (refine aJ ?_; conv => whnf) | fail)
        all_goals first
         | (exfalso; omega)
         | (rename_i h; exact absurd rfl h)
         | skip
        all_goals
         refine ⟨(i + 1, n + 1, ((Tr.test c.t), b1, ks1, rm1) :: ps, []), by dsimp only; omega, ⟨by dsimp only; omega, by simp [hn], by simp; omega, hb2, zok_cons (hzk _ _ _ rfl (hks1 rfl).1 (hks1 rfl).2) hz, fun q hq => (List.mem_cons.1 hq).elim (fun e => by rw [e]; exact hxk) (hox q)⟩, ?_⟩
         dsimp only
         rw [<- zpush_nil]
         (conv => whnf)
         simp [envCat, hn]
         try exact ⟨rfl, rfl⟩
       | cons y j =>
        simp only [List.length_cons] at hj hlm
        (try (conv => whnf)); repeat' (first | refine Ok.seq ?_ | ((first | refine Ok.region tok ?_ | refine Ok.cond ?_); conv => whnf) | refine Ok.block ?_ | ((first | refine Ok.skip ?_ | refine nI ?_ | refine ix _ (by assumption) ?_); conv => whnf) | (refine Or.inr (Or.inl ?_); (conv => whnf); (repeat (refine aI ?_; conv => whnf)); refine ⟨_, hlf , ?_⟩; rintro _ _ ⟨rfl, b1, ks1, rm1, rfl, hks1⟩ <;> (conv => whnf)) | ((first | refine Alt2.r (aI ?_) | refine ⟨_, .inl ⟨rfl, rfl⟩, ?_⟩ | refine ⟨_, _, rfl, rfl, ?_⟩); conv => whnf) | (refine bI ?_ ?_ <;> intro <;> (conv => whnf) <;> (try (exfalso; omega))) | ((first | refine aJ ?_ | refine ⟨_, rfl, ?_⟩); conv => whnf) | fail)
        all_goals first
         | (exfalso; omega)
         | (rename_i h; exact absurd rfl h)
         | skip
        all_goals
         refine ⟨(i + 1, n + 1, ((Tr.test c.t), b1, ks1, rm1) :: ps, j), by dsimp only; omega, ⟨by dsimp only; omega, by simp [hn], by simp; omega, hb2, zok_cons (hzk _ _ _ rfl (hks1 rfl).1 (hks1 rfl).2) hz, fun q hq => (List.mem_cons.1 hq).elim (fun e => by rw [e]; exact hxk) (hox q)⟩, ?_⟩
         dsimp only
         rw [<- zpush_cons ps _ y j, hn]
         (conv => whnf)
         simp [envCat, hn]
         try exact ⟨rfl, rfl⟩
     . have hx0 := hst hoe hb2 rfl (zmap hz)
       rw [hs1 (by rw [hx0]; exact hoe), hx0]
       (try (conv => whnf)); repeat' (first | refine Ok.seq ?_ | ((first | refine Ok.region tok ?_ | refine Ok.cond ?_); conv => whnf) | refine Ok.block ?_ | ((first | refine Ok.skip ?_ | refine Ok.ret ?_ | refine ix _ (by assumption) ?_); conv => whnf) | (refine Or.inr (Or.inl ?_); (conv => whnf); (repeat (refine aI ?_; conv => whnf)); refine ⟨_, hlf , ?_⟩; rintro _ _ ⟨rfl, b1, ks1, rm1, rfl, hks1⟩ <;> (conv => whnf)) | (refine bI ?_ ?_ <;> intro <;> (conv => whnf) <;> (try (exfalso; omega))) | fail)
       all_goals first
        | (exfalso; omega)
        | (rename_i h; exact absurd rfl h)
        | (refine Or.inl ?_; (conv => whnf)
           exact ⟨rfl, _, rfl, DSp.nil 0⟩)
   by_cases hk4 : c.kind = 4
   . obtain ⟨x, r1, hr1, rfl⟩ := sh4_some hk4 hsh
     match ps, hn, hr1 with
     | (x', xb, xk, xr) :: ps', hn, hr1 =>
      simp only [List.map_cons, List.cons.injEq] at hr1
      obtain ⟨rfl, rfl⟩ := hr1
      simp only [List.length_cons] at hn
      obtain ⟨m, rfl⟩ : ∃ m, n = m + 1 := ⟨n - 1, by omega⟩
      have hm : ps'.length = m := by omega
      have hmI : (((m + 1 : Nat) : Int) - 1).toNat = m := by omega
      have hg1 : ((((x', xb, xk, xr) :: ps').reverse ++ j))[(((m + 1 : Nat) : Int) - 1).toNat]? = some (x', xb, xk, xr) := by rw [hmI, <- hm]; exact zpile_top (x', xb, xk, xr) ps' j
      obtain ⟨he1, hxb, hxk⟩ : (x'.sp l).1 = 0 /\ xb = (x'.sp l).2.1 /\ xk.map TR.t = (x'.sp l).2.2 := hz (x', xb, xk, xr) (by simp)
      have hzr : ∀ q ∈ ps', ZOk l q := fun q hq => hz q (by simp [hq])
      have hor : ∀ q ∈ ps', q.1.ok l := fun q hq => hox q (by simp [hq])
      have hxok : x'.ok l := hox (x', xb, xk, xr) (by simp)
      have hTs : (Tr.neg x').sp l = minusO (wid l) (x'.sp l).2.1 [allT (wid l)] (x'.sp l).2.2 := by show negO _ _ = _; rw [negO_ok he1]
      have hmi := fun ks1 rm1 hk1 => rminus_at (all_fine h0 hw) (sp_fine hco x' hxok) ks1 xk rm1 xr hk1 hxk
      have hst := stay (l := l) (e := e.drop (i + 1)) (us := []) (r := ps'.map Prod.fst) (z := Tr.neg x') (x0 := x0) (g := ((Tr.neg x').sp l).1)
      have hzk : ∀ (b : Int) (ks : List TR) (rm : List (List D)), ((Tr.neg x').sp l).1 = 0 -> b = ((Tr.neg x').sp l).2.1 -> ks.map TR.t = ((Tr.neg x').sp l).2.2 -> ZOk l (Tr.neg x', b, ks, rm) := fun b ks rm h1 h2 h3 => ⟨h1, h2, h3⟩
      rw [<- hTs, <- hxb] at hmi
      generalize (Tr.neg x').sp l = o at *
      obtain ⟨oe, on, ot⟩ := o
      dsimp only at hst hzk
      by_cases hoe : oe = 0
      . subst hoe
        (try (conv => whnf)); repeat' (first | (refine rd rfl hg1 ?_; conv => whnf) | (refine ⟨m, rfl, (by show ((m + 1 : Nat) : Int) - 1 = ((m : Nat) : Int); omega), (by first | omega | (simp; omega)), ?_⟩; conv => whnf) | refine Ok.seq ?_ | ((first | refine Ok.region tok ?_ | refine Ok.region_plan (id := 14) tok follows [(1, 2, []), (7, 8, []), (1, 8, [2]), (2, 8, []), (7, 12, []), (1, 12, []), (2, 12, []), (8, 12, [])] [.q 0, .q 3, .q 4, .q 5, .q 6, .q 7, .l 1, .l 2, .l 8, .q 9, .q 10, .q 11, .l 12, .q 13] (by kernel_rfl) ?_ | refine Ok.cond ?_); conv => whnf) | refine Ok.block ?_ | ((first | refine Ok.skip ?_ | refine nI ?_ | refine ix _ (by assumption) ?_); conv => whnf) | (refine Or.inl ?_; (conv => whnf); (repeat (refine aI ?_; conv => whnf)); refine ⟨_, hwd, rfl, ?_⟩; conv => whnf) | (refine Or.inr (Or.inl ?_); (conv => whnf); (repeat (refine aI ?_; conv => whnf)); refine ⟨_, hal , ?_⟩; rintro _ _ ⟨rfl, ks1, rm1, rfl, hks1⟩ <;> (conv => whnf)) | (refine Or.inr (Or.inl ?_); (conv => whnf); (repeat (refine aI ?_; conv => whnf)); refine ⟨_, hmi ks1 rm1 hks1 , ?_⟩; rintro _ _ ⟨rfl, _, rfl, ks2, rm2, rfl, hks2⟩ <;> (conv => whnf)) | ((first | refine Alt2.r (aI ?_) | refine ⟨_, .inl ⟨rfl, rfl⟩, ?_⟩ | refine ⟨_, _, rfl, rfl, ?_⟩); conv => whnf) | (refine bI ?_ ?_ <;> intro <;> (conv => whnf) <;> (try (exfalso; omega))) | ((first | refine aJ ?_ | refine ⟨_, rfl, ?_⟩); conv => whnf) | fail)
        all_goals first
         | (exfalso; omega)
         | (rename_i h; exact absurd rfl h)
         | skip
        all_goals
         refine ⟨(i + 1, m + 1, (Tr.neg x', on, ks2, rm2) :: ps', j), by dsimp only; omega, ⟨by dsimp only; omega, by simp [hm], by dsimp only; omega, hb2, zok_cons (hzk _ _ _ rfl rfl hks2) hzr, fun q hq => (List.mem_cons.1 hq).elim (fun e => by rw [e]; exact hxok) (hor q)⟩, ?_⟩
         dsimp only
         rw [<- zset_top (Tr.neg x', on, ks2, rm2) (x', xb, xk, xr) ps' j, hm]
         (conv => whnf)
         first
          | rfl
      . have hx0 := hst hoe hb2 rfl (zmap hzr)
        rw [hs1 (by rw [hx0]; exact hoe), hx0]
        (try (conv => whnf)); repeat' (first | (refine rd rfl hg1 ?_; conv => whnf) | (refine ⟨m, rfl, (by show ((m + 1 : Nat) : Int) - 1 = ((m : Nat) : Int); omega), (by first | omega | (simp; omega)), ?_⟩; conv => whnf) | refine Ok.seq ?_ | ((first | refine Ok.region tok ?_ | refine Ok.region_plan (id := 14) tok follows [(1, 2, []), (7, 8, []), (1, 8, [2]), (2, 8, []), (7, 12, []), (1, 12, []), (2, 12, []), (8, 12, [])] [.q 0, .q 3, .q 4, .q 5, .q 6, .q 7, .l 1, .l 2, .l 8, .q 9, .q 10, .q 11, .l 12, .q 13] (by kernel_rfl) ?_ | refine Ok.cond ?_); conv => whnf) | refine Ok.block ?_ | ((first | refine Ok.skip ?_ | refine Ok.ret ?_ | refine nI ?_ | refine ix _ (by assumption) ?_); conv => whnf) | (refine Or.inl ?_; (conv => whnf); (repeat (refine aI ?_; conv => whnf)); refine ⟨_, hwd, rfl, ?_⟩; conv => whnf) | (refine Or.inr (Or.inl ?_); (conv => whnf); (repeat (refine aI ?_; conv => whnf)); refine ⟨_, hal , ?_⟩; rintro _ _ ⟨rfl, ks1, rm1, rfl, hks1⟩ <;> (conv => whnf)) | (refine Or.inr (Or.inl ?_); (conv => whnf); (repeat (refine aI ?_; conv => whnf)); refine ⟨_, hmi ks1 rm1 hks1 , ?_⟩; rintro _ _ ⟨rfl, _, rfl, ks2, rm2, rfl, hks2⟩ <;> (conv => whnf)) | (refine bI ?_ ?_ <;> intro <;> (conv => whnf) <;> (try (exfalso; omega))) | (refine aJ ?_; conv => whnf) | fail)
        all_goals first
         | (exfalso; omega)
         | (rename_i h; exact absurd rfl h)
         | (refine Or.inl ?_; (conv => whnf)
            exact ⟨rfl, _, rfl, DSp.nil 0⟩)
   by_cases hk5 : c.kind = 5
   . obtain ⟨x, y, r1, hr1, rfl⟩ := sh5_some hk5 hsh
     match ps, hn, hr1 with
     | (y', yb, yk, yr) :: (x', xb, xk, xr) :: ps', hn, hr1 =>
      simp only [List.map_cons, List.cons.injEq] at hr1
      obtain ⟨rfl, rfl, rfl⟩ := hr1
      simp only [List.length_cons] at hn
      obtain ⟨m, rfl⟩ : ∃ m, n = m + 2 := ⟨n - 2, by omega⟩
      have hm : ps'.length = m := by omega
      have hmI : (((m + 2 : Nat) : Int) - 1).toNat = m + 1 := by omega
      have hmJ : (((m + 2 : Nat) : Int) - 2).toNat = m := by omega
      have hg1 : ((((y', yb, yk, yr) :: (x', xb, xk, xr) :: ps').reverse ++ j))[(((m + 2 : Nat) : Int) - 1).toNat]? = some (y', yb, yk, yr) := by rw [hmI, <- hm]; exact zpile_top (y', yb, yk, yr) ((x', xb, xk, xr) :: ps') j
      have hg2 : ((((y', yb, yk, yr) :: (x', xb, xk, xr) :: ps').reverse ++ j))[(((m + 2 : Nat) : Int) - 2).toNat]? = some (x', xb, xk, xr) := by rw [hmJ, <- hm]; exact zpile_top2 (x', xb, xk, xr) (y', yb, yk, yr) ps' j
      obtain ⟨hy1, hyb, hyk⟩ : (y'.sp l).1 = 0 /\ yb = (y'.sp l).2.1 /\ yk.map TR.t = (y'.sp l).2.2 := hz (y', yb, yk, yr) (by simp)
      obtain ⟨he1, hxb, hxk⟩ : (x'.sp l).1 = 0 /\ xb = (x'.sp l).2.1 /\ xk.map TR.t = (x'.sp l).2.2 := hz (x', xb, xk, xr) (by simp)
      have hzr : ∀ q ∈ ps', ZOk l q := fun q hq => hz q (by simp [hq])
      have hor : ∀ q ∈ ps', q.1.ok l := fun q hq => hox q (by simp [hq])
      have hyok : y'.ok l := hox (y', yb, yk, yr) (by simp)
      have hxok : x'.ok l := hox (x', xb, xk, xr) (by simp)
      have hTs : (Tr.and x' y').sp l = meetO (x'.sp l).2.1 (y'.sp l).2.1 (x'.sp l).2.2 (y'.sp l).2.2 := by show bothO _ _ _ = _; rw [bothO_3 he1 hy1]
      have hmi := rmeet2_at (sp_fine hco x' hxok) (sp_fine hco y' hyok) xk yk xr yr hxk hyk
      have hst := stay (l := l) (e := e.drop (i + 1)) (us := []) (r := ps'.map Prod.fst) (z := Tr.and x' y') (x0 := x0) (g := ((Tr.and x' y').sp l).1)
      have hzk : ∀ (b : Int) (ks : List TR) (rm : List (List D)), ((Tr.and x' y').sp l).1 = 0 -> b = ((Tr.and x' y').sp l).2.1 -> ks.map TR.t = ((Tr.and x' y').sp l).2.2 -> ZOk l (Tr.and x' y', b, ks, rm) := fun b ks rm h1 h2 h3 => ⟨h1, h2, h3⟩
      rw [<- hTs, <- hxb, <- hyb] at hmi
      generalize (Tr.and x' y').sp l = o at *
      obtain ⟨oe, on, ot⟩ := o
      dsimp only at hst hzk
      by_cases hoe : oe = 0
      . subst hoe
        (try (conv => whnf)); repeat' (first | ((first | refine rd rfl hg1 ?_ | refine rd rfl hg2 ?_); conv => whnf) | (refine ⟨m, rfl, (by show ((m + 2 : Nat) : Int) - 2 = ((m : Nat) : Int); omega), (by first | omega | (simp; omega)), ?_⟩; conv => whnf) | refine Ok.seq ?_ | ((first | refine Ok.region tok ?_ | refine Ok.region_plan (id := 17) tok follows [(4, 10, []), (9, 10, []), (4, 14, []), (9, 14, []), (10, 14, [])] [.q 0, .q 1, .q 2, .q 3, .q 4, .q 5, .q 6, .q 7, .q 8, .q 9, .l 10, .q 11, .q 12, .q 13, .l 14, .q 15] (by kernel_rfl) ?_ | refine Ok.cond ?_); conv => whnf) | refine Ok.block ?_ | ((first | refine Ok.skip ?_ | refine nI ?_ | refine ix _ (by assumption) ?_); conv => whnf) | (refine Or.inr (Or.inl ?_); (conv => whnf); (repeat (refine aI ?_; conv => whnf)); refine ⟨_, hmi , ?_⟩; rintro _ _ ⟨rfl, _, rfl, ks2, rm2, rfl, hks2⟩ <;> (conv => whnf)) | ((first | refine Alt2.r (aI ?_) | refine ⟨_, .inl ⟨rfl, rfl⟩, ?_⟩ | refine ⟨_, _, rfl, rfl, ?_⟩); conv => whnf) | (refine bI ?_ ?_ <;> intro <;> (conv => whnf) <;> (try (exfalso; omega))) | ((first | refine aJ ?_ | refine ⟨_, rfl, ?_⟩); conv => whnf) | fail)
        all_goals first
         | (exfalso; omega)
         | (rename_i h; exact absurd rfl h)
         | skip
        all_goals
         refine ⟨(i + 1, m + 1, (Tr.and x' y', on, ks2, rm2) :: ps', (y', yb, yk, yr) :: j), by dsimp only; omega, ⟨by dsimp only; omega, by simp [hm], by simp; omega, hb2, zok_cons (hzk _ _ _ rfl rfl hks2) hzr, fun q hq => (List.mem_cons.1 hq).elim (fun e => by rw [e]; exact ⟨hxok, hyok⟩) (hor q)⟩, ?_⟩
         dsimp only
         rw [<- zset_top2 (Tr.and x' y', on, ks2, rm2) (x', xb, xk, xr) (y', yb, yk, yr) ps' j, hm]
         (conv => whnf)
         first
          | rfl
      . have hx0 := hst hoe hb2 rfl (zmap hzr)
        rw [hs1 (by rw [hx0]; exact hoe), hx0]
        (try (conv => whnf)); repeat' (first | ((first | refine rd rfl hg1 ?_ | refine rd rfl hg2 ?_); conv => whnf) | (refine ⟨m, rfl, (by show ((m + 2 : Nat) : Int) - 2 = ((m : Nat) : Int); omega), (by first | omega | (simp; omega)), ?_⟩; conv => whnf) | refine Ok.seq ?_ | ((first | refine Ok.region tok ?_ | refine Ok.region_plan (id := 17) tok follows [(4, 10, []), (9, 10, []), (4, 14, []), (9, 14, []), (10, 14, [])] [.q 0, .q 1, .q 2, .q 3, .q 4, .q 5, .q 6, .q 7, .q 8, .q 9, .l 10, .q 11, .q 12, .q 13, .l 14, .q 15] (by kernel_rfl) ?_ | refine Ok.cond ?_); conv => whnf) | refine Ok.block ?_ | ((first | refine Ok.skip ?_ | refine Ok.ret ?_ | refine nI ?_ | refine ix _ (by assumption) ?_); conv => whnf) | (refine Or.inr (Or.inl ?_); (conv => whnf); (repeat (refine aI ?_; conv => whnf)); refine ⟨_, hmi , ?_⟩; rintro _ _ ⟨rfl, _, rfl, ks2, rm2, rfl, hks2⟩ <;> (conv => whnf)) | (refine bI ?_ ?_ <;> intro <;> (conv => whnf) <;> (try (exfalso; omega))) | (refine aJ ?_; conv => whnf) | fail)
        all_goals first
         | (exfalso; omega)
         | (rename_i h; exact absurd rfl h)
         | (refine Or.inl ?_; (conv => whnf)
            exact ⟨rfl, _, rfl, DSp.nil 0⟩)
   by_cases hk6 : c.kind = 6
   . obtain ⟨x, y, r1, hr1, rfl⟩ := sh6_some hk6 hsh
     match ps, hn, hr1 with
     | (y', yb, yk, yr) :: (x', xb, xk, xr) :: ps', hn, hr1 =>
      simp only [List.map_cons, List.cons.injEq] at hr1
      obtain ⟨rfl, rfl, rfl⟩ := hr1
      simp only [List.length_cons] at hn
      obtain ⟨m, rfl⟩ : ∃ m, n = m + 2 := ⟨n - 2, by omega⟩
      have hm : ps'.length = m := by omega
      have hmI : (((m + 2 : Nat) : Int) - 1).toNat = m + 1 := by omega
      have hmJ : (((m + 2 : Nat) : Int) - 2).toNat = m := by omega
      have hg1 : ((((y', yb, yk, yr) :: (x', xb, xk, xr) :: ps').reverse ++ j))[(((m + 2 : Nat) : Int) - 1).toNat]? = some (y', yb, yk, yr) := by rw [hmI, <- hm]; exact zpile_top (y', yb, yk, yr) ((x', xb, xk, xr) :: ps') j
      have hg2 : ((((y', yb, yk, yr) :: (x', xb, xk, xr) :: ps').reverse ++ j))[(((m + 2 : Nat) : Int) - 2).toNat]? = some (x', xb, xk, xr) := by rw [hmJ, <- hm]; exact zpile_top2 (x', xb, xk, xr) (y', yb, yk, yr) ps' j
      obtain ⟨hy1, hyb, hyk⟩ : (y'.sp l).1 = 0 /\ yb = (y'.sp l).2.1 /\ yk.map TR.t = (y'.sp l).2.2 := hz (y', yb, yk, yr) (by simp)
      obtain ⟨he1, hxb, hxk⟩ : (x'.sp l).1 = 0 /\ xb = (x'.sp l).2.1 /\ xk.map TR.t = (x'.sp l).2.2 := hz (x', xb, xk, xr) (by simp)
      have hzr : ∀ q ∈ ps', ZOk l q := fun q hq => hz q (by simp [hq])
      have hor : ∀ q ∈ ps', q.1.ok l := fun q hq => hox q (by simp [hq])
      have hyok : y'.ok l := hox (y', yb, yk, yr) (by simp)
      have hxok : x'.ok l := hox (x', xb, xk, xr) (by simp)
      have hTs : (Tr.or x' y').sp l = joinO (x'.sp l).2.1 (y'.sp l).2.1 (x'.sp l).2.2 (y'.sp l).2.2 := by show bothO _ _ _ = _; rw [bothO_3 he1 hy1]
      have hmi := rjoin_at (sp_fine hco x' hxok) (sp_fine hco y' hyok) xk yk xr yr hxk hyk
      have hst := stay (l := l) (e := e.drop (i + 1)) (us := []) (r := ps'.map Prod.fst) (z := Tr.or x' y') (x0 := x0) (g := ((Tr.or x' y').sp l).1)
      have hzk : ∀ (b : Int) (ks : List TR) (rm : List (List D)), ((Tr.or x' y').sp l).1 = 0 -> b = ((Tr.or x' y').sp l).2.1 -> ks.map TR.t = ((Tr.or x' y').sp l).2.2 -> ZOk l (Tr.or x' y', b, ks, rm) := fun b ks rm h1 h2 h3 => ⟨h1, h2, h3⟩
      rw [<- hTs, <- hxb, <- hyb] at hmi
      generalize (Tr.or x' y').sp l = o at *
      obtain ⟨oe, on, ot⟩ := o
      dsimp only at hst hzk
      by_cases hoe : oe = 0
      . subst hoe
        (try (conv => whnf)); repeat' (first | ((first | refine rd rfl hg1 ?_ | refine rd rfl hg2 ?_); conv => whnf) | (refine ⟨m, rfl, (by show ((m + 2 : Nat) : Int) - 2 = ((m : Nat) : Int); omega), (by first | omega | (simp; omega)), ?_⟩; conv => whnf) | refine Ok.seq ?_ | ((first | refine Ok.region tok ?_ | refine Ok.region_plan (id := 20) tok follows [(4, 10, []), (9, 10, []), (4, 14, []), (9, 14, []), (10, 14, [])] [.q 0, .q 1, .q 2, .q 3, .q 4, .q 5, .q 6, .q 7, .q 8, .q 9, .l 10, .q 11, .q 12, .q 13, .l 14, .q 15] (by kernel_rfl) ?_ | refine Ok.cond ?_); conv => whnf) | refine Ok.block ?_ | ((first | refine Ok.skip ?_ | refine nI ?_ | refine ix _ (by assumption) ?_); conv => whnf) | (refine Or.inr (Or.inl ?_); (conv => whnf); (repeat (refine aI ?_; conv => whnf)); refine ⟨_, hmi , ?_⟩; rintro _ _ ⟨rfl, _, rfl, ks2, rm2, rfl, hks2⟩ <;> (conv => whnf)) | ((first | refine Alt2.r (aI ?_) | refine ⟨_, .inl ⟨rfl, rfl⟩, ?_⟩ | refine ⟨_, _, rfl, rfl, ?_⟩); conv => whnf) | (refine bI ?_ ?_ <;> intro <;> (conv => whnf) <;> (try (exfalso; omega))) | ((first | refine aJ ?_ | refine ⟨_, rfl, ?_⟩); conv => whnf) | fail)
        all_goals first
         | (exfalso; omega)
         | (rename_i h; exact absurd rfl h)
         | skip
        all_goals
         refine ⟨(i + 1, m + 1, (Tr.or x' y', on, ks2, rm2) :: ps', (y', yb, yk, yr) :: j), by dsimp only; omega, ⟨by dsimp only; omega, by simp [hm], by simp; omega, hb2, zok_cons (hzk _ _ _ rfl rfl hks2) hzr, fun q hq => (List.mem_cons.1 hq).elim (fun e => by rw [e]; exact ⟨hxok, hyok⟩) (hor q)⟩, ?_⟩
         dsimp only
         rw [<- zset_top2 (Tr.or x' y', on, ks2, rm2) (x', xb, xk, xr) (y', yb, yk, yr) ps' j, hm]
         (conv => whnf)
         first
          | rfl
      . have hx0 := hst hoe hb2 rfl (zmap hzr)
        rw [hs1 (by rw [hx0]; exact hoe), hx0]
        (try (conv => whnf)); repeat' (first | ((first | refine rd rfl hg1 ?_ | refine rd rfl hg2 ?_); conv => whnf) | (refine ⟨m, rfl, (by show ((m + 2 : Nat) : Int) - 2 = ((m : Nat) : Int); omega), (by first | omega | (simp; omega)), ?_⟩; conv => whnf) | refine Ok.seq ?_ | ((first | refine Ok.region tok ?_ | refine Ok.region_plan (id := 20) tok follows [(4, 10, []), (9, 10, []), (4, 14, []), (9, 14, []), (10, 14, [])] [.q 0, .q 1, .q 2, .q 3, .q 4, .q 5, .q 6, .q 7, .q 8, .q 9, .l 10, .q 11, .q 12, .q 13, .l 14, .q 15] (by kernel_rfl) ?_ | refine Ok.cond ?_); conv => whnf) | refine Ok.block ?_ | ((first | refine Ok.skip ?_ | refine Ok.ret ?_ | refine nI ?_ | refine ix _ (by assumption) ?_); conv => whnf) | (refine Or.inr (Or.inl ?_); (conv => whnf); (repeat (refine aI ?_; conv => whnf)); refine ⟨_, hmi , ?_⟩; rintro _ _ ⟨rfl, _, rfl, ks2, rm2, rfl, hks2⟩ <;> (conv => whnf)) | (refine bI ?_ ?_ <;> intro <;> (conv => whnf) <;> (try (exfalso; omega))) | (refine aJ ?_; conv => whnf) | fail)
        all_goals first
         | (exfalso; omega)
         | (rename_i h; exact absurd rfl h)
         | (refine Or.inl ?_; (conv => whnf)
            exact ⟨rfl, _, rfl, DSp.nil 0⟩)
   exfalso
   rw [sh0 (by omega)] at hsh
   cases hsh
 . have hie : i = e.length := by omega
   subst hie
   rw [List.drop_length] at hb
   have hb : ps.map Prod.fst = [x0] := by unfold buildR at hb; exact Option.some.inj hb
   match ps, hn, hb with
   | [(x', xb, xk, xr)], hn, hb =>
    simp only [List.map_cons, List.map_nil, List.cons.injEq, and_true] at hb
    obtain rfl := hb
    simp only [List.length_cons, List.length_nil] at hn
    subst hn
    have hg0 : ([(x', xb, xk, xr)].reverse ++ j)[(0 : Int).toNat]? = some (x', xb, xk, xr) := by simp
    obtain ⟨he1, hxb, hxk⟩ : (x'.sp l).1 = 0 /\ xb = (x'.sp l).2.1 /\ xk.map TR.t = (x'.sp l).2.2 := hz (x', xb, xk, xr) (by simp)
    rw [hs2 he1]
    subst hxb
    generalize x'.sp l = o at *
    obtain ⟨oe, on, ot⟩ := o
    have he1 : oe = 0 := he1
    subst he1
    (try (conv => whnf)); repeat' (first | (refine rd rfl hg0 ?_; conv => whnf) | refine Ok.seq ?_ | ((first | refine Ok.region tok ?_ | refine Ok.cond ?_ | refine Ok.exit ?_ | refine Ok.ret ?_); conv => whnf) | (refine bI ?_ ?_ <;> intro <;> (conv => whnf) <;> (try (exfalso; omega))) | (refine aJ ?_; conv => whnf) | fail)
    all_goals first
     | (exfalso; omega)
     | (refine Or.inl ?_; (conv => whnf)
        exact ⟨rfl, _, rfl, xk, xr, rfl, hxk⟩)
set_option maxHeartbeats 4000000 in
theorem rspace_at (l : List Fd) (r : List (List D)) (e : List Nd) (r2 : List (List D)) (hl : l.length <= 1000) (he : e.length <= 1000) (htx : TxtOk e) :
    FSpec Tryz.prog T 18 [.lst 34 (l.map frow) r, .lst 56 (e.map nrow) r2] (DOut (spcO l e)) := by
 have hk := rechk_at l r e r2 hl he htx
 by_cases hc : chkE l e = 0
 . obtain ⟨hco, _, x, hb, _, ht⟩ := chk_good hc
   exact rspace_ok l r e r2 hl he htx hc x hb ht
 . rw [spcO_err hc]
   generalize chkE l e = k at *
   refine FSpec.of_ok tok Tryz.func18 rfl Tryz.call18 (by simp) ?_
   (try (conv => whnf)); repeat' (first | refine Ok.seq ?_ | ((first | refine Ok.region tok ?_ | refine Ok.cond ?_ | refine Ok.ret ?_); conv => whnf) | (refine Or.inl ?_; (conv => whnf); (repeat (refine aI ?_; conv => whnf)); refine ⟨_, hk, rfl, ?_⟩; conv => whnf) | (refine bI ?_ ?_ <;> intro <;> (conv => whnf) <;> (try (exfalso; omega))) | fail)
   all_goals first
    | (exfalso; omega)
    | (refine Or.inl ?_; (conv => whnf)
       exact ⟨rfl, _, rfl, DSp.nil 0⟩)
end Go.Proofs.YtagmibogginaaaaGreatDoor
namespace Go.Proofs.YtagmibogginaaaaGreatDoor
open Go Go.Vx Go.Shelf
set_option maxHeartbeats 4000000 in
theorem like5_at {o : Oc} (hf : FineO o) (he : 0 <= o.1 /\ o.1 <= 100) (ks ks2 : List TR) (rm rm2 : List (List D)) (h1 : ks.map TR.t = o.2.2) (h2 : ks2.map TR.t = o.2.2) :
    FSpec Tryz.prog T 19 [.agg [.i .i64 o.2.1, .lst 130 (ks.map trow) rm], .i .i64 o.1, .agg [.i .i64 o.2.1, .lst 109 (ks2.map drow) rm2], .i .i64 o.1] (fun r _ => r = .b True) := by
 obtain ⟨e, n, ts⟩ := o
 have hf : Fine n ts := hf
 dsimp only at he h1 h2 ⊢
 have hbits := bits_at n (.lst 130 (ks.map trow) rm) ⟨_, _, _, rfl⟩
 have htext := text2_at n.toNat ks (room := rm) (hf.sp h1) rfl
 have hrtext := rtext_at n n.toNat ks2 (room := rm2) (hf.sp h2) rfl
 rw [hf.cast] at htext
 rw [h1] at htext
 rw [h2] at hrtext
 have hnu := num_at e he
 refine FSpec.of_ok tok Tryz.func19 rfl Tryz.call19 (by simp) ?_
 (try (conv => whnf)); repeat' (first | refine Ok.seq ?_ | ((first | refine Ok.region tok ?_ | refine Ok.region_draw tok follows (by kernel_rfl) ?_ | refine Ok.ret ?_ | refine ⟨_, by assumption, ?_⟩); conv => whnf) | (refine bI ?_ ?_ <;> intro <;> (conv => whnf) <;> (try (exfalso; omega))) | (refine aJ ?_; conv => whnf) | fail)
 all_goals first
  | exact absurd rfl (by assumption)
  | (refine Or.inl ?_; (conv => whnf)
     exact congrArg D.b (propext ⟨fun _ => trivial, fun _ => rfl⟩))
  | (refine Or.inl ?_; (conv => whnf)
     rfl)
def LeO (o : Oc) : Prop := 0 <= o.1 /\ o.1 <= 100
theorem bndO_e (n : Int) (l : List Term) : LeO (bndO n l) := by unfold bndO LeO; split <;> (dsimp only; omega)
theorem joinO_e (n m : Int) (a b : List Term) : LeO (joinO n m a b) := by
 unfold joinO
 split
 . exact bndO_e _ _
 . unfold LeO; dsimp only; omega
theorem meetO_e (n m : Int) (a b : List Term) : LeO (meetO n m a b) := by
 unfold meetO
 split
 . split
   . exact bndO_e _ _
   . unfold LeO; dsimp only; omega
 . unfold LeO; dsimp only; omega
theorem minusL_e (n : Int) : ∀ (us ts : List Term), LeO (minusL n ts us)
 | [], ts => by unfold minusL LeO; dsimp only; omega
 | u :: us, ts => by
  unfold minusL
  split
  . exact minusL_e n us _
  . have h : LeO (withoutO n ts u) := by
      unfold withoutO
      split
      . exact bndO_e _ _
      . unfold LeO; dsimp only; omega
    exact h
theorem minusO_e (n m : Int) (a b : List Term) : LeO (minusO n m a b) := by
 unfold minusO
 split
 . exact minusL_e _ _ _
 . unfold LeO; dsimp only; omega
theorem negO_e (w : Nat) (o : Oc) (h : LeO o) : LeO (negO w o) := by
 unfold negO
 split
 . exact h
 . exact minusO_e _ _ _ _
theorem cubO_e : ∀ (cs : List Str) (o : Oc), LeO o -> LeO (cubO o cs)
 | [], o, h => h
 | c :: cs, o, h => by
  unfold cubO
  split
  . exact joinO_e _ _ _ _
  . exact cubO_e cs _ (joinO_e _ _ _ _)
theorem sp_e (l : List Fd) : ∀ x : Tr, LeO (x.sp l)
 | .leaf p => by
  unfold Tr.sp
  split <;> (unfold LeO; dsimp only; omega)
 | .test t => by
  have h : ∀ t, LeO (tstO l t) := fun t => cubO_e _ _ (by unfold LeO; dsimp only; omega)
  unfold Tr.sp
  split
  . exact negO_e _ _ (h _)
  . exact h _
 | .neg x => negO_e _ _ (sp_e l x)
 | .and x y => by
  unfold Tr.sp bothO
  split
  . exact sp_e l x
  . split
    . exact sp_e l y
    . exact meetO_e _ _ _ _
 | .or x y => by
  unfold Tr.sp bothO
  split
  . exact sp_e l x
  . split
    . exact sp_e l y
    . exact joinO_e _ _ _ _
theorem spcO_e (l : List Fd) (e : List Nd) : LeO (spcO l e) := by
 unfold spcO
 split
 . exact chkE_le l e
 . unfold spcT
   split
   . rename_i x _
     split
     . exact sp_e l x
     . exact sp_e l x
   . unfold LeO; dsimp only; omega
end Go.Proofs.YtagmibogginaaaaGreatDoor
namespace Go.Proofs.YtagmibogginaaaaGreatDoor
open Go Go.Vx Go.Shelf
theorem Ok.pubR {P : Program} {T : Tab} {s : St} {Q : Exit -> St -> Prop} {id : Nat} {ops : Array Oper} {dr : Bool} (r : Nat) (h : pubK r s [] fun _ s' => Ok P T (.region id ops dr) Q s') : Ok P T (.region id ops dr) Q s := Ok.pub r h
theorem tr_deep : ∀ x : Tr, Deep x.d
 | .leaf p => .ifc (.agg fun c hc => by simp [Tr.cs] at hc; subst hc; exact .ground rfl)
 | .test t => .ifc (.agg fun c hc => by simp [Tr.cs] at hc; rcases hc with rfl | rfl | rfl | rfl | rfl | rfl | rfl <;> exact .ground rfl)
 | .neg x => .ifc (.agg fun c hc => by simp [Tr.cs] at hc; subst hc; exact tr_deep x)
 | .and x y => .ifc (.agg fun c hc => by simp [Tr.cs] at hc; rcases hc with rfl | rfl; exact tr_deep x; exact tr_deep y)
 | .or x y => .ifc (.agg fun c hc => by simp [Tr.cs] at hc; rcases hc with rfl | rfl; exact tr_deep x; exact tr_deep y)
theorem nilI_deep : Deep .nilI := by
 intro sz V V' v hv
 cases hv
 exact .nilI
theorem chkD_deep (l : List Fd) (e : List Nd) {V V' : Vw} {v : Value} {ω : List Value} (h : RS (szOf T) V [] ω v (chkD l e)) : RS (szOf T) V' [] [] v (chkD l e) := by
 obtain ⟨y, hy, hx⟩ := chkD_two l e
 rw [hy] at h ⊢
 refine RS.deepTup (fun c hc => ?_) h
 rcases List.mem_cons.1 hc with rfl | hc
 . rcases hx with rfl | ⟨x, rfl⟩
   . exact ⟨nilI_deep, fun V v h => h.nilI_ri⟩
   . exact ⟨tr_deep x, fun V v h => h.ifc_ri⟩
 . simp at hc
   subst hc
   exact ⟨.ground rfl, fun V v h => h.i_ri'⟩
theorem echk_own (l : List Fd) (e : List Nd) {ra sa rb sb : List (List D)} (ha : ra = l.map frow) (hb : rb = e.map nrow) (hl : l.length <= 1000) (he : e.length <= 1000) (htx : TxtOk e) :
    FSpec Tryz.prog T 20 [.lst 34 ra sa, .lst 56 rb sb] (fun d rows => d = chkD l e /\ rows = []) := by subst ha hb; exact echk_at l _ e _ hl he htx
set_option maxRecDepth 100000 in
set_option maxHeartbeats 32000000 in
theorem spaces_law (Fs : List Fd) (rF : List (List D)) (Es : List Nd) (rE : List (List D)) (htx : TxtOk Es) : FSpec Tryz.prog T 5 [.lst 34 (Fs.map frow) rF, .lst 56 (Es.map nrow) rE] (fun d _ => d = .b True) := by
 have h1 : (Fs.map frow).length = Fs.length := by simp
 have h2 : (Es.map nrow).length = Es.length := by simp
 refine FSpec.of_ok tok Tryz.func5 rfl Tryz.call5 (by simp) ?_
 by_cases hbig : 1000 < Es.length \/ 16 < Fs.length
 . (try (conv => whnf)); repeat' (first | refine Ok.seq ?_ | ((first | refine Ok.region tok ?_ | refine Ok.cond ?_ | refine Ok.ret ?_); conv => whnf) | (refine bI ?_ ?_ <;> intro <;> (conv => whnf) <;> (try (exfalso; omega))) | fail)
   all_goals first
    | (exfalso; omega)
    | (refine Or.inl ?_; (conv => whnf)
       rfl)
 have hE : Es.length <= 1000 := by omega
 have hF : Fs.length <= 16 := by omega
 have hR : Es.reverse.length = Es.length := by simp
 have htr := txt_rev htx
 have e1 : ((Es ++ [mk91, mk92]).map nrow).take Es.length = Es.map nrow := by simp
 have e2 : ((Es ++ [mk91, mk92]).map nrow).drop Es.length = [mk91, mk92].map nrow := by simp
 have e3 : ((Es.reverse ++ [mk91, mk92]).map nrow).take Es.length = Es.reverse.map nrow := by rw [<- hR]; simp
 have e4 : ((Es.reverse ++ [mk91, mk92]).map nrow).drop Es.length = [mk91, mk92].map nrow := by rw [<- hR]; simp
 have f1 : ((Fs ++ [mkF]).map frow).take Fs.length = Fs.map frow := by simp
 have f2 : ((Fs ++ [mkF]).map frow).drop Fs.length = [mkF].map frow := by simp
 have l1 : ((Fs ++ [mkF]).map frow).length = Fs.length + 1 := by simp
 have l2 : ((Es ++ [mk91, mk92]).map nrow).length = Es.length + 2 := by simp
 have l3 : ((Es.reverse ++ [mk91, mk92]).map nrow).length = Es.length + 2 := by simp
 have q1 := rspace_at Fs rF Es rE (by omega) hE htx
 have q2 := fun rm => rspace_at Fs rF Es.reverse rm (by omega) (by omega) htr
 have tu := turned_at Es rE hE
 have u1 := untouched_own Es (sb := rE) e1 e2 rfl hE
 have u2 := fun rm => untouched_own Es.reverse (sb := rm) e3 e4 rfl (by omega)
 have v1 := kept_own Fs (sb := rF) f1 f2 rfl hF
 have k1 := fun ks ks2 rm rm2 a b => (like5_at (spcO_fine Fs Es) (spcO_e Fs Es) ks ks2 rm rm2 a b).tt trivial
 have k2 := fun ks ks2 rm rm2 a b => (like5_at (spcO_fine Fs Es.reverse) (spcO_e Fs Es.reverse) ks ks2 rm rm2 a b).tt trivial
 generalize hO1 : spcO Fs Es = O1 at *
 generalize hO2 : spcO Fs Es.reverse = O2 at *
 obtain ⟨o1, n1, t1⟩ := O1
 obtain ⟨o2, n2, t2⟩ := O2
 (try (conv => whnf)); repeat' (first | (refine Ok.pubR (id := 5) 0 ?_; (conv => whnf); refine Ok.region tok ?_; (conv => whnf)) | refine Ok.seq ?_ | ((first | refine Ok.region tok ?_ | refine Ok.cond ?_ | refine Ok.skip ?_); conv => whnf) | (refine Or.inr (Or.inl ?_); (conv => whnf); (repeat (refine aI ?_; conv => whnf)); refine ⟨_, layout1_at Fs rF hF, ?_⟩; rintro _ _ ⟨rfl, rfl⟩; conv => whnf) | (refine Or.inr (Or.inl ?_); (conv => whnf); (repeat (refine aI ?_; conv => whnf)); refine ⟨_, nodes_at Es rE hE, ?_⟩; rintro _ _ ⟨rfl, rfl⟩; conv => whnf) | (refine bI ?_ ?_ <;> intro <;> (conv => whnf) <;> (try (exfalso; omega))) | fail)
 all_goals first
  | (exfalso; omega)
  | skip
 refine Or.inr (Or.inr (Or.inl ?_)); (conv => whnf); refine ⟨_, _, Tryz.func17, rfl, Tryz.call17, ?_⟩; (conv => whnf)
 refine Ok.joinV [45, 46, 50, 51] [4, 5] 2 0 2 1 (fun (x : List TR × List (List D)) => [.bp 0 0, .i .i64 o1]) (fun (x : List TR × List (List D)) => [[.i .i64 n1, .lst 130 (x.1.map trow) x.2]]) (fun (x : List TR × List (List D)) => [none, some (56, (Es ++ [mk91, mk92]).map nrow)]) (fun e (x : List TR × List (List D)) => e = .ret /\ x.1.map TR.t = t1) ?_; (conv => whnf); refine And.intro ?_ ?_
 . have hk1 := fun sa sb => echk_own Fs Es (sa := sa) (sb := sb) f1 e1 (by omega) (by omega) htx
   have hd1 : ∀ {V V' : Vw} {v : Value} {ω : List Value}, RS (szOf T) V [] ω v (chkD Fs Es) -> RS (szOf T) V' [] [] v (chkD Fs Es) := fun h => chkD_deep Fs Es h
   by_cases hc : chkE Fs Es = 0
   case neg =>
    rw [spcO_err hc] at hO1
    obtain ⟨rfl, rfl, rfl⟩ : chkE Fs Es = o1 /\ 0 = n1 /\ [] = t1 := by simpa using hO1
    rw [chkD_err rfl hc] at hk1 hd1
    generalize chkE Fs Es = k at *
    (try (conv => whnf)); repeat' (first | (refine Ok.nilC 0 1 130 rfl rfl ?_; (conv => whnf); refine Ok.ret ?_; (conv => whnf)) | (refine Or.inr (Or.inr (Or.inr (Or.inr ?_))); (conv => whnf); refine effW.of (effK.deep (ts := [22, 23]) (by (conv => whnf); exact ⟨by omega, rfl⟩) (hk1 _ _) ?_); rintro _ _ ⟨rfl, rfl⟩; refine ⟨rfl, fun _ _ _ _ h => hd1 h, ?_⟩; (conv => whnf)) | refine Ok.seq ?_ | ((first | refine Ok.region tok ?_ | refine Ok.cond ?_); conv => whnf) | (refine bI ?_ ?_ <;> intro <;> (conv => whnf) <;> (try (exfalso; omega))) | fail)
    all_goals first
     | (exfalso; omega)
     | (refine ⟨([], []), ⟨rfl, rfl⟩, ?_⟩
        (conv => whnf)
        rfl)
   obtain ⟨hco, _, x, hb, hxo, _⟩ := chk_good hc
   rw [chkD_ok hc hb] at hk1 hd1
   obtain ⟨hlay, _⟩ := chk_lay hco
   have hww := wid_le hlay
   have hpk : x.pok := buildR_pok (bldO_one hb) (fun c hc => (htx c hc).2) (by simp) x (by simp)
   have hsx := fun r => space_at Fs r (by omega) hco x hxo hpk
   have hs1 := spcO_sp hc hb
   have hs2 := spcO_ok hc hb
   unfold SpS SpR at hsx
   generalize x.sp Fs = q at *
   obtain ⟨oe, on, ot⟩ := q
   dsimp only at hsx hs1
   rw [<- f1] at hsx
   (try (conv => whnf)); repeat' (first | (refine Or.inr (Or.inr (Or.inr (Or.inr ?_))); (conv => whnf); refine effW.of (effK.deep (ts := [22, 23]) (by (conv => whnf); exact ⟨by omega, rfl⟩) (hk1 _ _) ?_); rintro _ _ ⟨rfl, rfl⟩; refine ⟨rfl, fun _ _ _ _ h => hd1 h, ?_⟩; (conv => whnf)) | refine Ok.seq ?_ | ((first | refine Ok.region tok ?_ | refine Ok.cond ?_); conv => whnf) | refine Ok.block ?_ | (refine Ok.skip ?_; conv => whnf) | (refine bI ?_ ?_ <;> intro <;> (conv => whnf) <;> (try (exfalso; omega))) | fail)
   all_goals first
    | (exfalso; omega)
    | (rename_i h; exact absurd rfl h)
    | skip
   refine Ok.loopU [0, 4, 6, 22, 23, 45, 46, 50, 51] [8, 24] 2 1 (fun (i : Nat) => [.i .i64 (wid (Fs.take i) : Nat), .i .i64 (i : Nat)]) (fun (i : Nat) (_ : List (List D)) => [[.i .i64 0, .nilS]]) (fun (i : Nat) (_ : Vx.Rows) => [none, some (56, (Es ++ [mk91, mk92]).map nrow)]) (fun (i : Nat) => i <= Fs.length) (fun (i : Nat) => Fs.length - i) (0) (Nat.zero_le _) ?_; (conv => whnf); refine ⟨by ((conv => whnf); first | rfl | (simp [envCat, List.take_of_length_le, nrow, frow, bcell, srow, tcells, crow, qrow, prow, trow, drow]; done) | (simp [envCat, List.take_of_length_le, nrow, frow, bcell, srow, tcells, crow, qrow, prow, trow, drow]; rw [IntKind.wrap_i64]; omega)), ?_⟩
   intro i hi
   have l4 : (((Fs ++ [mkF]).map frow).take Fs.length).length = Fs.length := by rw [f1]; simp
   (conv => whnf)
   by_cases hil : i < Fs.length
   . obtain ⟨c, hcc⟩ : ∃ c, Fs[i]? = some c := ⟨_, List.getElem?_eq_getElem hil⟩
     have hcI : (((Fs ++ [mkF]).map frow).take Fs.length)[((i : Nat) : Int).toNat]? = some (frow c) := by rw [f1]; simp [hcc]
     have hcb := hlay c (List.mem_of_getElem? hcc)
     have hsn := wid_snoc hcc
     have hsp := wid_split hcc
     (try (conv => whnf)); repeat' (first | (refine ⟨_, hcI, ?_⟩; conv => whnf) | refine Ok.seq ?_ | ((first | refine Ok.region tok ?_ | refine Ok.cond ?_); conv => whnf) | refine Ok.block ?_ | ((first | refine Ok.skip ?_ | refine nI ?_); conv => whnf) | (refine bI ?_ ?_ <;> intro <;> (conv => whnf) <;> (try (exfalso; omega))) | (refine aJ ?_; conv => whnf) | fail)
     all_goals first
      | (exfalso; omega)
      | skip
     refine ⟨i + 1, by omega, by omega, ?_⟩
     rw [hsn, show ((wid (Fs.take i) + c.bits.toNat : Nat) : Int) = (wid (Fs.take i) : Int) + c.bits by omega]
     (conv => whnf)
     rfl
   . have hie : i = Fs.length := by omega
     rw [hie, List.take_length]
     obtain ⟨fx, mx, sx⟩ := hsx (((Fs ++ [mkF]).map frow).drop Fs.length)
     by_cases hoe : oe = 0
     . subst hoe
       rw [hs2 rfl] at hO1
       obtain ⟨rfl, rfl, rfl⟩ : 0 = o1 /\ on = n1 /\ ot = t1 := by simpa using hO1
       (try (conv => whnf)); repeat' (first | refine Ok.seq ?_ | ((first | refine Ok.region tok ?_ | refine Ok.cond ?_ | refine Ok.skip ?_ | refine Ok.exit ?_ | refine Ok.ret ?_); conv => whnf) | (refine Or.inr ?_; (conv => whnf); refine ⟨_, mx, ?_⟩; (conv => whnf); (repeat (refine aI ?_; conv => whnf)); refine ⟨_, sx, ?_⟩; rintro _ _ ⟨rfl, n9, ks9, rm9, rfl, hk9⟩ <;> (conv => whnf)) | (refine bI ?_ ?_ <;> intro <;> (conv => whnf) <;> (try (exfalso; omega))) | fail)
       all_goals first
        | (exfalso; omega)
        | (rename_i h; exact absurd rfl h)
        | (obtain ⟨rfl, hk2⟩ := hk9 rfl
           refine ⟨(ks9, rm9), ⟨rfl, hk2⟩, ?_⟩
           (conv => whnf)
           rfl)
     . rw [hs1 hoe] at hO1
       obtain ⟨rfl, rfl, rfl⟩ : oe = o1 /\ 0 = n1 /\ [] = t1 := by simpa using hO1
       (try (conv => whnf)); repeat' (first | (refine Ok.nilC 0 1 130 rfl rfl ?_; (conv => whnf); refine Ok.ret ?_; (conv => whnf)) | refine Ok.seq ?_ | ((first | refine Ok.region tok ?_ | refine Ok.cond ?_ | refine Ok.exit ?_); conv => whnf) | (refine Or.inr ?_; (conv => whnf); refine ⟨_, mx, ?_⟩; (conv => whnf); (repeat (refine aI ?_; conv => whnf)); refine ⟨_, sx, ?_⟩; rintro _ _ ⟨rfl, n9, ks9, rm9, rfl, hk9⟩ <;> (conv => whnf)) | (refine bI ?_ ?_ <;> intro <;> (conv => whnf) <;> (try (exfalso; omega))) | fail)
       all_goals first
        | (exfalso; omega)
        | (refine ⟨([], []), ⟨rfl, rfl⟩, ?_⟩
           (conv => whnf)
           rfl)
 rintro e ⟨ka, ra⟩ ⟨rfl, ha⟩
 dsimp only at ha ⊢
 (try (conv => whnf)); repeat' (first | refine Ok.seq ?_ | ((first | refine Ok.region tok ?_ | refine Ok.cond ?_ | refine Ok.skip ?_); conv => whnf) | (refine Or.inl ?_; (conv => whnf); (repeat (refine aI ?_; conv => whnf)); refine ⟨_, k1 ka kb ra rb ha hb, rfl, ?_⟩; conv => whnf) | (refine Or.inl ?_; (conv => whnf); (repeat (refine aI ?_; conv => whnf)); refine ⟨_, u1, rfl, ?_⟩; conv => whnf) | (refine Or.inr (Or.inl ?_); (conv => whnf); (repeat (refine aI ?_; conv => whnf)); refine ⟨_, q1 , ?_⟩; rintro _ _ ⟨rfl, _, rfl, kb, rb, rfl, hb⟩ <;> (conv => whnf)) | (refine Or.inr (Or.inl ?_); (conv => whnf); (repeat (refine aI ?_; conv => whnf)); refine ⟨_, tu , ?_⟩; rintro _ _ ⟨rfl, rm, rfl⟩ <;> (conv => whnf)) | fail)
 refine Or.inr (Or.inr (Or.inl ?_)); (conv => whnf); refine ⟨_, _, Tryz.func14, rfl, Tryz.call14, ?_⟩; (conv => whnf)
 refine Ok.joinU [18, 23, 24, 25, 27, 29] [] 2 3 (fun (x : Unit) => []) (fun _ b => b) (fun (x : Unit) (_ : Vx.Rows) => [none, some (56, (Es.reverse ++ [mk91, mk92]).map nrow)]) (fun e (x : Unit) => e = .normal) ?_; (conv => whnf); refine And.intro ?_ ?_
 . (try (conv => whnf)); repeat' (first | refine Ok.seq ?_ | (refine Ok.region tok ?_; conv => whnf) | refine Ok.block ?_ | fail)
   refine Ok.loopU [0, 1, 18, 23, 24, 25, 27, 29] [4] 2 3 (fun (k : Nat) => [.i .i64 (k : Nat)]) (fun _ b => b) (fun (k : Nat) (_ : Vx.Rows) => [none, some (56, ((Es.reverse.take k ++ Es.drop k) ++ [mk91, mk92]).map nrow)]) (fun (k : Nat) => k <= Es.length) (fun (k : Nat) => Es.length - k) (0) (Nat.zero_le _) ?_; (conv => whnf); refine ⟨by ((conv => whnf); first | rfl | (simp [envCat, List.take_of_length_le, nrow, frow, bcell, srow, tcells, crow, qrow, prow, trow, drow]; done) | (simp [envCat, List.take_of_length_le, nrow, frow, bcell, srow, tcells, crow, qrow, prow, trow, drow]; rw [IntKind.wrap_i64]; omega)), ?_⟩
   rintro k hk
   have htl : (Es.reverse.take k).length = k := by simp; omega
   have hl2 : (((Es.reverse.take k ++ Es.drop k) ++ [mk91, mk92]).map nrow).length = Es.length + 2 := by simp; omega
   have hnm : (Es.reverse.map nrow).length = Es.length := by simp
   (conv => whnf)
   by_cases hkl : k < Es.length
   . obtain ⟨a, ha⟩ : ∃ a, Es.reverse[k]? = some a := ⟨_, List.getElem?_eq_getElem (by omega)⟩
     obtain ⟨b, hb⟩ : ∃ b, Es[k]? = some b := ⟨_, List.getElem?_eq_getElem (by omega)⟩
     have haI : Es.reverse[((k : Nat) : Int).toNat]? = some a := ha
     have hb' := mixA htl [mk91, mk92] b hb
     have hbI : ((Es.reverse.take k ++ Es.drop k) ++ [mk91, mk92])[((k : Nat) : Int).toNat]? = some b := hb'
     have e5 := mixS htl [mk91, mk92] ha (show k < Es.length by omega)
     (try (conv => whnf)); repeat' (first | (refine st a hbI (by simp) rfl ?_; conv => whnf) | refine Ok.seq ?_ | ((first | refine Ok.region tok ?_ | refine Ok.cond ?_); conv => whnf) | refine Ok.block ?_ | ((first | refine Ok.skip ?_ | refine nI ?_ | refine ix _ (by assumption) ?_); conv => whnf) | (refine bI ?_ ?_ <;> intro <;> (conv => whnf) <;> (try (exfalso; omega))) | (refine aJ ?_; conv => whnf) | fail)
     all_goals first
      | (exfalso; omega)
      | skip
     refine ⟨k + 1, by omega, by omega, ?_⟩
     rw [<- e5]
     (conv => whnf); (first | rfl | simp [envCat, List.take_of_length_le, nrow, frow, bcell, srow, tcells, crow, qrow, prow, trow, drow])
   . have hkk : k = Es.length := by omega
     subst hkk
     (try (conv => whnf)); repeat' (first | refine Ok.seq ?_ | ((first | refine Ok.region tok ?_ | refine Ok.cond ?_ | refine Ok.exit ?_); conv => whnf) | (refine bI ?_ ?_ <;> intro <;> (conv => whnf) <;> (try (exfalso; omega))) | fail)
     all_goals first
      | (exfalso; omega)
      | skip
     refine ⟨(), rfl, ?_⟩
     rw [mixE hR]
     (conv => whnf); (first | rfl | simp [envCat, List.take_of_length_le, nrow, frow, bcell, srow, tcells, crow, qrow, prow, trow, drow])
 rintro e x rfl
 (try (conv => whnf)); repeat' (first | refine Ok.seq ?_ | (refine Ok.region tok ?_; conv => whnf) | fail)
 all_goals first
  | (exfalso; omega)
  | skip
 refine Or.inr (Or.inr (Or.inl ?_)); (conv => whnf); refine ⟨_, _, Tryz.func17, rfl, Tryz.call17, ?_⟩; (conv => whnf)
 refine Ok.joinV [45, 50, 51, 52, 54, 56] [4, 5] 2 3 2 4 (fun (x : List TR × List (List D)) => [.bp 3 0, .i .i64 o2]) (fun (x : List TR × List (List D)) => [[.i .i64 n1, .lst 130 (ka.map trow) ra], [.i .i64 n1, .lst 130 (ka.map trow) ra], [.i .i64 n1, .lst 109 (kb.map drow) rb], [.i .i64 n2, .lst 130 (x.1.map trow) x.2]]) (fun (x : List TR × List (List D)) => [none, some (56, (Es.reverse ++ [mk91, mk92]).map nrow)]) (fun e (x : List TR × List (List D)) => e = .ret /\ x.1.map TR.t = t2) ?_; (conv => whnf); refine And.intro ?_ ?_
 . have hk2 := fun sa sb => echk_own Fs Es.reverse (sa := sa) (sb := sb) f1 e3 (by omega) (by omega) htr
   have hd2 : ∀ {V V' : Vw} {v : Value} {ω : List Value}, RS (szOf T) V [] ω v (chkD Fs Es.reverse) -> RS (szOf T) V' [] [] v (chkD Fs Es.reverse) := fun h => chkD_deep Fs Es.reverse h
   by_cases hc : chkE Fs Es.reverse = 0
   case neg =>
    rw [spcO_err hc] at hO2
    obtain ⟨rfl, rfl, rfl⟩ : chkE Fs Es.reverse = o2 /\ 0 = n2 /\ [] = t2 := by simpa using hO2
    rw [chkD_err rfl hc] at hk2 hd2
    generalize chkE Fs Es.reverse = k at *
    (try (conv => whnf)); repeat' (first | (refine Ok.nilC 3 1 130 rfl rfl ?_; (conv => whnf); refine Ok.ret ?_; (conv => whnf)) | (refine Or.inr (Or.inr (Or.inr (Or.inr ?_))); (conv => whnf); refine effW.of (effK.deep (ts := [22, 23]) (by (conv => whnf); exact ⟨by omega, rfl⟩) (hk2 _ _) ?_); rintro _ _ ⟨rfl, rfl⟩; refine ⟨rfl, fun _ _ _ _ h => hd2 h, ?_⟩; (conv => whnf)) | refine Ok.seq ?_ | ((first | refine Ok.region tok ?_ | refine Ok.cond ?_); conv => whnf) | (refine bI ?_ ?_ <;> intro <;> (conv => whnf) <;> (try (exfalso; omega))) | fail)
    all_goals first
     | (exfalso; omega)
     | (refine ⟨([], []), ⟨rfl, rfl⟩, ?_⟩
        (conv => whnf)
        rfl)
   obtain ⟨hco, _, x, hb, hxo, _⟩ := chk_good hc
   rw [chkD_ok hc hb] at hk2 hd2
   obtain ⟨hlay, _⟩ := chk_lay hco
   have hww := wid_le hlay
   have hpk : x.pok := buildR_pok (bldO_one hb) (fun c hc => (htr c hc).2) (by simp) x (by simp)
   have hsx := fun r => space_at Fs r (by omega) hco x hxo hpk
   have hs1 := spcO_sp hc hb
   have hs2 := spcO_ok hc hb
   unfold SpS SpR at hsx
   generalize x.sp Fs = q at *
   obtain ⟨oe, on, ot⟩ := q
   dsimp only at hsx hs1
   rw [<- f1] at hsx
   (try (conv => whnf)); repeat' (first | (refine Or.inr (Or.inr (Or.inr (Or.inr ?_))); (conv => whnf); refine effW.of (effK.deep (ts := [22, 23]) (by (conv => whnf); exact ⟨by omega, rfl⟩) (hk2 _ _) ?_); rintro _ _ ⟨rfl, rfl⟩; refine ⟨rfl, fun _ _ _ _ h => hd2 h, ?_⟩; (conv => whnf)) | refine Ok.seq ?_ | ((first | refine Ok.region tok ?_ | refine Ok.cond ?_); conv => whnf) | refine Ok.block ?_ | (refine Ok.skip ?_; conv => whnf) | (refine bI ?_ ?_ <;> intro <;> (conv => whnf) <;> (try (exfalso; omega))) | fail)
   all_goals first
    | (exfalso; omega)
    | (rename_i h; exact absurd rfl h)
    | skip
   refine Ok.loopU [0, 4, 6, 22, 23, 45, 50, 51, 52, 54, 56] [8, 24] 2 4 (fun (i : Nat) => [.i .i64 (wid (Fs.take i) : Nat), .i .i64 (i : Nat)]) (fun (i : Nat) (_ : List (List D)) => [[.i .i64 n1, .lst 130 (ka.map trow) ra], [.i .i64 n1, .lst 130 (ka.map trow) ra], [.i .i64 n1, .lst 109 (kb.map drow) rb], [.i .i64 0, .nilS]]) (fun (i : Nat) (_ : Vx.Rows) => [none, some (56, (Es.reverse ++ [mk91, mk92]).map nrow)]) (fun (i : Nat) => i <= Fs.length) (fun (i : Nat) => Fs.length - i) (0) (Nat.zero_le _) ?_; (conv => whnf); refine ⟨by ((conv => whnf); first | rfl | (simp [envCat, List.take_of_length_le, nrow, frow, bcell, srow, tcells, crow, qrow, prow, trow, drow]; done) | (simp [envCat, List.take_of_length_le, nrow, frow, bcell, srow, tcells, crow, qrow, prow, trow, drow]; rw [IntKind.wrap_i64]; omega)), ?_⟩
   intro i hi
   have l4 : (((Fs ++ [mkF]).map frow).take Fs.length).length = Fs.length := by rw [f1]; simp
   (conv => whnf)
   by_cases hil : i < Fs.length
   . obtain ⟨c, hcc⟩ : ∃ c, Fs[i]? = some c := ⟨_, List.getElem?_eq_getElem hil⟩
     have hcI : (((Fs ++ [mkF]).map frow).take Fs.length)[((i : Nat) : Int).toNat]? = some (frow c) := by rw [f1]; simp [hcc]
     have hcb := hlay c (List.mem_of_getElem? hcc)
     have hsn := wid_snoc hcc
     have hsp := wid_split hcc
     (try (conv => whnf)); repeat' (first | (refine ⟨_, hcI, ?_⟩; conv => whnf) | refine Ok.seq ?_ | ((first | refine Ok.region tok ?_ | refine Ok.cond ?_); conv => whnf) | refine Ok.block ?_ | ((first | refine Ok.skip ?_ | refine nI ?_); conv => whnf) | (refine bI ?_ ?_ <;> intro <;> (conv => whnf) <;> (try (exfalso; omega))) | (refine aJ ?_; conv => whnf) | fail)
     all_goals first
      | (exfalso; omega)
      | skip
     refine ⟨i + 1, by omega, by omega, ?_⟩
     rw [hsn, show ((wid (Fs.take i) + c.bits.toNat : Nat) : Int) = (wid (Fs.take i) : Int) + c.bits by omega]
     (conv => whnf)
     rfl
   . have hie : i = Fs.length := by omega
     rw [hie, List.take_length]
     obtain ⟨fx, mx, sx⟩ := hsx (((Fs ++ [mkF]).map frow).drop Fs.length)
     by_cases hoe : oe = 0
     . subst hoe
       rw [hs2 rfl] at hO2
       obtain ⟨rfl, rfl, rfl⟩ : 0 = o2 /\ on = n2 /\ ot = t2 := by simpa using hO2
       (try (conv => whnf)); repeat' (first | refine Ok.seq ?_ | ((first | refine Ok.region tok ?_ | refine Ok.cond ?_ | refine Ok.skip ?_ | refine Ok.exit ?_ | refine Ok.ret ?_); conv => whnf) | (refine Or.inr ?_; (conv => whnf); refine ⟨_, mx, ?_⟩; (conv => whnf); (repeat (refine aI ?_; conv => whnf)); refine ⟨_, sx, ?_⟩; rintro _ _ ⟨rfl, n9, ks9, rm9, rfl, hk9⟩ <;> (conv => whnf)) | (refine bI ?_ ?_ <;> intro <;> (conv => whnf) <;> (try (exfalso; omega))) | fail)
       all_goals first
        | (exfalso; omega)
        | (rename_i h; exact absurd rfl h)
        | (obtain ⟨rfl, hk2⟩ := hk9 rfl
           refine ⟨(ks9, rm9), ⟨rfl, hk2⟩, ?_⟩
           (conv => whnf)
           rfl)
     . rw [hs1 hoe] at hO2
       obtain ⟨rfl, rfl, rfl⟩ : oe = o2 /\ 0 = n2 /\ [] = t2 := by simpa using hO2
       (try (conv => whnf)); repeat' (first | (refine Ok.nilC 3 1 130 rfl rfl ?_; (conv => whnf); refine Ok.ret ?_; (conv => whnf)) | refine Ok.seq ?_ | ((first | refine Ok.region tok ?_ | refine Ok.cond ?_ | refine Ok.exit ?_); conv => whnf) | (refine Or.inr ?_; (conv => whnf); refine ⟨_, mx, ?_⟩; (conv => whnf); (repeat (refine aI ?_; conv => whnf)); refine ⟨_, sx, ?_⟩; rintro _ _ ⟨rfl, n9, ks9, rm9, rfl, hk9⟩ <;> (conv => whnf)) | (refine bI ?_ ?_ <;> intro <;> (conv => whnf) <;> (try (exfalso; omega))) | fail)
       all_goals first
        | (exfalso; omega)
        | (refine ⟨([], []), ⟨rfl, rfl⟩, ?_⟩
           (conv => whnf)
           rfl)
 rintro e ⟨kc, rc⟩ ⟨rfl, hcc⟩
 dsimp only at hcc ⊢
 (try (conv => whnf)); repeat' (first | refine Ok.seq ?_ | ((first | refine Ok.region tok ?_ | refine Ok.ret ?_); conv => whnf) | (refine Or.inl ?_; (conv => whnf); (repeat (refine aI ?_; conv => whnf)); refine ⟨_, k2 kc kd rc rd hcc hdd, rfl, ?_⟩; conv => whnf) | (refine Or.inl ?_; (conv => whnf); (repeat (refine aI ?_; conv => whnf)); refine ⟨_, u2 _, rfl, ?_⟩; conv => whnf) | (refine Or.inl ?_; (conv => whnf); (repeat (refine aI ?_; conv => whnf)); refine ⟨_, v1, rfl, ?_⟩; conv => whnf) | (refine Or.inr (Or.inl ?_); (conv => whnf); (repeat (refine aI ?_; conv => whnf)); refine ⟨_, q2 _ , ?_⟩; rintro _ _ ⟨rfl, _, rfl, kd, rd, rfl, hdd⟩ <;> (conv => whnf)) | fail)
 all_goals first
  | (exfalso; omega)
  | (refine Or.inl ?_; (conv => whnf)
     first | rfl | exact tt_b)
end Go.Proofs.YtagmibogginaaaaGreatDoor
namespace Go.Proofs.YtagmibogginaaaaGreatDoor
open Go Go.Vx Go.Shelf
theorem exprSpaces_ats : ∃ ls, shapes T 9 [22, 23] = some ls /\ ∀ xs, TyAs T 1048576 [22, 23] ls xs -> FSpec Tryz.prog T 5 xs (fun d _ => d = .b True) := by
 refine ⟨_, rfl, fun xs h => ?_⟩
 obtain ⟨_, _, rfl, h0, h⟩ := as_cons h
 obtain ⟨_, _, rfl, h1, h⟩ := as_cons h
 obtain rfl := as_nil h
 obtain ⟨x0, r0, rfl, b0, c0, d0⟩ := lst_of (leaf h0 rfl) fld_of
 obtain ⟨x1, r1, rfl, b1, c1, d1⟩ := lst_of (leaf h1 rfl) nd_of
 exact spaces_law x0 _ x1 _ fun c hc => by
  have := c1 c hc
  omega
theorem glUsedS {W : World} (h : laidMetH Tryz.prog Rows.exprSpacesUptoRow.laid W) : VLe glV (heapV W) := glUsed h
end Go.Proofs.YtagmibogginaaaaGreatDoor
