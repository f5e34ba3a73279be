/- The walks and the plain laws that a law of spaces needs, part 5 of 7. -/
import Derived.Test.YtagmibogginaaaaGreatDoorPOD
import Derived.Tactics
import Derived.Tactics2
set_option linter.unusedVariables false
set_option linter.unusedSimpArgs false
namespace Go.Proofs.YtagmibogginaaaaGreatDoor
open Go Go.Vx
theorem termT_good {p : Str} {less : List Str} {t : Term} {n : Nat} (hp : CN p) (hn : p.length = n) (hl : ∀ m ∈ less, CT m) (h : termT p less = some t) : GoodT n t /\ t.p = p := by
 have h0 := termT_ok hp.2 h
 subst hn
 refine ⟨⟨h0.1, by rw [h0.2]; exact hp, fun m hm => ?_⟩, h0.2⟩
 by_cases hk : PK p less = [p]
 . rw [termT_pk0 hk] at h; cases h
 . rw [termT_pk1 hk] at h
   cases h
   obtain ⟨x, hx, hm2⟩ := metL_mem (PK_mem hm)
   have h3 := meetT_ct hm2 (hl x hx) hp.1
   exact ⟨h3.1, fun e => h3.2.2 (List.eq_nil_of_length_eq_zero (by rw [<- h3.2.1, e]; rfl))⟩
structure Fine (n : Int) (ts : List Term) : Prop where
 n0 : 0 <= n
 n1 : n <= 256
 good : ∀ t ∈ ts, GoodT n.toNat t
 sz : szT ts <= 128
theorem Fine.nil {n : Int} (h0 : 0 <= n) (h1 : n <= 256) : Fine n [] := ⟨h0, h1, by simp, by simp [szT]⟩
theorem szT_len (l : List Term) : l.length <= szT l := szS_len l
theorem szT_mem {l : List Term} {t : Term} (h : t ∈ l) : 1 + t.less.length <= szT l := szS_mem h
theorem Fine.len {n : Int} {ts : List Term} (h : Fine n ts) : ts.length <= 128 := Nat.le_trans (szT_len _) h.sz
theorem Fine.less {n : Int} {ts : List Term} (h : Fine n ts) {t : Term} (ht : t ∈ ts) : t.less.length <= 127 := by
 have := szT_mem ht
 have := h.sz
 omega
theorem GoodT.tn {n : Nat} {x : TR} (h : GoodT n x.t) (hl : x.t.less.length <= 1048576) : TN x := ⟨h.p, h.less, hl⟩
theorem GoodT.to {n : Nat} {x : TR} (h : GoodT n x.t) (hl : x.t.less.length <= 1048576) : TO n x := ⟨h.tn hl, h.ok⟩
theorem GoodT.rn {n : Nat} {x : TR} (h : GoodT n x.t) (hl : x.t.less.length <= 1048576) : RN2 x /\ x.t.Ok n :=
 ⟨⟨⟨h.p.2, h.p.1.len⟩, fun m hm => ⟨(h.less m hm).2, (h.less m hm).1.len⟩, hl⟩, h.ok⟩
theorem mem_of_map {l : List TR} {ts : List Term} (e : l.map TR.t = ts) {x : TR} (hx : x ∈ l) : x.t ∈ ts := by rw [<- e]; exact List.mem_map_of_mem hx
theorem Fine.to {n : Int} {ts : List Term} (h : Fine n ts) {l : List TR} (e : l.map TR.t = ts) : ∀ x ∈ l, TO n.toNat x := fun x hx =>
 (h.good _ (mem_of_map e hx)).to (Nat.le_trans (h.less (mem_of_map e hx)) (by decide))
theorem Fine.rn {n : Int} {ts : List Term} (h : Fine n ts) {l : List TR} (e : l.map TR.t = ts) : ∀ x ∈ l, RN2 x /\ x.t.Ok n.toNat := fun x hx =>
 (h.good _ (mem_of_map e hx)).rn (Nat.le_trans (h.less (mem_of_map e hx)) (by decide))
theorem Fine.sp {n : Int} {ts : List Term} (h : Fine n ts) {l : List TR} (e : l.map TR.t = ts) : SpOk n.toNat l := by
 refine ⟨by have := h.n1; omega, ?_, fun x hx => (h.good _ (mem_of_map e hx)).ok.wide, fun hne => ?_⟩
 . rw [<- szS_eq, e]; exact Nat.le_trans h.sz (by decide)
 . cases l with
   | nil => exact absurd rfl hne
   | cons x l => exact (h.good _ (mem_of_map e (List.mem_cons_self ..))).ok.pos
theorem Fine.form {n : Int} {l : List Term} (h0 : 0 <= n) (h1 : n <= 256) (hg : ∀ t ∈ l, GoodT n.toNat t) (hs : szT (formT l) <= 128) : Fine n (formT l) :=
 ⟨h0, h1, fun t ht => hg t (formT_mem ht), hs⟩
end Go.Proofs.YtagmibogginaaaaGreatDoor
namespace Go.Proofs.YtagmibogginaaaaGreatDoor
open Go Go.Vx
def DSp (n : Int) (ts : List Term) (d : D) : Prop := ∃ (ks : List TR) (rm : List (List D)), d = .agg [.i .i64 n, .lst 109 (ks.map drow) rm] /\ ks.map TR.t = ts
def DOut (o : Int × Int × List Term) (d : D) (rows : Vx.Rows) : Prop := rows = [] /\ ∃ a, d = .tup [a, .i .i64 o.1] /\ DSp o.2.1 o.2.2 a
theorem DSp.nil (n : Int) : DSp n [] (.agg [.i .i64 n, .lst 109 [] []]) := ⟨[], [], rfl, rfl⟩
end Go.Proofs.YtagmibogginaaaaGreatDoor
namespace Go.Proofs.YtagmibogginaaaaGreatDoor
open Go Go.Vx Go.RowKit
theorem ours_nil (w : World) : Calls Tryz.prog 161 #[.nilIface] w fun e w' => e = .returned (.bool false) /\ w' = w := by
 go_enter Tryz.func161, Tryz.ntmps161
 go_wp2
 go_ret
 exact ⟨rfl, rfl⟩
theorem as_passed (w : World) : (Instr.typeAssert (.iface 231 (.agg #[])) 20 231 true).run Tryz.prog w = .ok (.tuple #[.agg #[], .bool true]) w := by kernel_rfl
set_option maxRecDepth 100000 in
theorem ours_passed (w : World) : Calls Tryz.prog 161 #[.iface 231 (.agg #[])] w fun e w' => e = .returned (.bool true) /\ Ext w w' := by
 go_enter Tryz.func161, Tryz.ntmps161
 go_wp2_with (rw [as_passed])
 go_ret
 exact ⟨rfl, Ext.alloc _ _⟩
theorem run_store2 {t : TypeId} {p : Addr} {w w' : World} {z : List Value} {x y : Operand} {a : Act} {dst : Option Nat} {type : TypeId} {pos : String} {after : Array Edge} (hsz : ∀ w, (sizeOf t).run Tryz.prog w = .ok z.length w) (hx : a.eval x = .pointer (some p)) (hy : (a.eval y).cells = z.toArray) (h : (storeCells p z).run Tryz.prog w = .ok () w') :
    (execOp a.eval ⟨dst, .store t x y, type, pos, after, none⟩).run Tryz.prog w = .ok .skip w' := by
 simp [execOp, Instr.storeAt, hx, hy, Instr.sureAddr, storeVar, hsz, h]
theorem run_build2 {e : Operand -> Value} {dst : Option Nat} {type : TypeId} {pos : String} {after : Array Edge} {w : World} : (execOp e ⟨dst, .build 44 #[], type, pos, after, none⟩).run Tryz.prog w = .ok (.value (.agg #[.int .i64 0, .slice none 0 0])) w := by
 have h : (Instr.build 44 #[]).run Tryz.prog w = .ok (.agg #[.int .i64 0, .slice none 0 0]) w := by kernel_rfl
 simp [execOp, h]
theorem idle_join (p q : Addr) (w : World) : CallsD Tryz.prog 212 #[.pointer (some p), .pointer (some q)] .returning w fun e u' w' => e = .returned (.tuple #[]) /\ u' = .returning /\ Ext w w' := by
 refine callsD_of_wpS Tryz.func212 rfl fun c₀ cs hu => ?_
 apply wpS_seq
 apply wpS_region
 simp [wpOpsS, go_sem, recoverD, hu, Tryz.ntmps212, Exit.thenS]
 refine (ours_nil w).mono ?_
 rintro e w' ⟨rfl, rfl⟩
 refine wpS_cond (t := false) (by simp [Act.eval, Act.put, Array.replicate]) ?_
 simp only [Bool.false_eq_true, if_false]
 refine wpS_of_wp (wp_skip ?_)
 cases c₀
 simp_all [bodyPostS, results, Tryz.results212]
 exact Ext.refl _
theorem caught_join (p q : Addr) (w : World) {R : Ending -> FrameMode -> World -> Prop} (h : ∀ w1, Ext w w1 -> ∃ w2, (storeCells p [.int .i64 0, .slice none 0 0]).run Tryz.prog w1 = .ok () w2 /\ ∃ w3, (storeCells q [.int .i64 3]).run Tryz.prog w2 = .ok () w3)
    (hR : ∀ w1 w2 w3, Ext w w1 -> (storeCells p [.int .i64 0, .slice none 0 0]).run Tryz.prog w1 = .ok () w2 -> (storeCells q [.int .i64 3]).run Tryz.prog w2 = .ok () w3 -> R (.returned (.tuple #[])) (.panicking [{ v := .iface 231 (.agg #[]), recovered := true }]) w3) :
    CallsD Tryz.prog 212 #[.pointer (some p), .pointer (some q)] (.panicking [{ v := .iface 231 (.agg #[]), recovered := false }]) w R := by
 refine callsD_of_wpS Tryz.func212 rfl fun c₀ cs hu => ?_
 apply wpS_seq
 apply wpS_region
 simp [wpOpsS, go_sem, recoverD, hu, Tryz.ntmps212, Exit.thenS]
 refine (ours_passed w).mono ?_
 rintro e w1 ⟨rfl, hx⟩
 obtain ⟨w2, h1, w3, h2⟩ := h w1 hx
 have hr := hR w1 w2 w3 hx h1 h2
 refine wpS_cond (t := true) (by simp [Act.eval, Act.put, Array.replicate]) ?_
 simp only [if_true]
 refine wpS_of_wp ?_
 refine wp_region_lit ?_
 unfold wpList
 rw [if_pos (by simp [Region.wanted])]
 left
 unfold Oper.wp
 rw [run_build2]
 show wpList _ _ _ [_, _] (Act.put _ (some 4) _) w1
 unfold wpList
 rw [if_pos (by simp [Region.wanted])]
 left
 unfold Oper.wp
 rw [run_store2 (p := p) (z := [.int .i64 0, .slice none 0 0]) (fun w => by kernel_rfl) (by simp [Act.eval, Act.put, Array.replicate]) (by simp [Act.eval, Act.put, Array.replicate, Value.cells]) h1]
 show wpList _ _ _ [_] _ w2
 unfold wpList
 rw [if_pos (by simp [Region.wanted])]
 left
 unfold Oper.wp
 rw [run_store2 (p := q) (z := [.int .i64 3]) (fun w => by kernel_rfl) (by simp [Act.eval, Act.put, Array.replicate]) (by simp [Act.eval, Value.cells]) h2]
 show bodyPostS _ _ _ _ _ .normal _ _ w3
 cases c₀
 simp_all [bodyPostS, results, Tryz.results212]
 try exact rfl
theorem def_join : DefSpec Tryz.prog 212 (.iface 231 (.agg #[])) [.int .i64 0, .slice none 0 0] [.int .i64 3] :=
 ⟨Tryz.call212, idle_join, fun p q w h => caught_join p q w h fun _ _ _ hx h1 h2 => ⟨rfl, rfl, _, _, hx, h1, h2⟩⟩
theorem idle_meet (p q : Addr) (w : World) : CallsD Tryz.prog 231 #[.pointer (some p), .pointer (some q)] .returning w fun e u' w' => e = .returned (.tuple #[]) /\ u' = .returning /\ Ext w w' := by
 refine callsD_of_wpS Tryz.func231 rfl fun c₀ cs hu => ?_
 apply wpS_seq
 apply wpS_region
 simp [wpOpsS, go_sem, recoverD, hu, Tryz.ntmps231, Exit.thenS]
 refine (ours_nil w).mono ?_
 rintro e w' ⟨rfl, rfl⟩
 refine wpS_cond (t := false) (by simp [Act.eval, Act.put, Array.replicate]) ?_
 simp only [Bool.false_eq_true, if_false]
 refine wpS_of_wp (wp_skip ?_)
 cases c₀
 simp_all [bodyPostS, results, Tryz.results231]
 exact Ext.refl _
theorem caught_meet (p q : Addr) (w : World) {R : Ending -> FrameMode -> World -> Prop} (h : ∀ w1, Ext w w1 -> ∃ w2, (storeCells p [.int .i64 0, .slice none 0 0]).run Tryz.prog w1 = .ok () w2 /\ ∃ w3, (storeCells q [.int .i64 3]).run Tryz.prog w2 = .ok () w3)
    (hR : ∀ w1 w2 w3, Ext w w1 -> (storeCells p [.int .i64 0, .slice none 0 0]).run Tryz.prog w1 = .ok () w2 -> (storeCells q [.int .i64 3]).run Tryz.prog w2 = .ok () w3 -> R (.returned (.tuple #[])) (.panicking [{ v := .iface 231 (.agg #[]), recovered := true }]) w3) :
    CallsD Tryz.prog 231 #[.pointer (some p), .pointer (some q)] (.panicking [{ v := .iface 231 (.agg #[]), recovered := false }]) w R := by
 refine callsD_of_wpS Tryz.func231 rfl fun c₀ cs hu => ?_
 apply wpS_seq
 apply wpS_region
 simp [wpOpsS, go_sem, recoverD, hu, Tryz.ntmps231, Exit.thenS]
 refine (ours_passed w).mono ?_
 rintro e w1 ⟨rfl, hx⟩
 obtain ⟨w2, h1, w3, h2⟩ := h w1 hx
 have hr := hR w1 w2 w3 hx h1 h2
 refine wpS_cond (t := true) (by simp [Act.eval, Act.put, Array.replicate]) ?_
 simp only [if_true]
 refine wpS_of_wp ?_
 refine wp_region_lit ?_
 unfold wpList
 rw [if_pos (by simp [Region.wanted])]
 left
 unfold Oper.wp
 rw [run_build2]
 show wpList _ _ _ [_, _] (Act.put _ (some 4) _) w1
 unfold wpList
 rw [if_pos (by simp [Region.wanted])]
 left
 unfold Oper.wp
 rw [run_store2 (p := p) (z := [.int .i64 0, .slice none 0 0]) (fun w => by kernel_rfl) (by simp [Act.eval, Act.put, Array.replicate]) (by simp [Act.eval, Act.put, Array.replicate, Value.cells]) h1]
 show wpList _ _ _ [_] _ w2
 unfold wpList
 rw [if_pos (by simp [Region.wanted])]
 left
 unfold Oper.wp
 rw [run_store2 (p := q) (z := [.int .i64 3]) (fun w => by kernel_rfl) (by simp [Act.eval, Act.put, Array.replicate]) (by simp [Act.eval, Value.cells]) h2]
 show bodyPostS _ _ _ _ _ .normal _ _ w3
 cases c₀
 simp_all [bodyPostS, results, Tryz.results231]
 try exact rfl
theorem def_meet : DefSpec Tryz.prog 231 (.iface 231 (.agg #[])) [.int .i64 0, .slice none 0 0] [.int .i64 3] :=
 ⟨Tryz.call231, idle_meet, fun p q w h => caught_meet p q w h fun _ _ _ hx h1 h2 => ⟨rfl, rfl, _, _, hx, h1, h2⟩⟩
theorem idle_minus (p q : Addr) (w : World) : CallsD Tryz.prog 213 #[.pointer (some p), .pointer (some q)] .returning w fun e u' w' => e = .returned (.tuple #[]) /\ u' = .returning /\ Ext w w' := by
 refine callsD_of_wpS Tryz.func213 rfl fun c₀ cs hu => ?_
 apply wpS_seq
 apply wpS_region
 simp [wpOpsS, go_sem, recoverD, hu, Tryz.ntmps213, Exit.thenS]
 refine (ours_nil w).mono ?_
 rintro e w' ⟨rfl, rfl⟩
 refine wpS_cond (t := false) (by simp [Act.eval, Act.put, Array.replicate]) ?_
 simp only [Bool.false_eq_true, if_false]
 refine wpS_of_wp (wp_skip ?_)
 cases c₀
 simp_all [bodyPostS, results, Tryz.results213]
 exact Ext.refl _
theorem caught_minus (p q : Addr) (w : World) {R : Ending -> FrameMode -> World -> Prop} (h : ∀ w1, Ext w w1 -> ∃ w2, (storeCells p [.int .i64 0, .slice none 0 0]).run Tryz.prog w1 = .ok () w2 /\ ∃ w3, (storeCells q [.int .i64 3]).run Tryz.prog w2 = .ok () w3)
    (hR : ∀ w1 w2 w3, Ext w w1 -> (storeCells p [.int .i64 0, .slice none 0 0]).run Tryz.prog w1 = .ok () w2 -> (storeCells q [.int .i64 3]).run Tryz.prog w2 = .ok () w3 -> R (.returned (.tuple #[])) (.panicking [{ v := .iface 231 (.agg #[]), recovered := true }]) w3) :
    CallsD Tryz.prog 213 #[.pointer (some p), .pointer (some q)] (.panicking [{ v := .iface 231 (.agg #[]), recovered := false }]) w R := by
 refine callsD_of_wpS Tryz.func213 rfl fun c₀ cs hu => ?_
 apply wpS_seq
 apply wpS_region
 simp [wpOpsS, go_sem, recoverD, hu, Tryz.ntmps213, Exit.thenS]
 refine (ours_passed w).mono ?_
 rintro e w1 ⟨rfl, hx⟩
 obtain ⟨w2, h1, w3, h2⟩ := h w1 hx
 have hr := hR w1 w2 w3 hx h1 h2
 refine wpS_cond (t := true) (by simp [Act.eval, Act.put, Array.replicate]) ?_
 simp only [if_true]
 refine wpS_of_wp ?_
 refine wp_region_lit ?_
 unfold wpList
 rw [if_pos (by simp [Region.wanted])]
 left
 unfold Oper.wp
 rw [run_build2]
 show wpList _ _ _ [_, _] (Act.put _ (some 4) _) w1
 unfold wpList
 rw [if_pos (by simp [Region.wanted])]
 left
 unfold Oper.wp
 rw [run_store2 (p := p) (z := [.int .i64 0, .slice none 0 0]) (fun w => by kernel_rfl) (by simp [Act.eval, Act.put, Array.replicate]) (by simp [Act.eval, Act.put, Array.replicate, Value.cells]) h1]
 show wpList _ _ _ [_] _ w2
 unfold wpList
 rw [if_pos (by simp [Region.wanted])]
 left
 unfold Oper.wp
 rw [run_store2 (p := q) (z := [.int .i64 3]) (fun w => by kernel_rfl) (by simp [Act.eval, Act.put, Array.replicate]) (by simp [Act.eval, Value.cells]) h2]
 show bodyPostS _ _ _ _ _ .normal _ _ w3
 cases c₀
 simp_all [bodyPostS, results, Tryz.results213]
 try exact rfl
theorem def_minus : DefSpec Tryz.prog 213 (.iface 231 (.agg #[])) [.int .i64 0, .slice none 0 0] [.int .i64 3] :=
 ⟨Tryz.call213, idle_minus, fun p q w h => caught_minus p q w h fun _ _ _ hx h1 h2 => ⟨rfl, rfl, _, _, hx, h1, h2⟩⟩
end Go.Proofs.YtagmibogginaaaaGreatDoor
namespace Go.Proofs.YtagmibogginaaaaGreatDoor
open Go Go.Vx Go.Shelf
def PSp (n : Int) (ts : List Term) (d : D) : Prop := ∃ (ks : List TR) (rm : List (List D)), d = .agg [.i .i64 n, .lst 130 (ks.map trow) rm] /\ ks.map TR.t = ts
def POut (o : Int × Int × List Term) (d : D) (rows : Vx.Rows) : Prop := rows = [] /\ ∃ a, d = .tup [a, .i .i64 o.1] /\ PSp o.2.1 o.2.2 a
theorem PSp.nil (n : Int) : PSp n [] (.agg [.i .i64 n, .lst 130 [] []]) := ⟨[], [], rfl, rfl⟩
theorem perr_of {t : Str} (h : okC t) : perr t = 0 := by unfold perr; rw [if_neg (by have := h.1.len; omega), if_pos h]
end Go.Proofs.YtagmibogginaaaaGreatDoor
namespace Go.Proofs.YtagmibogginaaaaGreatDoor
open Go Go.Vx
theorem Fine.cast {n : Int} {ts : List Term} (h : Fine n ts) : ((n.toNat : Nat) : Int) = n := by have := h.n0; omega
theorem Fine.mless {n : Int} {ts : List Term} (h : Fine n ts) {l : List TR} (e : l.map TR.t = ts) : ∀ x ∈ l, x.t.less.length <= 1048576 := fun x hx => Nat.le_trans (h.less (mem_of_map e hx)) (by decide)
end Go.Proofs.YtagmibogginaaaaGreatDoor
namespace Go.Proofs.YtagmibogginaaaaGreatDoor
open Go Go.Vx
def bndO (n : Int) (l : List Term) : Int × Int × List Term := if szT l <= 128 then (0, n, l) else (3, 0, [])
def fitP (n m : Int) : Prop := n = m /\ 0 < n
open Classical in
noncomputable def joinO (n m : Int) (ts us : List Term) : Int × Int × List Term := if fitP n m then bndO n (formT (ts ++ us)) else (11, 0, [])
theorem fits2_at (n m : Int) : FSpec Tryz.prog T 211 [.i .i64 n, .i .i64 m] (fun r _ => r = .b (fitP n m)) := by
 refine FSpec.of_ok tok Tryz.func211 rfl Tryz.call211 (by simp) ?_
 (try (conv => whnf)); repeat' (first | refine Ok.seq ?_ | ((first | refine Ok.region tok ?_ | refine Ok.ret ?_); conv => whnf) | (refine bI ?_ ?_ <;> intro <;> (conv => whnf) <;> (try (exfalso; omega))) | fail)
 . rename_i h
   refine Or.inl ?_; (conv => whnf)
   exact congrArg D.b (propext ⟨fun h2 => ⟨h, h2⟩, fun h2 => h2.2⟩)
 . rename_i h
   refine Or.inl ?_; (conv => whnf)
   show D.b False = _
   exact congrArg D.b (propext ⟨fun h2 => h2.elim, fun h2 => h h2.1⟩)
theorem rfit_at (n m : Int) (d d2 : D) (hd : ∃ e r m, d = .lst e r m) (hd2 : ∃ e r m, d2 = .lst e r m) : FSpec Tryz.prog T 55 [.agg [.i .i64 n, d], .agg [.i .i64 m, d2]] (fun r _ => r = .b (fitP n m)) := by
 obtain ⟨_, _, _, rfl⟩ := hd
 obtain ⟨_, _, _, rfl⟩ := hd2
 refine FSpec.of_ok tok Tryz.func55 rfl Tryz.call55 (by simp) ?_
 (try (conv => whnf)); repeat' (first | refine Ok.seq ?_ | ((first | refine Ok.region tok ?_ | refine Ok.ret ?_); conv => whnf) | (refine bI ?_ ?_ <;> intro <;> (conv => whnf) <;> (try (exfalso; omega))) | fail)
 . rename_i h
   refine Or.inl ?_; (conv => whnf)
   exact congrArg D.b (propext ⟨fun h2 => ⟨h2, h⟩, fun h2 => h2.1⟩)
 . rename_i h
   refine Or.inl ?_; (conv => whnf)
   show D.b False = _
   exact congrArg D.b (propext ⟨fun h2 => h2.elim, fun h2 => h h2.2⟩)
theorem bndO_fine {n : Int} {l : List Term} (h0 : 0 <= n) (h1 : n <= 256) (hg : ∀ t ∈ l, GoodT n.toNat t) : Fine (bndO n (formT l)).2.1 (bndO n (formT l)).2.2 := by
 unfold bndO
 split
 . rename_i h; exact .form h0 h1 hg h
 . exact .nil (by decide) (by decide)
theorem joinO_fine {n m : Int} {ts us : List Term} (hf : Fine n ts) (hg : Fine m us) : Fine (joinO n m ts us).2.1 (joinO n m ts us).2.2 := by
 unfold joinO
 split
 . rename_i h
   obtain ⟨rfl, h0⟩ := h
   exact bndO_fine hf.n0 hf.n1 fun t ht => (List.mem_append.1 ht).elim (hf.good t) (hg.good t)
 . exact .nil (by decide) (by decide)
theorem bndO_le {n : Int} {l : List Term} (h : szT l <= 128) : bndO n l = (0, n, l) := if_pos h
theorem bndO_gt {n : Int} {l : List Term} (h : 128 < szT l) : bndO n l = (3, 0, []) := if_neg (by omega)
theorem joinO_fit {n m : Int} {ts us : List Term} (h : fitP n m) : joinO n m ts us = bndO n (formT (ts ++ us)) := if_pos h
theorem joinO_not {n m : Int} {ts us : List Term} (h : ¬ fitP n m) : joinO n m ts us = (11, 0, []) := if_neg h
theorem formT_len (l : List Term) : (formT l).length <= l.length := by
 unfold formT
 rw [(srt_perm aheadT _).length_eq]
 exact grG_len covT l
theorem form_len {ks : List TR} {l : List Term} {k : Nat} (e : ks.map TR.t = formT l) (h : l.length <= k) : ks.length <= k := by
 have := congrArg List.length e
 rw [List.length_map] at this
 rw [this]
 exact Nat.le_trans (formT_len l) h
theorem DOut.form {n : Int} {l : List Term} {ks : List TR} {rm : List (List D)} (e : ks.map TR.t = formT l) (h : szT (ks.map TR.t) <= 128) : DOut (bndO n (formT l)) (.tup [.agg [.i .i64 n, .lst 109 (ks.map drow) rm], .i .i64 0]) [] := by
 rw [bndO_le (by rw [<- e]; exact h)]
 exact ⟨rfl, _, rfl, ks, rm, rfl, e⟩
theorem DOut.many {n : Int} {l : List Term} {ks : List TR} (e : ks.map TR.t = formT l) (h : 128 < szT (ks.map TR.t)) : DOut (bndO n (formT l)) (.tup [.agg [.i .i64 0, .lst 109 [] []], .i .i64 3]) [] := by
 rw [bndO_gt (by rw [<- e]; exact h)]
 exact ⟨rfl, _, rfl, .nil 0⟩
set_option maxHeartbeats 4000000 in
theorem rjoin_at {n m : Int} {ts us : List Term} (hf : Fine n ts) (hg : Fine m us) (ks ks2 : List TR) (rm rm2 : List (List D)) (h1 : ks.map TR.t = ts) (h2 : ks2.map TR.t = us) :
    FSpec Tryz.prog T 32 [.agg [.i .i64 n, .lst 109 (ks.map drow) rm], .agg [.i .i64 m, .lst 109 (ks2.map drow) rm2]] (DOut (joinO n m ts us)) := by
 have hfit := rfit_at n m (.lst 109 (ks.map drow) rm) (.lst 109 (ks2.map drow) rm2) ⟨_, _, _, rfl⟩ ⟨_, _, _, rfl⟩
 have hl1 := hf.len
 have hl2 := hg.len
 rw [<- h1, List.length_map] at hl1
 rw [<- h2, List.length_map] at hl2
 refine FSpec.of_ok tok Tryz.func32 rfl Tryz.call32 (by simp) ?_
 have htk : List.take (List.map drow ks ++ List.map drow ks2).length (List.map drow ks ++ List.map drow ks2) = (ks ++ ks2).map drow := by rw [List.take_of_length_le (Nat.le_refl _), List.map_append]
 have hmem : ∀ x ∈ ks ++ ks2, x.t.less.length <= 1048576 := fun x hx => (List.mem_append.1 hx).elim (hf.mless h1 x) (hg.mless h2 x)
 by_cases hfp : fitP n m
 . have hnm := hfp.1
   subst hnm
   have hrn : ∀ x ∈ ks ++ ks2, RN2 x /\ x.t.Ok n.toNat := fun x hx => (List.mem_append.1 hx).elim (hf.rn h1 x) (hg.rn h2 x)
   have hts : (ks ++ ks2).map TR.t = ts ++ us := by rw [List.map_append, h1, h2]
   rw [joinO_fit hfp, <- hts]
   have hln : ((ks ++ ks2).map TR.t).length <= 1048576 := by simp; omega
   (try (conv => whnf)); repeat' (first | refine Ok.seq ?_ | ((first | refine Ok.region tok ?_ | refine Ok.cond ?_ | refine Ok.skip ?_ | refine Ok.ret ?_); conv => whnf) | (refine Or.inl ?_; (conv => whnf); (repeat (refine aI ?_; conv => whnf)); refine ⟨_, hfit, rfl, ?_⟩; conv => whnf) | (refine Or.inr (Or.inl ?_); (conv => whnf); (repeat (refine aI ?_; conv => whnf)); refine ⟨_, rform_at n n.toNat (ks ++ ks2) (by simp; omega) hrn htk , ?_⟩; rintro _ _ ⟨ks3, rm3, rfl, rfl, hks3, hkm⟩ <;> (conv => whnf)) | (refine Or.inr (Or.inl ?_); (conv => whnf); (repeat (refine aI ?_; conv => whnf)); refine ⟨_, rbound_at n ks3 (form_len hks3 hln) (fun x hx => hmem x (hkm x hx)) rfl , ?_⟩; rintro _ _ ⟨rfl, (⟨hb, rfl⟩ | ⟨hb, rfl⟩)⟩ <;> (conv => whnf)) | ((first | refine Alt2.l (aI ?_) | refine ⟨_, _, rfl, rfl, ?_⟩); conv => whnf) | (refine bI ?_ ?_ <;> intro <;> (conv => whnf) <;> (try (exfalso; omega))) | (refine aJ ?_; conv => whnf) | fail)
   . exact absurd hfp (by assumption)
   . refine Or.inl ?_; (conv => whnf)
     exact DOut.form hks3 hb
   . refine Or.inl ?_; (conv => whnf)
     exact DOut.many hks3 hb
 . rw [joinO_not hfp]
   (try (conv => whnf)); repeat' (first | refine Ok.seq ?_ | ((first | refine Ok.region tok ?_ | refine Ok.cond ?_ | refine Ok.skip ?_ | refine Ok.ret ?_); conv => whnf) | (refine Or.inl ?_; (conv => whnf); (repeat (refine aI ?_; conv => whnf)); refine ⟨_, hfit, rfl, ?_⟩; conv => whnf) | ((first | refine Alt2.l (aI ?_) | refine ⟨_, _, rfl, rfl, ?_⟩); conv => whnf) | (refine bI ?_ ?_ <;> intro <;> (conv => whnf) <;> (try (exfalso; omega))) | (refine aJ ?_; conv => whnf) | fail)
   . refine Or.inl ?_; (conv => whnf)
     exact ⟨rfl, _, rfl, DSp.nil 0⟩
   . rename_i h
     exact absurd hfp h
set_option maxRecDepth 100000 in
set_option maxHeartbeats 4000000 in
theorem join_at {n m : Int} {ts us : List Term} (hf : Fine n ts) (hg : Fine m us) (ks ks2 : List TR) (rm rm2 : List (List D)) (h1 : ks.map TR.t = ts) (h2 : ks2.map TR.t = us) :
    FSpec Tryz.prog T 209 [.agg [.i .i64 n, .lst 130 (ks.map trow) rm], .agg [.i .i64 m, .lst 130 (ks2.map trow) rm2]] (POut (joinO n m ts us)) := by
 have hfit := fits2_at n m
 have hl1 := hf.len
 have hl2 := hg.len
 rw [<- h1, List.length_map] at hl1
 rw [<- h2, List.length_map] at hl2
 have htk : List.take (List.map trow ks ++ List.map trow ks2).length (List.map trow ks ++ List.map trow ks2) = (ks ++ ks2).map trow := by rw [List.take_of_length_le (Nat.le_refl _), List.map_append]
 have hk1 : (List.map trow ks).length = ks.length := by simp
 have hk2 : (List.map trow ks2).length = ks2.length := by simp
 refine FSpec.of_deferK 3 tok Tryz.func209 rfl Tryz.call209 (by simp) def_join (zd1 := [.i .i64 0, .nilS]) (zd2 := [.i .i64 3]) rfl rfl (by simp [Value.oneCell']) (by simp [Value.oneCell']) rfl ?_
 by_cases hfp : fitP n m
 . have hnm := hfp.1
   subst hnm
   have hto : ∀ x ∈ ks ++ ks2, TO n.toNat x := fun x hx => (List.mem_append.1 hx).elim (hf.to h1 x) (hg.to h2 x)
   have hts : (ks ++ ks2).map TR.t = ts ++ us := by rw [List.map_append, h1, h2]
   rw [joinO_fit hfp, <- hts]
   have hln : (ks ++ ks2).length <= 1048576 := by simp; omega
   (try (conv => whnf)); repeat' (first | refine Ok.seq ?_ | refine OkL.cons ?_ | ((first | refine Ok.region tok ?_ | refine Ok.cond ?_ | refine Ok.skip ?_ | refine Ok.ret ?_); conv => whnf) | (refine Or.inl ?_; (conv => whnf); (repeat (refine aI ?_; conv => whnf)); refine ⟨_, hfit, rfl, ?_⟩; conv => whnf) | (refine bI ?_ ?_ <;> intro <;> (conv => whnf) <;> (try (exfalso; omega))) | fail)
   . exact absurd hfp (by assumption)
   refine OkL.nil ?_
   (conv => whnf)
   refine ⟨2, 3, rfl, rfl, by decide, by decide, by decide, rfl, ?_⟩
   by_cases hsz : szT (formT ((ks ++ ks2).map TR.t)) <= 128
   . rw [bndO_le hsz]
     (try (conv => whnf)); repeat' (first | refine OkL.cons ?_ | ((first | refine Ok.region tok ?_ | refine Ok.region_plan (id := 6) tok follows [(4, 5, []), (1, 6, []), (4, 6, [5]), (5, 6, []), (1, 7, []), (4, 7, []), (5, 7, []), (6, 7, []), (1, 8, []), (4, 8, []), (5, 8, []), (6, 8, []), (7, 8, [])] [.q 0, .q 1, .q 2, .q 3, .q 4, .l 5, .l 6, .l 7, .l 8] (by kernel_rfl) ?_ | refine Ok.ret ?_ | refine nI ?_); conv => whnf) | (refine Or.inr (Or.inl ?_); (conv => whnf); (repeat (refine aI ?_; conv => whnf)); refine ⟨_, form_at n n.toNat (ks ++ ks2) hln hto htk hsz , ?_⟩; rintro _ _ ⟨ks3, rm3, rfl, rfl, hks3, hkm⟩ <;> (conv => whnf)) | ((first | refine Alt2.l (aI ?_) | refine ⟨_, _, rfl, rfl, ?_⟩ | refine aJ ?_ | refine ⟨_, rfl, ?_⟩); conv => whnf) | fail)
     refine Or.inl ?_; (conv => whnf)
     exact ⟨rfl, _, rfl, ks3, rm3, rfl, hks3⟩
   . rw [bndO_gt (by omega)]
     (try (conv => whnf)); repeat' (first | refine OkL.cons ?_ | ((first | refine Ok.region tok ?_ | refine nI ?_ | refine Alt2.l (aI ?_) | refine ⟨_, _, rfl, rfl, ?_⟩ | refine aJ ?_ | refine ⟨_, rfl, ?_⟩); conv => whnf) | fail)
     refine Ok.region_planpanS tok follows [(4, 5, [])] [.q 0, .q 1, .q 2, .q 3, .q 4, .l 5] 6 (by kernel_rfl) ?_; (conv => whnf)
     (try (conv => whnf)); repeat' (first | ((first | refine Alt2.l (aI ?_) | refine ⟨_, _, rfl, rfl, ?_⟩ | refine aJ ?_); conv => whnf) | fail)
     refine ⟨_, form_pan n n.toNat (ks ++ ks2) hln hto htk (by omega), ?_⟩
     (conv => whnf)
     refine ⟨rfl, 2, 3, _, _, rfl, rfl, rfl, rfl, rfl, rfl, by decide, rfl, ?_⟩
     (conv => whnf)
     refine Or.inl ?_; (conv => whnf)
     exact ⟨rfl, _, rfl, PSp.nil 0⟩
 . rw [joinO_not hfp]
   (try (conv => whnf)); repeat' (first | refine Ok.seq ?_ | refine OkL.cons ?_ | ((first | refine Ok.region tok ?_ | refine Ok.cond ?_ | refine Ok.skip ?_ | refine Ok.ret ?_); conv => whnf) | (refine Or.inl ?_; (conv => whnf); (repeat (refine aI ?_; conv => whnf)); refine ⟨_, hfit, rfl, ?_⟩; conv => whnf) | (refine bI ?_ ?_ <;> intro <;> (conv => whnf) <;> (try (exfalso; omega))) | fail)
   . refine Or.inl ?_; (conv => whnf)
     exact ⟨rfl, _, rfl, PSp.nil 0⟩
   . rename_i h
     exact absurd hfp h
end Go.Proofs.YtagmibogginaaaaGreatDoor
namespace Go.Proofs.YtagmibogginaaaaGreatDoor
open Go Go.Vx
noncomputable def meet2 (a b : Term) : Option Term := (meetT a.p b.p).bind fun p => termT p (a.less ++ b.less)
noncomputable def meets (ts us : List Term) : List Term := ts.flatMap fun a => us.filterMap (meet2 a)
open Classical in
noncomputable def meetO (n m : Int) (ts us : List Term) : Int × Int × List Term := if fitP n m then (if ts.length * us.length <= 2048 then bndO n (formT (meets ts us)) else (3, 0, [])) else (11, 0, [])
theorem GoodT.len {n : Nat} {t : Term} (h : GoodT n t) : t.p.length = n := h.ok.p
theorem meet2_good {n : Nat} {a b t : Term} (ha : GoodT n a) (hb : GoodT n b) (h : meet2 a b = some t) : GoodT n t := by
 unfold meet2 at h
 obtain ⟨p, hp, ht⟩ := Option.bind_eq_some_iff.1 h
 have hm := meetT_ct hp ha.p.1 hb.p.1
 exact (termT_good ⟨hm.1, fun e => hm.2.2 (List.eq_nil_of_length_eq_zero (by rw [<- hm.2.1, e]; rfl))⟩ (by rw [hm.2.1, ha.len]) (fun m hm => (List.mem_append.1 hm).elim (fun h => (ha.less m h).1) (fun h => (hb.less m h).1)) ht).1
theorem meets_good {n : Nat} {ts us : List Term} (h1 : ∀ t ∈ ts, GoodT n t) (h2 : ∀ t ∈ us, GoodT n t) : ∀ t ∈ meets ts us, GoodT n t := by
 intro t ht
 obtain ⟨a, ha, h⟩ := List.mem_flatMap.1 ht
 obtain ⟨b, hb, h⟩ := List.mem_filterMap.1 h
 exact meet2_good (h1 a ha) (h2 b hb) h
theorem meet2_less {a b t : Term} (h : meet2 a b = some t) : t.less.length <= a.less.length + b.less.length := by
 unfold meet2 at h
 obtain ⟨p, hp, ht⟩ := Option.bind_eq_some_iff.1 h
 have := termT_sz ht
 rw [List.length_append] at this
 exact this
theorem meets_less {ts us : List Term} {k : Nat} (h1 : ∀ t ∈ ts, t.less.length <= k) (h2 : ∀ t ∈ us, t.less.length <= k) : ∀ t ∈ meets ts us, t.less.length <= k + k := by
 intro t ht
 obtain ⟨a, ha, h⟩ := List.mem_flatMap.1 ht
 obtain ⟨b, hb, h⟩ := List.mem_filterMap.1 h
 have := meet2_less h
 have := h1 a ha
 have := h2 b hb
 omega
theorem meets_snoc {ts us : List Term} {i : Nat} {a : Term} (h : ts[i]? = some a) : meets (ts.take (i + 1)) us = meets (ts.take i) us ++ us.filterMap (meet2 a) := by
 unfold meets
 rw [take_snoc h, List.flatMap_append]
 simp
theorem fm_some {α β : Type} {f : α -> Option β} {l : List α} {i : Nat} {a : α} {b : β} (h : l[i]? = some a) (hb : f a = some b) : (l.take (i + 1)).filterMap f = (l.take i).filterMap f ++ [b] := by
 rw [take_snoc h]; simp [hb]
theorem fm_none {α β : Type} {f : α -> Option β} {l : List α} {i : Nat} {a : α} (h : l[i]? = some a) (hb : f a = none) : (l.take (i + 1)).filterMap f = (l.take i).filterMap f := by
 rw [take_snoc h]; simp [hb]
theorem tr_get {ks : List TR} {ts : List Term} {i : Nat} {x : TR} (e : ks.map TR.t = ts) (h : ks[i]? = some x) : ts[i]? = some x.t := by rw [<- e, List.getElem?_map, h]; rfl
theorem meetO_fit {n m : Int} {ts us : List Term} (h : fitP n m) (h2 : ts.length * us.length <= 2048) : meetO n m ts us = bndO n (formT (meets ts us)) := by unfold meetO; rw [if_pos h, if_pos h2]
theorem meetO_raw {n m : Int} {ts us : List Term} (h : fitP n m) (h2 : ¬ ts.length * us.length <= 2048) : meetO n m ts us = (3, 0, []) := by unfold meetO; rw [if_pos h, if_neg h2]
theorem meetO_not {n m : Int} {ts us : List Term} (h : ¬ fitP n m) : meetO n m ts us = (11, 0, []) := if_neg h
theorem meetO_fine {n m : Int} {ts us : List Term} (hf : Fine n ts) (hg : Fine m us) : Fine (meetO n m ts us).2.1 (meetO n m ts us).2.2 := by
 by_cases h : fitP n m
 . by_cases h2 : ts.length * us.length <= 2048
   . rw [meetO_fit h h2]
     obtain ⟨rfl, h0⟩ := h
     exact bndO_fine hf.n0 hf.n1 (meets_good hf.good hg.good)
   . rw [meetO_raw h h2]; exact .nil (by decide) (by decide)
 . rw [meetO_not h]; exact .nil (by decide) (by decide)
theorem raw_at {n : Int} (h : n <= 2048) : FSpec Tryz.prog T 214 [.i .i64 n] (fun d _ => d = .tup []) := by
 refine FSpec.of_ok tok Tryz.func214 rfl Tryz.call214 (by simp) ?_
 (try (conv => whnf)); repeat' (first | refine Ok.seq ?_ | ((first | refine Ok.region tok ?_ | refine Ok.cond ?_ | refine Ok.skip ?_); conv => whnf) | (refine bI ?_ ?_ <;> intro <;> (conv => whnf) <;> (try (exfalso; omega))) | fail)
 refine Or.inl ?_; (conv => whnf)
 rfl
theorem raw_pan {n : Int} (h : 2048 < n) : PSpec Tryz.prog T 214 [.i .i64 n] passedV := by
 refine PSpec.of_ok Tryz.func214 rfl Tryz.call214 (by simp) ?_
 refine Ok.seq ?_
 (refine Ok.region tok ?_; conv => whnf)
 (conv => whnf)
 refine Ok.cond ?_
 (conv => whnf)
 refine ⟨fun _ => ?_, fun h2 => absurd h h2⟩
 refine Ok.region_throw (fun w => by kernel_rfl) (by kernel_rfl) (by decide) (by decide) ?_
 rfl
theorem both_at (l m : List Str) {r1 r2 rm1 rm2 : List (List D)} (h1 : r1 = l.map srow) (h2 : r2 = m.map srow) (hl : l.length <= 100000) (hm : m.length <= 100000) : FSpec Tryz.prog T 60 [.lst 9 r1 rm1, .lst 9 r2 rm2] (fun d rows => ∃ rm, d = .lst 9 ((l ++ m).map srow) rm /\ rows = []) := by
 subst h1 h2
 have hl1 : (l.map srow).length = l.length := by simp
 have hl2 : (m.map srow).length = m.length := by simp
 refine FSpec.of_ok tok Tryz.func60 rfl Tryz.call60 (by simp) ?_
 (try (conv => whnf)); repeat' (first | refine Ok.seq ?_ | ((first | refine Ok.region tok ?_ | refine Ok.ret ?_ | refine Alt2.l (aI ?_) | refine ⟨_, _, rfl, rfl, ?_⟩ | refine aJ ?_); conv => whnf) | fail)
 refine Or.inl ?_; (conv => whnf)
 refine ⟨[], ?_, rfl⟩
 rw [List.take_of_length_le (Nat.le_refl _), List.drop_of_length_le (Nat.le_refl _), List.map_append]
 rfl
set_option maxRecDepth 100000 in
set_option maxHeartbeats 8000000 in
theorem rmeet2_at {n m : Int} {ts us : List Term} (hf : Fine n ts) (hg : Fine m us) (ks ks2 : List TR) (rm rm2 : List (List D)) (h1 : ks.map TR.t = ts) (h2 : ks2.map TR.t = us) :
    FSpec Tryz.prog T 31 [.agg [.i .i64 n, .lst 109 (ks.map drow) rm], .agg [.i .i64 m, .lst 109 (ks2.map drow) rm2]] (DOut (meetO n m ts us)) := by
 have hfit := rfit_at n m (.lst 109 (ks.map drow) rm) (.lst 109 (ks2.map drow) rm2) ⟨_, _, _, rfl⟩ ⟨_, _, _, rfl⟩
 have hl1 : ks.length = ts.length := by rw [<- h1, List.length_map]
 have hl2 : ks2.length = us.length := by rw [<- h2, List.length_map]
 have hm1 : (ks.map drow).length = ts.length := by simp [hl1]
 have hm2 : (ks2.map drow).length = us.length := by simp [hl2]
 have hk1 := hf.len
 have hk2 := hg.len
 refine FSpec.of_ok tok Tryz.func31 rfl Tryz.call31 (by simp) ?_
 by_cases hfp : fitP n m
 . have hnm := hfp.1
   subst hnm
   have hmul : ((List.map drow ks).length : Int) * ((List.map drow ks2).length : Int) = ((ts.length * us.length : Nat) : Int) := by rw [hm1, hm2]; simp
   have hmb : ts.length * us.length <= 128 * 128 := Nat.mul_le_mul hk1 hk2
   by_cases hraw : ts.length * us.length <= 2048
   . rw [meetO_fit hfp hraw]
     (try (conv => whnf)); repeat' (first | refine Ok.seq ?_ | ((first | refine Ok.region tok ?_ | refine Ok.cond ?_); conv => whnf) | refine Ok.block ?_ | ((first | refine Ok.skip ?_ | refine Ok.ret ?_ | refine nI ?_); conv => whnf) | (refine Or.inl ?_; (conv => whnf); (repeat (refine aI ?_; conv => whnf)); refine ⟨_, hfit, rfl, ?_⟩; conv => whnf) | (refine bI ?_ ?_ <;> intro <;> (conv => whnf) <;> (try (exfalso; omega))) | fail)
     . exact absurd hfp (by assumption)
     refine Ok.ghost 6 109 rfl ?_
     (conv => whnf)
     refine Ok.loopU [2, 3, 4] [6, 7] 1 3 (fun (x : Nat × List TR) => [.own 0 x.2.length, .i .i64 (x.1 : Nat)]) (fun _ b => b) (fun (x : Nat × List TR) (_ : Vx.Rows) => [some (109, x.2.map drow)]) (fun (x : Nat × List TR) => x.1 <= ts.length /\ x.2.map TR.t = meets (ts.take x.1) us /\ x.2.length <= x.1 * us.length) (fun (x : Nat × List TR) => ts.length - x.1) ((0, [])) (⟨Nat.zero_le _, by simp [meets], by simp⟩) ?_; (conv => whnf); refine ⟨by ((conv => whnf); first | rfl | (simp [envCat, List.take_of_length_le, crow, trow, srow, drow]; done) | (simp [envCat, List.take_of_length_le, crow, trow, srow, drow]; rw [IntKind.wrap_i64]; omega)), ?_⟩
     rintro ⟨i, l⟩ ⟨hi, hl, hll⟩
     dsimp only at hi hl hll ⊢
     have hlm : (l.map drow).length = l.length := by simp
     have hib : i * us.length <= 128 * 128 := Nat.mul_le_mul (by omega) hk2
     (conv => whnf)
     by_cases hil : i < ts.length
     . obtain ⟨a, ha⟩ : ∃ a, ks[i]? = some a := ⟨_, List.getElem?_eq_getElem (by omega)⟩
       have haI : ks[((i : Nat) : Int).toNat]? = some a := ha
       have hat := tr_get h1 ha
       have hag := hf.good _ (List.mem_of_getElem? hat)
       have hal := hf.less (List.mem_of_getElem? hat)
       have hal2 : (a.t.less.map srow).length = a.t.less.length := by simp
       have hsn := meets_snoc (us := us) hat
       have hi1 : (i + 1) * us.length = i * us.length + us.length := by rw [Nat.add_mul, Nat.one_mul]
       (try (conv => whnf)); repeat' (first | refine Ok.seq ?_ | ((first | refine Ok.region tok ?_ | refine Ok.cond ?_); conv => whnf) | refine Ok.block ?_ | (refine Ok.skip ?_; conv => whnf) | (refine bI ?_ ?_ <;> intro <;> (conv => whnf) <;> (try (exfalso; omega))) | fail)
       refine Ok.loopU [2, 3, 4, 7] [6, 8] 1 3 (fun (x : Nat × List TR) => [.own 0 x.2.length, .i .i64 (x.1 : Nat)]) (fun _ b => b) (fun (x : Nat × List TR) (_ : Vx.Rows) => [some (109, x.2.map drow)]) (fun (x : Nat × List TR) => x.1 <= us.length /\ x.2.map TR.t = meets (ts.take i) us ++ (us.take x.1).filterMap (meet2 a.t) /\ x.2.length <= i * us.length + x.1) (fun (x : Nat × List TR) => us.length - x.1) ((0, l)) (⟨Nat.zero_le _, by simpa using hl, by simpa using hll⟩) ?_; (conv => whnf); refine ⟨by ((conv => whnf); first | rfl | (simp [envCat, List.take_of_length_le, crow, trow, srow, drow]; done) | (simp [envCat, List.take_of_length_le, crow, trow, srow, drow]; rw [IntKind.wrap_i64]; omega)), ?_⟩
       rintro ⟨j, l2⟩ ⟨hj, hl2e, hl2l⟩
       dsimp only at hj hl2e hl2l ⊢
       have hl2m : (l2.map drow).length = l2.length := by simp
       (conv => whnf)
       by_cases hjl : j < us.length
       . obtain ⟨b, hb⟩ : ∃ b, ks2[j]? = some b := ⟨_, List.getElem?_eq_getElem (by omega)⟩
         have hbI : ks2[((j : Nat) : Int).toNat]? = some b := hb
         have hbt := tr_get h2 hb
         have hbg := hg.good _ (List.mem_of_getElem? hbt)
         have hbl := hg.less (List.mem_of_getElem? hbt)
         have hbl2 : (b.t.less.map srow).length = b.t.less.length := by simp
         have hal3 := hag.p.1.len
         have hsp := rmeet_at a.t.p b.t.p (by omega)
         cases hm : meetT a.t.p b.t.p with
         | none =>
          have hno : meet2 a.t b.t = none := by unfold meet2; rw [hm]; rfl
          rw [hm] at hsp
          (try (conv => whnf)); repeat' (first | refine Ok.seq ?_ | ((first | refine Ok.region tok ?_ | refine Ok.region_plan (id := 12) tok follows [(1, 12, [5, 4, 3]), (5, 12, []), (7, 12, [11, 10, 9]), (11, 12, [])] [.q 0, .q 1, .q 2, .q 3, .q 4, .q 5, .q 6, .q 7, .q 8, .q 9, .q 10, .q 11, .l 12, .q 13, .q 14, .q 15, .q 16, .q 17] (by kernel_rfl) ?_ | refine Ok.region_tree (id := 14) tok follows [(2, 13, [6, 5, 4]), (6, 13, []), (8, 13, [12, 11, 10]), (12, 13, []), (2, 14, [13, 6, 5, 4]), (6, 14, [13]), (8, 14, [13, 12, 11, 10]), (12, 14, [13]), (13, 14, []), (2, 19, []), (6, 19, []), (8, 19, []), (12, 19, []), (13, 19, []), (14, 19, []), (18, 19, [])] (.q 0 (.q 1 (.q 2 (.q 3 (.q 4 (.q 5 (.q 6 (.q 7 (.q 8 (.q 9 (.q 10 (.q 11 (.q 12 (.alt 13 (.alt 14 (.q 15 (.q 16 (.q 17 (.l 18 (.l 19 (.q 20 .nil)))))) (.alt 18 (.l 14 (.q 15 (.q 16 (.q 17 (.l 19 (.q 20 .nil)))))) .nil)) (.alt 18 (.l 13 (.l 14 (.q 15 (.q 16 (.q 17 (.l 19 (.q 20 .nil))))))) .nil))))))))))))))) (by kernel_rfl) ?_ | refine Ok.cond ?_); conv => whnf) | refine Ok.block ?_ | ((first | refine Ok.skip ?_ | refine Ok.exit ?_ | refine nI ?_ | refine ix _ (by assumption) ?_); conv => whnf) | (refine Or.inr (Or.inl ?_); (conv => whnf); (repeat (refine aI ?_; conv => whnf)); refine ⟨_, hsp, ?_⟩; rintro _ _ ⟨rfl, rfl⟩ <;> (conv => whnf)) | (refine bI ?_ ?_ <;> intro <;> (conv => whnf) <;> (try (exfalso; omega))) | (exact True.intro) | (refine And.intro ?_ ?_ <;> (conv => whnf)) | fail)
          . refine ⟨(j + 1, l2), by dsimp only; omega, ⟨by dsimp only; omega, by dsimp only; rw [fm_none hbt hno]; exact hl2e, by dsimp only; omega⟩, ?_⟩
            (conv => whnf)
            rfl
          all_goals (rename_i h; exact absurd (fun q => by cases q) h)
         | some p =>
          rw [hm] at hsp
          have hmc := meetT_ct hm hag.p.1 hbg.p.1
          have hpn : p ≠ [] := fun e => hmc.2.2 (List.eq_nil_of_length_eq_zero (by rw [<- hmc.2.1, e]; rfl))
          have hwide : ∀ x ∈ a.t.less ++ b.t.less, x.length <= 256 := fun x hx => (List.mem_append.1 hx).elim (fun h => (hag.less x h).1.len) (fun h => (hbg.less x h).1.len)
          have hbo := both_at a.t.less b.t.less (rm1 := a.room) (rm2 := b.room) rfl rfl (by omega) (by omega)
          have hm2 : meet2 a.t b.t = termT p (a.t.less ++ b.t.less) := by unfold meet2; rw [hm]; rfl
          (try (conv => whnf)); repeat' (first | refine Ok.seq ?_ | ((first | refine Ok.region tok ?_ | refine Ok.region_plan (id := 12) tok follows [(1, 12, [5, 4, 3]), (5, 12, []), (7, 12, [11, 10, 9]), (11, 12, [])] [.q 0, .q 1, .q 2, .q 3, .q 4, .q 5, .q 6, .q 7, .q 8, .q 9, .q 10, .q 11, .l 12, .q 13, .q 14, .q 15, .q 16, .q 17] (by kernel_rfl) ?_ | refine Ok.region_tree (id := 14) tok follows [(2, 13, [6, 5, 4]), (6, 13, []), (8, 13, [12, 11, 10]), (12, 13, []), (2, 14, [13, 6, 5, 4]), (6, 14, [13]), (8, 14, [13, 12, 11, 10]), (12, 14, [13]), (13, 14, []), (2, 19, []), (6, 19, []), (8, 19, []), (12, 19, []), (13, 19, []), (14, 19, []), (18, 19, [])] (.q 0 (.q 1 (.q 2 (.q 3 (.q 4 (.q 5 (.q 6 (.q 7 (.q 8 (.q 9 (.q 10 (.q 11 (.q 12 (.alt 13 (.alt 14 (.q 15 (.q 16 (.q 17 (.l 18 (.l 19 (.q 20 .nil)))))) (.alt 18 (.l 14 (.q 15 (.q 16 (.q 17 (.l 19 (.q 20 .nil)))))) .nil)) (.alt 18 (.l 13 (.l 14 (.q 15 (.q 16 (.q 17 (.l 19 (.q 20 .nil))))))) .nil))))))))))))))) (by kernel_rfl) ?_ | refine Ok.cond ?_); conv => whnf) | refine Ok.block ?_ | ((first | refine Ok.skip ?_ | refine Ok.exit ?_ | refine nI ?_ | refine ix _ (by assumption) ?_); conv => whnf) | (refine Or.inr (Or.inl ?_); (conv => whnf); (repeat (refine aI ?_; conv => whnf)); refine ⟨_, hsp, ?_⟩; rintro _ _ ⟨rfl, rfl⟩ <;> (conv => whnf)) | (refine Or.inr (Or.inl ?_); (conv => whnf); (repeat (refine aI ?_; conv => whnf)); refine ⟨_, hbo , ?_⟩; rintro _ _ ⟨rm3, rfl, rfl⟩ <;> (conv => whnf)) | (refine Or.inr (Or.inl ?_); (conv => whnf); (repeat (refine aI ?_; conv => whnf)); refine ⟨_, rterm_at p (a.t.less ++ b.t.less) hpn hmc.1.len (by simp; omega) hwide rfl , ?_⟩; rintro _ _ ⟨rfl, (⟨ht, rfl⟩ | ⟨t, rm4, ht, rfl⟩)⟩ <;> (conv => whnf)) | ((first | refine Alt2.l (aI ?_) | refine ⟨_, .inl ⟨rfl, rfl⟩, ?_⟩ | refine ⟨_, _, rfl, rfl, ?_⟩); conv => whnf) | (refine bI ?_ ?_ <;> intro <;> (conv => whnf) <;> (try (exfalso; omega))) | (refine aJ ?_; conv => whnf) | (exact True.intro) | (refine And.intro ?_ ?_ <;> (conv => whnf)) | fail)
          all_goals first
           | (rename_i h; exact absurd rfl h)
           | (rename_i h; exact absurd trivial h)
           | (refine ⟨(j + 1, l2), by dsimp only; omega, ⟨by dsimp only; omega, by dsimp only; rw [fm_none hbt (hm2.trans ht)]; exact hl2e, by dsimp only; omega⟩, ?_⟩
              (conv => whnf)
              rfl)
           | (refine ⟨(j + 1, l2 ++ [⟨t, rm4⟩]), by dsimp only; omega, ⟨by dsimp only; omega, by dsimp only; rw [fm_some hbt (hm2.trans ht), List.map_append, hl2e, List.append_assoc]; rfl, by simp; omega⟩, ?_⟩
              (conv => whnf)
              simp [envCat])
       . have hje : j = us.length := by omega
         subst hje
         rw [List.take_length] at hl2e
         (try (conv => whnf)); repeat' (first | refine Ok.seq ?_ | ((first | refine Ok.region tok ?_ | refine Ok.cond ?_ | refine Ok.exit ?_ | refine nI ?_); conv => whnf) | (refine bI ?_ ?_ <;> intro <;> (conv => whnf) <;> (try (exfalso; omega))) | fail)
         refine ⟨(i + 1, l2), by dsimp only; omega, ⟨by dsimp only; omega, by dsimp only; rw [hsn]; exact hl2e, by dsimp only; omega⟩, ?_⟩
         (conv => whnf)
         rfl
     . have hie : i = ts.length := by omega
       subst hie
       rw [List.take_length] at hl
       have hgood := meets_good hf.good hg.good
       have hlb := meets_less (fun t ht => hf.less ht) (fun t ht => hg.less ht)
       have hle : ∀ x ∈ l, x.t.less.length <= 1048576 := fun x hx => Nat.le_trans (hlb _ (mem_of_map hl hx)) (by decide)
       have hrn : ∀ x ∈ l, RN2 x /\ x.t.Ok n.toNat := fun x hx => (hgood _ (mem_of_map hl hx)).rn (hle x hx)
       have htk : List.take l.length (l.map drow) = l.map drow := List.take_of_length_le (by simp)
       have hln : (l.map TR.t).length <= 1048576 := by simp; omega
       rw [<- hl]
       (try (conv => whnf)); repeat' (first | refine Ok.seq ?_ | ((first | refine Ok.region tok ?_ | refine Ok.cond ?_ | refine Ok.exit ?_ | refine Ok.ret ?_); conv => whnf) | (refine Or.inr (Or.inl ?_); (conv => whnf); (repeat (refine aI ?_; conv => whnf)); refine ⟨_, rform_at n n.toNat l (by omega) hrn htk , ?_⟩; rintro _ _ ⟨ks3, rm3, rfl, rfl, hks3, hkm⟩ <;> (conv => whnf)) | (refine Or.inr (Or.inl ?_); (conv => whnf); (repeat (refine aI ?_; conv => whnf)); refine ⟨_, rbound_at n ks3 (form_len hks3 hln) (fun x hx => hle x (hkm x hx)) rfl , ?_⟩; rintro _ _ ⟨rfl, (⟨hb, rfl⟩ | ⟨hb, rfl⟩)⟩ <;> (conv => whnf)) | (refine bI ?_ ?_ <;> intro <;> (conv => whnf) <;> (try (exfalso; omega))) | fail)
       . refine Or.inl ?_; (conv => whnf)
         exact DOut.form hks3 hb
       . refine Or.inl ?_; (conv => whnf)
         exact DOut.many hks3 hb
   . rw [meetO_raw hfp hraw]
     (try (conv => whnf)); repeat' (first | refine Ok.seq ?_ | ((first | refine Ok.region tok ?_ | refine Ok.cond ?_ | refine Ok.skip ?_ | refine Ok.ret ?_ | refine nI ?_); conv => whnf) | (refine Or.inl ?_; (conv => whnf); (repeat (refine aI ?_; conv => whnf)); refine ⟨_, hfit, rfl, ?_⟩; conv => whnf) | (refine bI ?_ ?_ <;> intro <;> (conv => whnf) <;> (try (exfalso; omega))) | fail)
     . exact absurd hfp (by assumption)
     . refine Or.inl ?_; (conv => whnf)
       exact ⟨rfl, _, rfl, DSp.nil 0⟩
 . rw [meetO_not hfp]
   (try (conv => whnf)); repeat' (first | refine Ok.seq ?_ | ((first | refine Ok.region tok ?_ | refine Ok.cond ?_); conv => whnf) | refine Ok.block ?_ | ((first | refine Ok.skip ?_ | refine Ok.ret ?_); conv => whnf) | (refine Or.inl ?_; (conv => whnf); (repeat (refine aI ?_; conv => whnf)); refine ⟨_, hfit, rfl, ?_⟩; conv => whnf) | (refine bI ?_ ?_ <;> intro <;> (conv => whnf) <;> (try (exfalso; omega))) | (refine num_any ?_; conv => whnf) | fail)
   . refine Or.inl ?_; (conv => whnf)
     exact ⟨rfl, _, rfl, DSp.nil 0⟩
   all_goals exact absurd hfp (by assumption)
end Go.Proofs.YtagmibogginaaaaGreatDoor
namespace Go.Proofs.YtagmibogginaaaaGreatDoor
open Go Go.Vx
set_option maxRecDepth 100000 in
set_option maxHeartbeats 8000000 in
theorem meet2_at {n m : Int} {ts us : List Term} (hf : Fine n ts) (hg : Fine m us) (ks ks2 : List TR) (rm rm2 : List (List D)) (h1 : ks.map TR.t = ts) (h2 : ks2.map TR.t = us) :
    FSpec Tryz.prog T 230 [.agg [.i .i64 n, .lst 130 (ks.map trow) rm], .agg [.i .i64 m, .lst 130 (ks2.map trow) rm2]] (POut (meetO n m ts us)) := by
 have hfit := fits2_at n m
 have hl1 : ks.length = ts.length := by rw [<- h1, List.length_map]
 have hl2 : ks2.length = us.length := by rw [<- h2, List.length_map]
 have hm1 : (ks.map trow).length = ts.length := by simp [hl1]
 have hm2 : (ks2.map trow).length = us.length := by simp [hl2]
 have hk1 := hf.len
 have hk2 := hg.len
 refine FSpec.of_deferK 3 tok Tryz.func230 rfl Tryz.call230 (by simp) def_meet (zd1 := [.i .i64 0, .nilS]) (zd2 := [.i .i64 3]) rfl rfl (by simp [Value.oneCell']) (by simp [Value.oneCell']) rfl ?_
 by_cases hfp : fitP n m
 . have hnm := hfp.1
   subst hnm
   have hmul : ((List.map trow ks).length : Int) * ((List.map trow ks2).length : Int) = ((ts.length * us.length : Nat) : Int) := by rw [hm1, hm2]; simp
   have hmb : ts.length * us.length <= 128 * 128 := Nat.mul_le_mul hk1 hk2
   (try (conv => whnf)); repeat' (first | refine Ok.seq ?_ | refine OkL.cons ?_ | ((first | refine Ok.region tok ?_ | refine Ok.cond ?_ | refine Ok.skip ?_ | refine Ok.ret ?_); conv => whnf) | (refine Or.inl ?_; (conv => whnf); (repeat (refine aI ?_; conv => whnf)); refine ⟨_, hfit, rfl, ?_⟩; conv => whnf) | (refine bI ?_ ?_ <;> intro <;> (conv => whnf) <;> (try (exfalso; omega))) | fail)
   . exact absurd hfp (by assumption)
   refine OkL.nil ?_
   (conv => whnf)
   refine ⟨2, 3, rfl, rfl, by decide, by decide, by decide, rfl, ?_⟩
   by_cases hraw : ts.length * us.length <= 2048
   . rw [meetO_fit hfp hraw]
     (try (conv => whnf)); repeat' (first | refine OkL.cons ?_ | (refine Ok.region tok ?_; conv => whnf) | refine Ok.block ?_ | (refine nI ?_; conv => whnf) | (refine Or.inl ?_; (conv => whnf); (repeat (refine aI ?_; conv => whnf)); refine ⟨_, raw_at (n := ((List.map trow ks).length : Int) * ((List.map trow ks2).length : Int)) (by rw [hmul]; omega), rfl, ?_⟩; conv => whnf) | fail)
     refine Ok.ghost 6 130 rfl ?_
     (conv => whnf)
     refine Ok.loopU [2, 3, 4, 5, 32, 33, 75, 76] [6, 34] 1 4 (fun (x : Nat × List TR) => [.own 0 x.2.length, .i .i64 (x.1 : Nat)]) (fun _ b => b) (fun (x : Nat × List TR) (_ : Vx.Rows) => [some (130, x.2.map trow)]) (fun (x : Nat × List TR) => x.1 <= ts.length /\ x.2.map TR.t = meets (ts.take x.1) us /\ x.2.length <= x.1 * us.length) (fun (x : Nat × List TR) => ts.length - x.1) ((0, [])) (⟨Nat.zero_le _, by simp [meets], by simp⟩) ?_; (conv => whnf); refine ⟨by ((conv => whnf); first | rfl | (simp [envCat, List.take_of_length_le, crow, trow, srow, drow]; done) | (simp [envCat, List.take_of_length_le, crow, trow, srow, drow]; rw [IntKind.wrap_i64]; omega)), ?_⟩
     rintro ⟨i, l⟩ ⟨hi, hl, hll⟩
     dsimp only at hi hl hll ⊢
     have hlm : (l.map trow).length = l.length := by simp
     have hib : i * us.length <= 128 * 128 := Nat.mul_le_mul (by omega) hk2
     (conv => whnf)
     by_cases hil : i < ts.length
     . obtain ⟨a, ha⟩ : ∃ a, ks[i]? = some a := ⟨_, List.getElem?_eq_getElem (by omega)⟩
       have haI : ks[((i : Nat) : Int).toNat]? = some a := ha
       have hat := tr_get h1 ha
       have hag := hf.good _ (List.mem_of_getElem? hat)
       have hal := hf.less (List.mem_of_getElem? hat)
       have hal2 : (a.t.less.map crow).length = a.t.less.length := by simp
       have hsn := meets_snoc (us := us) hat
       have hi1 : (i + 1) * us.length = i * us.length + us.length := by rw [Nat.add_mul, Nat.one_mul]
       (try (conv => whnf)); repeat' (first | refine Ok.seq ?_ | ((first | refine Ok.region tok ?_ | refine Ok.cond ?_); conv => whnf) | refine Ok.block ?_ | ((first | refine Ok.skip ?_ | refine ix _ (by assumption) ?_); conv => whnf) | (refine bI ?_ ?_ <;> intro <;> (conv => whnf) <;> (try (exfalso; omega))) | fail)
       refine Ok.loopU [2, 3, 4, 5, 8, 32, 33, 34, 39, 40, 75, 76] [6, 41] 1 5 (fun (x : Nat × List TR) => [.own 0 x.2.length, .i .i64 (x.1 : Nat)]) (fun _ b => b) (fun (x : Nat × List TR) (_ : Vx.Rows) => [some (130, x.2.map trow)]) (fun (x : Nat × List TR) => x.1 <= us.length /\ x.2.map TR.t = meets (ts.take i) us ++ (us.take x.1).filterMap (meet2 a.t) /\ x.2.length <= i * us.length + x.1) (fun (x : Nat × List TR) => us.length - x.1) ((0, l)) (⟨Nat.zero_le _, by simpa using hl, by simpa using hll⟩) ?_; (conv => whnf); refine ⟨by ((conv => whnf); first | rfl | (simp [envCat, List.take_of_length_le, crow, trow, srow, drow]; done) | (simp [envCat, List.take_of_length_le, crow, trow, srow, drow]; rw [IntKind.wrap_i64]; omega)), ?_⟩
       rintro ⟨j, l2⟩ ⟨hj, hl2e, hl2l⟩
       dsimp only at hj hl2e hl2l ⊢
       have hl2m : (l2.map trow).length = l2.length := by simp
       (conv => whnf)
       by_cases hjl : j < us.length
       . obtain ⟨b, hb⟩ : ∃ b, ks2[j]? = some b := ⟨_, List.getElem?_eq_getElem (by omega)⟩
         have hbI : ks2[((j : Nat) : Int).toNat]? = some b := hb
         have hbt := tr_get h2 hb
         have hbg := hg.good _ (List.mem_of_getElem? hbt)
         have hbl := hg.less (List.mem_of_getElem? hbt)
         have hbl2 : (b.t.less.map crow).length = b.t.less.length := by simp
         have hsp := meet_at a.t.p b.t.p hag.p.1 hbg.p.1
         cases hm : meetT a.t.p b.t.p with
         | none =>
          have hno : meet2 a.t b.t = none := by unfold meet2; rw [hm]; rfl
          rw [hm] at hsp
          (try (conv => whnf)); repeat' (first | refine Ok.seq ?_ | ((first | refine Ok.region tok ?_ | refine Ok.cond ?_); conv => whnf) | refine Ok.block ?_ | ((first | refine Ok.skip ?_ | refine nI ?_ | refine ix _ (by assumption) ?_); conv => whnf) | (refine Or.inr (Or.inl ?_); (conv => whnf); (repeat (refine aI ?_; conv => whnf)); refine ⟨_, hsp, ?_⟩; rintro _ _ ⟨rfl, rfl⟩ <;> (conv => whnf)) | (refine bI ?_ ?_ <;> intro <;> (conv => whnf) <;> (try (exfalso; omega))) | fail)
          . rename_i h
            cases h
          . refine ⟨(j + 1, l2), by dsimp only; omega, ⟨by dsimp only; omega, by dsimp only; rw [fm_none hbt hno]; exact hl2e, by dsimp only; omega⟩, ?_⟩
            (conv => whnf)
            rfl
         | some p =>
          rw [hm] at hsp
          have hmc := meetT_ct hm hag.p.1 hbg.p.1
          have hpn : p ≠ [] := fun e => hmc.2.2 (List.eq_nil_of_length_eq_zero (by rw [<- hmc.2.1, e]; rfl))
          have hm2 : meet2 a.t b.t = termT p (a.t.less ++ b.t.less) := by unfold meet2; rw [hm]; rfl
          have hnew : ∀ room, FSpec Tryz.prog T 162 [.agg (crow p), .lst 128 (List.map lrow [⟨a.t.less, a.room⟩, ⟨b.t.less, b.room⟩]) room] (NewT p (a.t.less ++ b.t.less)) := fun room => by
           have := newTerm_at p [⟨a.t.less, a.room⟩, ⟨b.t.less, b.room⟩] (room := room) ⟨hmc.1, hpn⟩ (by
            intro x hx m hm
            simp at hx
            rcases hx with rfl | rfl
            . exact (hag.less m hm).1
            . exact (hbg.less m hm).1) (by simp [allL]; omega) (by simp) rfl
           rwa [show allL [⟨a.t.less, a.room⟩, ⟨b.t.less, b.room⟩] = a.t.less ++ b.t.less by simp [allL]] at this
          (try (conv => whnf)); repeat' (first | refine Ok.seq ?_ | ((first | refine Ok.region tok ?_ | refine Ok.cond ?_); conv => whnf) | refine Ok.block ?_ | ((first | refine Ok.skip ?_ | refine nI ?_ | refine ix _ (by assumption) ?_); conv => whnf) | (refine Or.inr (Or.inl ?_); (conv => whnf); (repeat (refine aI ?_; conv => whnf)); refine ⟨_, hsp, ?_⟩; rintro _ _ ⟨rfl, rfl⟩ <;> (conv => whnf)) | (refine Or.inr (Or.inl ?_); (conv => whnf); (repeat (refine aI ?_; conv => whnf)); refine ⟨_, hnew _ , ?_⟩; rintro _ _ ⟨rfl, (⟨ht, rfl⟩ | ⟨t, rm4, ht, rfl⟩)⟩ <;> (conv => whnf)) | ((first | refine Alt2.l (aI ?_) | refine ⟨_, .inl ⟨rfl, rfl⟩, ?_⟩ | refine ⟨_, _, rfl, rfl, ?_⟩); conv => whnf) | (refine bI ?_ ?_ <;> intro <;> (conv => whnf) <;> (try (exfalso; omega))) | (refine aJ ?_; conv => whnf) | fail)
          all_goals first
           | (rename_i h; exact absurd rfl h)
           | (rename_i h; exact absurd trivial h)
           | (refine ⟨(j + 1, l2), by dsimp only; omega, ⟨by dsimp only; omega, by dsimp only; rw [fm_none hbt (hm2.trans ht)]; exact hl2e, by dsimp only; omega⟩, ?_⟩
              (conv => whnf)
              rfl)
           | (refine ⟨(j + 1, l2 ++ [⟨t, rm4⟩]), by dsimp only; omega, ⟨by dsimp only; omega, by dsimp only; rw [fm_some hbt (hm2.trans ht), List.map_append, hl2e, List.append_assoc]; rfl, by simp; omega⟩, ?_⟩
              (conv => whnf)
              simp [envCat])
       . have hje : j = us.length := by omega
         subst hje
         rw [List.take_length] at hl2e
         (try (conv => whnf)); repeat' (first | refine Ok.seq ?_ | ((first | refine Ok.region tok ?_ | refine Ok.cond ?_ | refine Ok.exit ?_ | refine nI ?_); conv => whnf) | (refine bI ?_ ?_ <;> intro <;> (conv => whnf) <;> (try (exfalso; omega))) | fail)
         refine ⟨(i + 1, l2), by dsimp only; omega, ⟨by dsimp only; omega, by dsimp only; rw [hsn]; exact hl2e, by dsimp only; omega⟩, ?_⟩
         (conv => whnf)
         rfl
     . have hie : i = ts.length := by omega
       subst hie
       rw [List.take_length] at hl
       have hgood := meets_good hf.good hg.good
       have hlb := meets_less (fun t ht => hf.less ht) (fun t ht => hg.less ht)
       have hle : ∀ x ∈ l, x.t.less.length <= 1048576 := fun x hx => Nat.le_trans (hlb _ (mem_of_map hl hx)) (by decide)
       have hto : ∀ x ∈ l, TO n.toNat x := fun x hx => (hgood _ (mem_of_map hl hx)).to (hle x hx)
       have htk : List.take l.length (l.map trow) = l.map trow := List.take_of_length_le (by simp)
       have hln : l.length <= 1048576 := by omega
       rw [<- hl]
       by_cases hsz : szT (formT (l.map TR.t)) <= 128
       . rw [bndO_le hsz]
         (try (conv => whnf)); repeat' (first | refine Ok.seq ?_ | refine OkL.cons ?_ | ((first | refine Ok.region tok ?_ | refine Ok.cond ?_ | refine Ok.exit ?_ | refine Ok.ret ?_); conv => whnf) | (refine Or.inr (Or.inl ?_); (conv => whnf); (repeat (refine aI ?_; conv => whnf)); refine ⟨_, form_at n n.toNat l hln hto htk hsz , ?_⟩; rintro _ _ ⟨ks3, rm3, rfl, rfl, hks3, hkm⟩ <;> (conv => whnf)) | (refine bI ?_ ?_ <;> intro <;> (conv => whnf) <;> (try (exfalso; omega))) | fail)
         refine Or.inl ?_; (conv => whnf)
         exact ⟨rfl, _, rfl, ks3, rm3, rfl, hks3⟩
       . rw [bndO_gt (by omega)]
         (try (conv => whnf)); repeat' (first | (refine Ok.region_pan (id := 19) tok 3 ?_; conv => whnf) | refine Ok.seq ?_ | refine OkL.cons ?_ | ((first | refine Ok.region tok ?_ | refine Ok.cond ?_ | refine Ok.exit ?_); conv => whnf) | (refine bI ?_ ?_ <;> intro <;> (conv => whnf) <;> (try (exfalso; omega))) | (refine aJ ?_; conv => whnf) | fail)
         refine ⟨_, form_pan n n.toNat l hln hto htk (by omega), ?_⟩
         (conv => whnf)
         refine ⟨rfl, 2, 3, _, _, rfl, rfl, rfl, rfl, rfl, rfl, by decide, rfl, ?_⟩
         (conv => whnf)
         refine Or.inl ?_; (conv => whnf)
         exact ⟨rfl, _, rfl, PSp.nil 0⟩
   . rw [meetO_raw hfp hraw]
     refine OkL.cons ?_
     refine Ok.region_pan tok 7 ?_
     (conv => whnf)
     (try (conv => whnf)); repeat' (first | (refine nI ?_; conv => whnf) | fail)
     refine ⟨_, raw_pan (by rw [hmul]; omega), ?_⟩
     (conv => whnf)
     refine ⟨rfl, 2, 3, _, _, rfl, rfl, rfl, rfl, rfl, rfl, by decide, rfl, ?_⟩
     (conv => whnf)
     refine Or.inl ?_; (conv => whnf)
     exact ⟨rfl, _, rfl, PSp.nil 0⟩
 . rw [meetO_not hfp]
   (try (conv => whnf)); repeat' (first | refine Ok.seq ?_ | refine OkL.cons ?_ | ((first | refine Ok.region tok ?_ | refine Ok.cond ?_ | refine Ok.skip ?_ | refine Ok.ret ?_); conv => whnf) | (refine Or.inl ?_; (conv => whnf); (repeat (refine aI ?_; conv => whnf)); refine ⟨_, hfit, rfl, ?_⟩; conv => whnf) | (refine bI ?_ ?_ <;> intro <;> (conv => whnf) <;> (try (exfalso; omega))) | fail)
   . refine Or.inl ?_; (conv => whnf)
     exact ⟨rfl, _, rfl, PSp.nil 0⟩
   . rename_i h
     exact absurd hfp h
end Go.Proofs.YtagmibogginaaaaGreatDoor
namespace Go.Proofs.YtagmibogginaaaaGreatDoor
open Go Go.Vx
theorem opt_some {o : Option Term} (h : o.isSome = true) : o = some (o.getD ⟨[], []⟩) := by
 cases o with
 | none => cases h
 | some t => rfl
theorem opt_none {o : Option Term} (h : ¬ o.isSome = true) : o = none := by
 cases o with
 | none => rfl
 | some t => exact absurd rfl h
theorem newTerm1_at (p : Str) (lss : List LR) {rl room : List (List D)} (hp : CN p) (hok : ∀ x ∈ lss, ∀ m ∈ x.l, CT m) (hn : (allL lss).length <= 100000) (h1 : lss.length <= 100000) (h : rl = lss.map lrow) :
    FSpec Tryz.prog T 162 [.agg (crow p), .lst 128 rl room] (fun d rows => ∃ rm, d = .tup [.agg (trow ⟨(termT p (allL lss)).getD ⟨[], []⟩, rm⟩), .b ((termT p (allL lss)).isSome = true)] /\ rows = []) := by
 refine FSpec.mono (newTerm_at p lss hp hok hn h1 h) ?_
 rintro d rows ⟨rfl, ⟨ht, rfl⟩ | ⟨t, rm, ht, rfl⟩⟩
 . refine ⟨[], ?_, rfl⟩
   rw [ht]
   simp
 . refine ⟨rm, ?_, rfl⟩
   rw [ht]
   simp
theorem rterm1_at (p : Str) (less : List Str) {rl rm : List (List D)} (hp : p ≠ []) (hpl : p.length <= 256) (hl : less.length <= 100000) (hok : ∀ m ∈ less, m.length <= 256) (h : rl = less.map srow) :
    FSpec Tryz.prog T 59 [.s p, .lst 9 rl rm] (fun d rows => ∃ rm, d = .tup [.agg (drow ⟨(termT p less).getD ⟨[], []⟩, rm⟩), .b ((termT p less).isSome = true)] /\ rows = []) := by
 refine FSpec.mono (rterm_at p less hp hpl hl hok h) ?_
 rintro d rows ⟨rfl, ⟨ht, rfl⟩ | ⟨t, rm, ht, rfl⟩⟩
 . refine ⟨[], ?_, rfl⟩
   rw [ht]
   simp
 . refine ⟨rm, ?_, rfl⟩
   rw [ht]
   simp
noncomputable def wout1 (a u : Term) : Option Term := termT a.p (a.less ++ [u.p])
noncomputable def wout2 (a : Term) (m : Str) : Option Term := (meetT a.p m).bind fun p => termT p a.less
noncomputable def wouts (ts : List Term) (u : Term) : List Term := ts.flatMap fun a => (wout1 a u).toList ++ u.less.filterMap (wout2 a)
noncomputable def withoutO (n : Int) (ts : List Term) (u : Term) : Int × Int × List Term := if ts.length * (1 + u.less.length) <= 2048 then bndO n (formT (wouts ts u)) else (3, 0, [])
theorem wout1_good {n : Nat} {a u t : Term} (ha : GoodT n a) (hu : GoodT n u) (h : wout1 a u = some t) : GoodT n t :=
 (termT_good ha.p ha.len (fun m hm => (List.mem_append.1 hm).elim (fun h => (ha.less m h).1) (fun h => by simp at h; rw [h]; exact hu.p.1)) h).1
theorem wout2_good {n : Nat} {a t : Term} {m : Str} (ha : GoodT n a) (hm : CN m) (h : wout2 a m = some t) : GoodT n t := by
 unfold wout2 at h
 obtain ⟨p, hp, ht⟩ := Option.bind_eq_some_iff.1 h
 have hc := meetT_ct hp ha.p.1 hm.1
 exact (termT_good ⟨hc.1, fun e => hc.2.2 (List.eq_nil_of_length_eq_zero (by rw [<- hc.2.1, e]; rfl))⟩ (by rw [hc.2.1, ha.len]) (fun x hx => (ha.less x hx).1) ht).1
theorem wouts_good {n : Nat} {ts : List Term} {u : Term} (h1 : ∀ t ∈ ts, GoodT n t) (h2 : GoodT n u) : ∀ t ∈ wouts ts u, GoodT n t := by
 intro t ht
 obtain ⟨a, ha, h⟩ := List.mem_flatMap.1 ht
 rcases List.mem_append.1 h with h | h
 . exact wout1_good (h1 a ha) h2 (Option.mem_toList.1 h)
 . obtain ⟨m, hm, h⟩ := List.mem_filterMap.1 h
   exact wout2_good (h1 a ha) (h2.less m hm) h
theorem wouts_less {ts : List Term} {u : Term} {k : Nat} (h1 : ∀ t ∈ ts, t.less.length <= k) : ∀ t ∈ wouts ts u, t.less.length <= k + 1 := by
 intro t ht
 obtain ⟨a, ha, h⟩ := List.mem_flatMap.1 ht
 rcases List.mem_append.1 h with h | h
 . have := termT_sz (Option.mem_toList.1 h)
   have := h1 a ha
   rw [List.length_append] at *
   simp at *
   omega
 . obtain ⟨m, hm, h⟩ := List.mem_filterMap.1 h
   unfold wout2 at h
   obtain ⟨p, hp, ht⟩ := Option.bind_eq_some_iff.1 h
   have := termT_sz ht
   have := h1 a ha
   omega
theorem wouts_snoc {ts : List Term} {u : Term} {i : Nat} {a : Term} (h : ts[i]? = some a) : wouts (ts.take (i + 1)) u = wouts (ts.take i) u ++ ((wout1 a u).toList ++ u.less.filterMap (wout2 a)) := by
 unfold wouts
 rw [take_snoc h, List.flatMap_append]
 simp
theorem withoutO_ok {n : Int} {ts : List Term} {u : Term} (h : ts.length * (1 + u.less.length) <= 2048) : withoutO n ts u = bndO n (formT (wouts ts u)) := if_pos h
theorem withoutO_raw {n : Int} {ts : List Term} {u : Term} (h : ¬ ts.length * (1 + u.less.length) <= 2048) : withoutO n ts u = (3, 0, []) := if_neg h
set_option maxRecDepth 100000 in
set_option maxHeartbeats 8000000 in
theorem rwithout_at {n : Int} {ts : List Term} (hf : Fine n ts) (u : TR) (hu : GoodT n.toNat u.t) (hul : u.t.less.length <= 127) (ks : List TR) (rm : List (List D)) (h1 : ks.map TR.t = ts) :
    FSpec Tryz.prog T 56 [.agg [.i .i64 n, .lst 109 (ks.map drow) rm], .agg (drow u)] (DOut (withoutO n ts u.t)) := by
 have hl1 : ks.length = ts.length := by rw [<- h1, List.length_map]
 have hm1 : (ks.map drow).length = ts.length := by simp [hl1]
 have hm2 : (u.t.less.map srow).length = u.t.less.length := by simp
 have hk1 := hf.len
 have hmul : ((List.map drow ks).length : Int) * (1 + ((List.map srow u.t.less).length : Int)) = ((ts.length * (1 + u.t.less.length) : Nat) : Int) := by rw [hm1, hm2]; simp
 have hmb : ts.length * (1 + u.t.less.length) <= 128 * 128 := Nat.mul_le_mul hk1 (by omega)
 refine FSpec.of_ok tok Tryz.func56 rfl Tryz.call56 (by simp) ?_
 by_cases hraw : ts.length * (1 + u.t.less.length) <= 2048
 . rw [withoutO_ok hraw]
   (try (conv => whnf)); repeat' (first | refine Ok.seq ?_ | ((first | refine Ok.region tok ?_ | refine Ok.cond ?_); conv => whnf) | refine Ok.block ?_ | ((first | refine Ok.skip ?_ | refine nI ?_); conv => whnf) | (refine bI ?_ ?_ <;> intro <;> (conv => whnf) <;> (try (exfalso; omega))) | fail)
   refine Ok.ghost 6 109 rfl ?_
   (conv => whnf)
   refine Ok.loopU [2, 3, 4] [6, 7] 1 3 (fun (x : Nat × List TR) => [.own 0 x.2.length, .i .i64 (x.1 : Nat)]) (fun _ b => b) (fun (x : Nat × List TR) (_ : Vx.Rows) => [some (109, x.2.map drow)]) (fun (x : Nat × List TR) => x.1 <= ts.length /\ x.2.map TR.t = wouts (ts.take x.1) u.t /\ x.2.length <= x.1 * 128) (fun (x : Nat × List TR) => ts.length - x.1) ((0, [])) (⟨Nat.zero_le _, by simp [wouts], by simp⟩) ?_; (conv => whnf); refine ⟨by ((conv => whnf); first | rfl | (simp [envCat, List.take_of_length_le, crow, trow, srow, drow]; done) | (simp [envCat, List.take_of_length_le, crow, trow, srow, drow]; rw [IntKind.wrap_i64]; omega)), ?_⟩
   rintro ⟨i, l⟩ ⟨hi, hl, hll⟩
   dsimp only at hi hl hll ⊢
   have hlm : (l.map drow).length = l.length := by simp
   (conv => whnf)
   by_cases hil : i < ts.length
   . obtain ⟨a, ha⟩ : ∃ a, ks[i]? = some a := ⟨_, List.getElem?_eq_getElem (by omega)⟩
     have haI : ks[((i : Nat) : Int).toNat]? = some a := ha
     have hat := tr_get h1 ha
     have hag := hf.good _ (List.mem_of_getElem? hat)
     have hal := hf.less (List.mem_of_getElem? hat)
     have hal2 : (a.t.less.map srow).length = a.t.less.length := by simp
     have hsn := wouts_snoc (u := u.t) hat
     have hbo := both_at a.t.less [u.t.p] (rm1 := a.room) (rm2 := []) (r2 := [[.s u.t.p]]) rfl rfl (by omega) (by simp)
     have hw1 : ∀ m ∈ a.t.less ++ [u.t.p], m.length <= 256 := fun m hm => (List.mem_append.1 hm).elim (fun h => (hag.less m h).1.len) (fun h => by simp at h; rw [h]; exact hu.p.1.len)
     (try (conv => whnf)); repeat' (first | (refine Ok.seqV (c1 := .region 8 _ _) [2, 3, 4, 6, 7, 8] [9, 10] 1 4 1 5 (fun _ : List (List D) => [.bp 4 0, .b ((wout1 a.t u.t).isSome = true)]) (fun rm b => b ++ [drow ⟨(wout1 a.t u.t).getD ⟨[], []⟩, rm⟩]) (fun _ r => r) (fun _ => True) ?_; (conv => whnf); refine And.intro ?_ ?_) | refine Ok.seq ?_ | ((first | refine Ok.region tok ?_ | refine Ok.region_tree (id := 8) tok follows [(5, 6, []), (3, 7, []), (5, 7, [6]), (6, 7, []), (1, 8, []), (3, 8, [7]), (5, 8, [7, 6]), (6, 8, [7]), (7, 8, []), (1, 13, []), (3, 13, []), (5, 13, []), (6, 13, []), (7, 13, []), (8, 13, []), (12, 13, [])] (.q 0 (.q 1 (.q 2 (.q 3 (.q 4 (.q 5 (.alt 6 (.alt 7 (.alt 8 (.q 9 (.q 10 (.q 11 (.l 12 (.l 13 (.q 14 .nil)))))) (.alt 12 (.l 8 (.q 9 (.q 10 (.q 11 (.l 13 (.q 14 .nil)))))) .nil)) (.alt 12 (.l 7 (.l 8 (.q 9 (.q 10 (.q 11 (.l 13 (.q 14 .nil))))))) .nil)) (.alt 12 (.l 6 (.l 7 (.l 8 (.q 9 (.q 10 (.q 11 (.l 13 (.q 14 .nil)))))))) .nil)))))))) (by kernel_rfl) ?_ | refine Ok.cond ?_); conv => whnf) | refine Ok.block ?_ | ((first | refine Ok.skip ?_ | refine ix _ (by assumption) ?_); conv => whnf) | (refine Or.inr (Or.inl ?_); (conv => whnf); (repeat (refine aI ?_; conv => whnf)); refine ⟨_, hbo , ?_⟩; rintro _ _ ⟨rm3, rfl, rfl⟩ <;> (conv => whnf)) | (refine Or.inr (Or.inl ?_); (conv => whnf); (repeat (refine aI ?_; conv => whnf)); refine ⟨_, rterm1_at a.t.p (a.t.less ++ [u.t.p]) hag.p.2 hag.p.1.len (by simp; omega) hw1 rfl , ?_⟩; rintro _ _ ⟨rm4, rfl, rfl⟩ <;> (conv => whnf)) | (refine bI ?_ ?_ <;> intro <;> (conv => whnf) <;> (try (exfalso; omega))) | (exact True.intro) | (refine And.intro ?_ ?_ <;> (conv => whnf)) | fail)
     any_goals
      refine ⟨rm4, trivial, ?_⟩
      (conv => whnf)
      rfl
     rintro rm4 -
     (conv => whnf)
     have hwl : (wout1 a.t u.t).toList.length <= 1 := by cases wout1 a.t u.t <;> simp
     (try (conv => whnf)); repeat' (first | (refine Ok.seqU (c1 := .seq (.region 9 _ _) _) [2, 3, 4, 7, 8, 9] [6] 1 5 (fun x : List TR => [.own 0 x.length]) (fun _ b => b) (fun (x : List TR) (_ : Vx.Rows) => [some (109, x.map drow)]) (fun x => x.map TR.t = wouts (ts.take i) u.t ++ (wout1 a.t u.t).toList /\ x.length <= l.length + 1) ?_; (conv => whnf); refine And.intro ?_ ?_) | refine Ok.seq ?_ | ((first | refine Ok.region tok ?_ | refine Ok.cond ?_ | refine Ok.skip ?_ | refine Alt2.l (aI ?_) | refine ⟨_, .inl ⟨rfl, rfl⟩, ?_⟩ | refine ⟨_, _, rfl, rfl, ?_⟩); conv => whnf) | (refine bI ?_ ?_ <;> intro <;> (conv => whnf) <;> (try (exfalso; omega))) | (refine aJ ?_; conv => whnf) | fail)
     . rename_i h
       refine ⟨l ++ [⟨(wout1 a.t u.t).getD ⟨[], []⟩, rm4⟩], ⟨?_, by simp⟩, ?_⟩
       . rw [List.map_append, hl, opt_some h]
         rfl
       . (conv => whnf)
         simp [envCat]
     . rename_i h
       refine ⟨l, ⟨?_, by omega⟩, ?_⟩
       . rw [hl, opt_none h]
         simp
       . (conv => whnf)
         rfl
     rintro l1 ⟨hl1e, hl1l⟩
     (conv => whnf)
     (try (conv => whnf)); repeat' (first | refine Ok.seq ?_ | (refine Ok.region tok ?_; conv => whnf) | refine Ok.block ?_ | fail)
     refine Ok.loopU [2, 3, 4, 7, 8, 9] [6, 11] 1 5 (fun (x : Nat × List TR × TR) => [.own 0 x.2.1.length, .i .i64 (x.1 : Nat)]) (fun (x : Nat × List TR × TR) (_ : List (List D)) => [[.i .i64 n, .lst 109 (ks.map drow) rm], drow u, [.i .i64 0, .nilS], drow a, drow x.2.2]) (fun (x : Nat × List TR × TR) (_ : Vx.Rows) => [some (109, x.2.1.map drow)]) (fun (x : Nat × List TR × TR) => x.1 <= u.t.less.length /\ x.2.1.map TR.t = wouts (ts.take i) u.t ++ ((wout1 a.t u.t).toList ++ (u.t.less.take x.1).filterMap (wout2 a.t)) /\ x.2.1.length <= l.length + 1 + x.1) (fun (x : Nat × List TR × TR) => u.t.less.length - x.1) ((0, l1, ⟨(wout1 a.t u.t).getD ⟨[], []⟩, rm4⟩)) (⟨Nat.zero_le _, by simpa using hl1e, by simpa using hl1l⟩) ?_; (conv => whnf); refine ⟨by ((conv => whnf); first | rfl | (simp [envCat, List.take_of_length_le, crow, trow, srow, drow]; done) | (simp [envCat, List.take_of_length_le, crow, trow, srow, drow]; rw [IntKind.wrap_i64]; omega)), ?_⟩
     rintro ⟨j, l2, tb⟩ ⟨hj, hl2e, hl2l⟩
     dsimp only at hj hl2e hl2l ⊢
     have hl2m : (l2.map drow).length = l2.length := by simp
     (conv => whnf)
     by_cases hjl : j < u.t.less.length
     . obtain ⟨m, hm⟩ : ∃ m, u.t.less[j]? = some m := ⟨_, List.getElem?_eq_getElem hjl⟩
       have hmI : u.t.less[((j : Nat) : Int).toNat]? = some m := hm
       have hmc := hu.less m (List.mem_of_getElem? hm)
       have hal3 := hag.p.1.len
       (try (conv => whnf)); repeat' (first | (refine Ok.seqU (c1 := .region 14 _ _) [2, 3, 4, 6, 7, 8, 9, 11] [12, 13] 1 5 (fun _ : Unit => [.s ((meetT a.t.p m).getD []), .b ((meetT a.t.p m).isSome = true)]) (fun _ b => b) (fun _ r => r) (fun _ => True) ?_; (conv => whnf); refine And.intro ?_ ?_) | refine Ok.seq ?_ | ((first | refine Ok.region tok ?_ | refine Ok.region_plan (id := 14) tok follows [(1, 7, []), (3, 7, [6, 5]), (6, 7, [])] [.q 0, .q 1, .q 2, .q 3, .q 4, .q 5, .q 6, .l 7, .q 8, .q 9, .q 10, .q 11, .q 12] (by kernel_rfl) ?_ | refine Ok.cond ?_); conv => whnf) | refine Ok.block ?_ | ((first | refine Ok.skip ?_ | refine ix _ (by assumption) ?_); conv => whnf) | (refine Or.inr (Or.inl ?_); (conv => whnf); (repeat (refine aI ?_; conv => whnf)); refine ⟨_, rmeet_at a.t.p m (by omega), ?_⟩; rintro _ _ ⟨rfl, rfl⟩ <;> (conv => whnf)) | (refine bI ?_ ?_ <;> intro <;> (conv => whnf) <;> (try (exfalso; omega))) | fail)
       any_goals
        refine ⟨(), trivial, ?_⟩
        (conv => whnf)
        rfl
       rintro - -
       (conv => whnf)
       cases hmt : meetT a.t.p m with
       | none =>
        have hno : wout2 a.t m = none := by unfold wout2; rw [hmt]; rfl
        (try (conv => whnf)); repeat' (first | refine Ok.seq ?_ | ((first | refine Ok.region tok ?_ | refine Ok.cond ?_ | refine Ok.skip ?_ | refine Ok.exit ?_ | refine nI ?_); conv => whnf) | (refine bI ?_ ?_ <;> intro <;> (conv => whnf) <;> (try (exfalso; omega))) | fail)
        . refine ⟨(j + 1, l2, tb), by dsimp only; omega, ⟨by dsimp only; omega, by dsimp only; rw [fm_none hm hno]; exact hl2e, by dsimp only; omega⟩, ?_⟩
          (conv => whnf)
          rfl
        all_goals (rename_i h; exact absurd (fun q => by cases q) h)
       | some p =>
        have hpc := meetT_ct hmt hag.p.1 hmc.1
        have hpn : p ≠ [] := fun e => hpc.2.2 (List.eq_nil_of_length_eq_zero (by rw [<- hpc.2.1, e]; rfl))
        have hm2 : wout2 a.t m = termT p a.t.less := by unfold wout2; rw [hmt]; rfl
        (try (conv => whnf)); repeat' (first | refine Ok.seq ?_ | ((first | refine Ok.region tok ?_ | refine Ok.cond ?_ | refine Ok.skip ?_ | refine Ok.exit ?_ | refine nI ?_); conv => whnf) | (refine Or.inr (Or.inl ?_); (conv => whnf); (repeat (refine aI ?_; conv => whnf)); refine ⟨_, rterm1_at p a.t.less hpn hpc.1.len (by omega) (fun x hx => (hag.less x hx).1.len) rfl , ?_⟩; rintro _ _ ⟨rm5, rfl, rfl⟩ <;> (conv => whnf)) | ((first | refine Alt2.l (aI ?_) | refine ⟨_, .inl ⟨rfl, rfl⟩, ?_⟩ | refine ⟨_, _, rfl, rfl, ?_⟩); conv => whnf) | (refine bI ?_ ?_ <;> intro <;> (conv => whnf) <;> (try (exfalso; omega))) | (refine aJ ?_; conv => whnf) | fail)
        . rename_i h
          exact absurd rfl h
        . rename_i h
          refine ⟨(j + 1, l2 ++ [⟨(termT p a.t.less).getD ⟨[], []⟩, rm5⟩], ⟨(termT p a.t.less).getD ⟨[], []⟩, rm5⟩), by dsimp only; omega, ⟨by dsimp only; omega, ?_, by simp; omega⟩, ?_⟩
          . dsimp only
            rw [fm_some hm (hm2.trans (opt_some h)), List.map_append, hl2e]
            simp
          . (conv => whnf)
            simp [envCat]
        . rename_i h
          refine ⟨(j + 1, l2, ⟨(termT p a.t.less).getD ⟨[], []⟩, rm5⟩), by dsimp only; omega, ⟨by dsimp only; omega, by dsimp only; rw [fm_none hm (hm2.trans (opt_none h))]; exact hl2e, by dsimp only; omega⟩, ?_⟩
          (conv => whnf)
          rfl
     . have hje : j = u.t.less.length := by omega
       subst hje
       rw [List.take_length] at hl2e
       (try (conv => whnf)); repeat' (first | refine Ok.seq ?_ | ((first | refine Ok.region tok ?_ | refine Ok.cond ?_ | refine Ok.exit ?_ | refine nI ?_); conv => whnf) | (refine bI ?_ ?_ <;> intro <;> (conv => whnf) <;> (try (exfalso; omega))) | fail)
       refine ⟨(i + 1, l2), by dsimp only; omega, ⟨by dsimp only; omega, by dsimp only; rw [hsn]; exact hl2e, by dsimp only; omega⟩, ?_⟩
       (conv => whnf)
       rfl
   . have hie : i = ts.length := by omega
     subst hie
     rw [List.take_length] at hl
     have hgood := wouts_good hf.good hu
     have hlb := wouts_less (u := u.t) (fun t ht => hf.less (t := t) ht)
     have hle : ∀ x ∈ l, x.t.less.length <= 1048576 := fun x hx => Nat.le_trans (hlb _ (mem_of_map hl hx)) (by decide)
     have hrn : ∀ x ∈ l, RN2 x /\ x.t.Ok n.toNat := fun x hx => (hgood _ (mem_of_map hl hx)).rn (hle x hx)
     have htk : List.take l.length (l.map drow) = l.map drow := List.take_of_length_le (by simp)
     have hln : (l.map TR.t).length <= 1048576 := by simp; omega
     rw [<- hl]
     (try (conv => whnf)); repeat' (first | refine Ok.seq ?_ | ((first | refine Ok.region tok ?_ | refine Ok.cond ?_ | refine Ok.exit ?_ | refine Ok.ret ?_); conv => whnf) | (refine Or.inr (Or.inl ?_); (conv => whnf); (repeat (refine aI ?_; conv => whnf)); refine ⟨_, rform_at n n.toNat l (by omega) hrn htk , ?_⟩; rintro _ _ ⟨ks3, rm3, rfl, rfl, hks3, hkm⟩ <;> (conv => whnf)) | (refine Or.inr (Or.inl ?_); (conv => whnf); (repeat (refine aI ?_; conv => whnf)); refine ⟨_, rbound_at n ks3 (form_len hks3 hln) (fun x hx => hle x (hkm x hx)) rfl , ?_⟩; rintro _ _ ⟨rfl, (⟨hb, rfl⟩ | ⟨hb, rfl⟩)⟩ <;> (conv => whnf)) | (refine bI ?_ ?_ <;> intro <;> (conv => whnf) <;> (try (exfalso; omega))) | fail)
     . refine Or.inl ?_; (conv => whnf)
       exact DOut.form hks3 hb
     . refine Or.inl ?_; (conv => whnf)
       exact DOut.many hks3 hb
 . rw [withoutO_raw hraw]
   (try (conv => whnf)); repeat' (first | refine Ok.seq ?_ | ((first | refine Ok.region tok ?_ | refine Ok.cond ?_ | refine Ok.ret ?_ | refine nI ?_); conv => whnf) | (refine bI ?_ ?_ <;> intro <;> (conv => whnf) <;> (try (exfalso; omega))) | fail)
   . refine Or.inl ?_; (conv => whnf)
     exact ⟨rfl, _, rfl, DSp.nil 0⟩
end Go.Proofs.YtagmibogginaaaaGreatDoor
namespace Go.Proofs.YtagmibogginaaaaGreatDoor
open Go Go.Vx
set_option maxRecDepth 100000 in
set_option maxHeartbeats 8000000 in
theorem without_at {n : Int} {ts : List Term} (hf : Fine n ts) (u : TR) (hu : GoodT n.toNat u.t) (hul : u.t.less.length <= 127) (ks : List TR) (rm : List (List D)) (h1 : ks.map TR.t = ts) :
    FSpec Tryz.prog T 215 [.lst 130 (ks.map trow) rm, .agg (trow u)] (fun d rows => ∃ (l : List TR) (rm' : List (List D)), d = .lst 130 (l.map trow) rm' /\ rows = [] /\ l.map TR.t = wouts ts u.t) := by
 have hl1 : ks.length = ts.length := by rw [<- h1, List.length_map]
 have hm1 : (ks.map trow).length = ts.length := by simp [hl1]
 have hm2 : (u.t.less.map crow).length = u.t.less.length := by simp
 have hk1 := hf.len
 refine FSpec.of_ok tok Tryz.func215 rfl Tryz.call215 (by simp) ?_
 (try (conv => whnf)); repeat' (first | refine Ok.seq ?_ | (refine Ok.region tok ?_; conv => whnf) | refine Ok.block ?_ | fail)
 refine Ok.ghost 5 130 rfl ?_
 (conv => whnf)
 refine Ok.loopU [3, 16, 17] [5, 18] 1 1 (fun (x : Nat × List TR) => [.own 0 x.2.length, .i .i64 (x.1 : Nat)]) (fun _ b => b) (fun (x : Nat × List TR) (_ : Vx.Rows) => [some (130, x.2.map trow)]) (fun (x : Nat × List TR) => x.1 <= ts.length /\ x.2.map TR.t = wouts (ts.take x.1) u.t /\ x.2.length <= x.1 * 128) (fun (x : Nat × List TR) => ts.length - x.1) ((0, [])) (⟨Nat.zero_le _, by simp [wouts], by simp⟩) ?_; (conv => whnf); refine ⟨by ((conv => whnf); first | rfl | (simp [envCat, List.take_of_length_le, crow, trow, srow, drow]; done) | (simp [envCat, List.take_of_length_le, crow, trow, srow, drow]; rw [IntKind.wrap_i64]; omega)), ?_⟩
 rintro ⟨i, l⟩ ⟨hi, hl, hll⟩
 dsimp only at hi hl hll ⊢
 have hlm : (l.map trow).length = l.length := by simp
 (conv => whnf)
 by_cases hil : i < ts.length
 . obtain ⟨a, ha⟩ : ∃ a, ks[i]? = some a := ⟨_, List.getElem?_eq_getElem (by omega)⟩
   have haI : ks[((i : Nat) : Int).toNat]? = some a := ha
   have hat := tr_get h1 ha
   have hag := hf.good _ (List.mem_of_getElem? hat)
   have hal := hf.less (List.mem_of_getElem? hat)
   have hal2 : (a.t.less.map crow).length = a.t.less.length := by simp
   have hsn := wouts_snoc (u := u.t) hat
   have hnew : ∀ rl room, rl = List.map lrow [⟨a.t.less, a.room⟩, ⟨[u.t.p], []⟩] -> FSpec Tryz.prog T 162 [.agg (crow a.t.p), .lst 128 rl room] (fun d rows => ∃ rm, d = .tup [.agg (trow ⟨(wout1 a.t u.t).getD ⟨[], []⟩, rm⟩), .b ((wout1 a.t u.t).isSome = true)] /\ rows = []) := fun rl room h => by
    have := newTerm1_at a.t.p [⟨a.t.less, a.room⟩, ⟨[u.t.p], []⟩] (room := room) hag.p (by
     intro x hx m hm
     simp at hx
     rcases hx with rfl | rfl
     . exact (hag.less m hm).1
     . simp at hm; rw [hm]; exact hu.p.1) (by simp [allL]; omega) (by simp) h
    rwa [show allL [⟨a.t.less, a.room⟩, ⟨[u.t.p], []⟩] = a.t.less ++ [u.t.p] by simp [allL]] at this
   have hwl : (wout1 a.t u.t).toList.length <= 1 := by cases wout1 a.t u.t <;> simp
   (try (conv => whnf)); repeat' (first | (refine Ok.seqU (c1 := .seq (.region 5 _ _) _) [3, 7, 16, 17, 18] [5] 1 2 (fun x : List TR => [.own 0 x.length]) (fun _ b => b) (fun (x : List TR) (_ : Vx.Rows) => [some (130, x.map trow)]) (fun x => x.map TR.t = wouts (ts.take i) u.t ++ (wout1 a.t u.t).toList /\ x.length <= l.length + 1) ?_; (conv => whnf); refine And.intro ?_ ?_) | refine Ok.seq ?_ | ((first | refine Ok.region tok ?_ | refine Ok.cond ?_); conv => whnf) | refine Ok.block ?_ | ((first | refine Ok.skip ?_ | refine ix _ (by assumption) ?_); conv => whnf) | (refine Or.inr (Or.inl ?_); (conv => whnf); (repeat (refine aI ?_; conv => whnf)); refine ⟨_, hnew _ _ rfl , ?_⟩; rintro _ _ ⟨rm4, rfl, rfl⟩ <;> (conv => whnf)) | ((first | refine Alt2.l (aI ?_) | refine ⟨_, .inl ⟨rfl, rfl⟩, ?_⟩ | refine ⟨_, _, rfl, rfl, ?_⟩); conv => whnf) | (refine bI ?_ ?_ <;> intro <;> (conv => whnf) <;> (try (exfalso; omega))) | (refine aJ ?_; conv => whnf) | fail)
   . rename_i h
     refine ⟨l ++ [⟨(wout1 a.t u.t).getD ⟨[], []⟩, rm4⟩], ⟨?_, by simp⟩, ?_⟩
     . rw [List.map_append, hl, opt_some h]
       rfl
     . (conv => whnf)
       simp [envCat]
   . rename_i h
     refine ⟨l, ⟨?_, by omega⟩, ?_⟩
     . rw [hl, opt_none h]
       simp
     . (conv => whnf)
       rfl
   rintro l1 ⟨hl1e, hl1l⟩
   (conv => whnf)
   (try (conv => whnf)); repeat' (first | refine Ok.seq ?_ | (refine Ok.region tok ?_; conv => whnf) | refine Ok.block ?_ | fail)
   refine Ok.loopU [3, 7, 16, 17, 18, 40, 41] [5, 42] 1 2 (fun (x : Nat × List TR) => [.own 0 x.2.length, .i .i64 (x.1 : Nat)]) (fun _ b => b) (fun (x : Nat × List TR) (_ : Vx.Rows) => [some (130, x.2.map trow)]) (fun (x : Nat × List TR) => x.1 <= u.t.less.length /\ x.2.map TR.t = wouts (ts.take i) u.t ++ ((wout1 a.t u.t).toList ++ (u.t.less.take x.1).filterMap (wout2 a.t)) /\ x.2.length <= l.length + 1 + x.1) (fun (x : Nat × List TR) => u.t.less.length - x.1) ((0, l1)) (⟨Nat.zero_le _, by simpa using hl1e, by simpa using hl1l⟩) ?_; (conv => whnf); refine ⟨by ((conv => whnf); first | rfl | (simp [envCat, List.take_of_length_le, crow, trow, srow, drow]; done) | (simp [envCat, List.take_of_length_le, crow, trow, srow, drow]; rw [IntKind.wrap_i64]; omega)), ?_⟩
   rintro ⟨j, l2⟩ ⟨hj, hl2e, hl2l⟩
   dsimp only at hj hl2e hl2l ⊢
   have hl2m : (l2.map trow).length = l2.length := by simp
   (conv => whnf)
   by_cases hjl : j < u.t.less.length
   . obtain ⟨m, hm⟩ : ∃ m, u.t.less[j]? = some m := ⟨_, List.getElem?_eq_getElem hjl⟩
     have hmI : u.t.less[((j : Nat) : Int).toNat]? = some m := hm
     have hmc := hu.less m (List.mem_of_getElem? hm)
     have hsp := meet_at a.t.p m hag.p.1 hmc.1
     cases hmt : meetT a.t.p m with
     | none =>
      have hno : wout2 a.t m = none := by unfold wout2; rw [hmt]; rfl
      rw [hmt] at hsp
      (try (conv => whnf)); repeat' (first | refine Ok.seq ?_ | ((first | refine Ok.region tok ?_ | refine Ok.cond ?_); conv => whnf) | refine Ok.block ?_ | ((first | refine Ok.skip ?_ | refine nI ?_ | refine ix _ (by assumption) ?_); conv => whnf) | (refine Or.inr (Or.inl ?_); (conv => whnf); (repeat (refine aI ?_; conv => whnf)); refine ⟨_, hsp, ?_⟩; rintro _ _ ⟨rfl, rfl⟩ <;> (conv => whnf)) | (refine bI ?_ ?_ <;> intro <;> (conv => whnf) <;> (try (exfalso; omega))) | fail)
      . rename_i h
        cases h
      . refine ⟨(j + 1, l2), by dsimp only; omega, ⟨by dsimp only; omega, by dsimp only; rw [fm_none hm hno]; exact hl2e, by dsimp only; omega⟩, ?_⟩
        (conv => whnf)
        rfl
     | some p =>
      have hpc := meetT_ct hmt hag.p.1 hmc.1
      have hpn : p ≠ [] := fun e => hpc.2.2 (List.eq_nil_of_length_eq_zero (by rw [<- hpc.2.1, e]; rfl))
      have hm3 : wout2 a.t m = termT p a.t.less := by unfold wout2; rw [hmt]; rfl
      rw [hmt] at hsp
      have hnew2 : ∀ room, FSpec Tryz.prog T 162 [.agg (crow p), .lst 128 (List.map lrow [⟨a.t.less, a.room⟩]) room] (fun d rows => ∃ rm, d = .tup [.agg (trow ⟨(termT p a.t.less).getD ⟨[], []⟩, rm⟩), .b ((termT p a.t.less).isSome = true)] /\ rows = []) := fun room => by
       have := newTerm1_at p [⟨a.t.less, a.room⟩] (room := room) ⟨hpc.1, hpn⟩ (by
        intro x hx m hm
        simp at hx
        subst hx
        exact (hag.less m hm).1) (by simp [allL]; omega) (by simp) rfl
       rwa [show allL [⟨a.t.less, a.room⟩] = a.t.less by simp [allL]] at this
      (try (conv => whnf)); repeat' (first | refine Ok.seq ?_ | ((first | refine Ok.region tok ?_ | refine Ok.cond ?_); conv => whnf) | refine Ok.block ?_ | ((first | refine Ok.skip ?_ | refine nI ?_ | refine ix _ (by assumption) ?_); conv => whnf) | (refine Or.inr (Or.inl ?_); (conv => whnf); (repeat (refine aI ?_; conv => whnf)); refine ⟨_, hsp, ?_⟩; rintro _ _ ⟨rfl, rfl⟩ <;> (conv => whnf)) | (refine Or.inr (Or.inl ?_); (conv => whnf); (repeat (refine aI ?_; conv => whnf)); refine ⟨_, hnew2 _ , ?_⟩; rintro _ _ ⟨rm5, rfl, rfl⟩ <;> (conv => whnf)) | ((first | refine Alt2.l (aI ?_) | refine ⟨_, .inl ⟨rfl, rfl⟩, ?_⟩ | refine ⟨_, _, rfl, rfl, ?_⟩); conv => whnf) | (refine bI ?_ ?_ <;> intro <;> (conv => whnf) <;> (try (exfalso; omega))) | (refine aJ ?_; conv => whnf) | fail)
      . rename_i h
        refine ⟨(j + 1, l2 ++ [⟨(termT p a.t.less).getD ⟨[], []⟩, rm5⟩]), by dsimp only; omega, ⟨by dsimp only; omega, ?_, by simp; omega⟩, ?_⟩
        . dsimp only
          rw [fm_some hm (hm3.trans (opt_some h)), List.map_append, hl2e]
          simp
        . (conv => whnf)
          simp [envCat]
      . rename_i h
        refine ⟨(j + 1, l2), by dsimp only; omega, ⟨by dsimp only; omega, by dsimp only; rw [fm_none hm (hm3.trans (opt_none h))]; exact hl2e, by dsimp only; omega⟩, ?_⟩
        (conv => whnf)
        rfl
      . rename_i h
        exact absurd rfl h
   . have hje : j = u.t.less.length := by omega
     subst hje
     rw [List.take_length] at hl2e
     (try (conv => whnf)); repeat' (first | refine Ok.seq ?_ | ((first | refine Ok.region tok ?_ | refine Ok.cond ?_ | refine Ok.exit ?_ | refine nI ?_); conv => whnf) | (refine bI ?_ ?_ <;> intro <;> (conv => whnf) <;> (try (exfalso; omega))) | fail)
     refine ⟨(i + 1, l2), by dsimp only; omega, ⟨by dsimp only; omega, by dsimp only; rw [hsn]; exact hl2e, by dsimp only; omega⟩, ?_⟩
     (conv => whnf)
     rfl
 . have hie : i = ts.length := by omega
   subst hie
   rw [List.take_length] at hl
   (try (conv => whnf)); repeat' (first | refine Ok.seq ?_ | ((first | refine Ok.region tok ?_ | refine Ok.cond ?_ | refine Ok.exit ?_ | refine Ok.ret ?_); conv => whnf) | (refine bI ?_ ?_ <;> intro <;> (conv => whnf) <;> (try (exfalso; omega))) | fail)
   refine Or.inl ?_; (conv => whnf)
   refine ⟨l, [], ?_, rfl, hl⟩
   rw [List.take_of_length_le (by simp), List.drop_of_length_le (by simp)]
   rfl
end Go.Proofs.YtagmibogginaaaaGreatDoor
namespace Go.Proofs.YtagmibogginaaaaGreatDoor
open Go Go.Vx
noncomputable def minusL (n : Int) : List Term -> List Term -> Int × Int × List Term
 | ts, [] => (0, n, ts)
 | ts, u :: us => if (withoutO n ts u).1 = 0 then minusL n (withoutO n ts u).2.2 us else ((withoutO n ts u).1, 0, [])
theorem withoutO_cases (n : Int) (ts : List Term) (u : Term) : withoutO n ts u = (3, 0, []) \/ (withoutO n ts u = (0, n, formT (wouts ts u)) /\ szT (formT (wouts ts u)) <= 128 /\ ts.length * (1 + u.less.length) <= 2048) := by
 by_cases h : ts.length * (1 + u.less.length) <= 2048
 . rw [withoutO_ok h]
   by_cases h2 : szT (formT (wouts ts u)) <= 128
   . rw [bndO_le h2]; exact .inr ⟨rfl, h2, h⟩
   . rw [bndO_gt (by omega)]; exact .inl rfl
 . rw [withoutO_raw h]; exact .inl rfl
theorem minusL_stop {n : Int} {ts us : List Term} {u : Term} (h : withoutO n ts u = (3, 0, [])) : minusL n ts (u :: us) = (3, 0, []) := by
 unfold minusL
 rw [h, if_neg (by decide)]
theorem minusL_go {n : Int} {ts us l : List Term} {u : Term} (h : withoutO n ts u = (0, n, l)) : minusL n ts (u :: us) = minusL n l us := by
 conv => lhs; unfold minusL
 rw [h, if_pos rfl]
theorem minusL_fine {n : Int} : ∀ {us ts : List Term}, Fine n ts -> (∀ u ∈ us, GoodT n.toNat u) -> Fine (minusL n ts us).2.1 (minusL n ts us).2.2
 | [], ts, hf, _ => hf
 | u :: us, ts, hf, hg => by
  rcases withoutO_cases n ts u with h | ⟨h, hs, _⟩
  . rw [minusL_stop h]; exact .nil (by decide) (by decide)
  . rw [minusL_go h]
    exact minusL_fine (.form hf.n0 hf.n1 (wouts_good hf.good (hg u (by simp))) hs) fun x hx => hg x (by simp [hx])
open Classical in
noncomputable def minusO (n m : Int) (ts us : List Term) : Int × Int × List Term := if fitP n m then minusL n ts us else (11, 0, [])
theorem minusO_fit {n m : Int} {ts us : List Term} (h : fitP n m) : minusO n m ts us = minusL n ts us := if_pos h
theorem minusO_not {n m : Int} {ts us : List Term} (h : ¬ fitP n m) : minusO n m ts us = (11, 0, []) := if_neg h
theorem minusO_fine {n m : Int} {ts us : List Term} (hf : Fine n ts) (hg : Fine m us) : Fine (minusO n m ts us).2.1 (minusO n m ts us).2.2 := by
 by_cases h : fitP n m
 . rw [minusO_fit h]
   obtain ⟨rfl, _⟩ := h
   exact minusL_fine hf hg.good
 . rw [minusO_not h]; exact .nil (by decide) (by decide)
theorem wouts_len (ts : List Term) (u : Term) : (wouts ts u).length <= ts.length * (1 + u.less.length) := by
 induction ts with
 | nil => simp [wouts]
 | cons a ts ih =>
  unfold wouts at *
  rw [List.flatMap_cons, List.length_append, List.length_append, List.length_cons, Nat.add_mul]
  have h1 : (wout1 a u).toList.length <= 1 := by cases wout1 a u <;> simp
  have h2 := List.length_filterMap_le (wout2 a) u.less
  omega
theorem drop_get {α : Type} {l : List α} {i : Nat} {x : α} (h : l[i]? = some x) : l.drop i = x :: l.drop (i + 1) := by
 obtain ⟨hl, e⟩ := List.getElem?_eq_some_iff.1 h
 rw [List.drop_eq_getElem_cons hl, e]
set_option maxRecDepth 100000 in
set_option maxHeartbeats 8000000 in
theorem rminus_at {n m : Int} {ts us : List Term} (hf : Fine n ts) (hg : Fine m us) (ks ks2 : List TR) (rm rm2 : List (List D)) (h1 : ks.map TR.t = ts) (h2 : ks2.map TR.t = us) :
    FSpec Tryz.prog T 29 [.agg [.i .i64 n, .lst 109 (ks.map drow) rm], .agg [.i .i64 m, .lst 109 (ks2.map drow) rm2]] (DOut (minusO n m ts us)) := by
 have hfit := rfit_at n m (.lst 109 (ks.map drow) rm) (.lst 109 (ks2.map drow) rm2) ⟨_, _, _, rfl⟩ ⟨_, _, _, rfl⟩
 have hl2 : ks2.length = us.length := by rw [<- h2, List.length_map]
 have hm2 : (ks2.map drow).length = us.length := by simp [hl2]
 have hk2 := hg.len
 refine FSpec.of_ok tok Tryz.func29 rfl Tryz.call29 (by simp) ?_
 by_cases hfp : fitP n m
 . have hnm := hfp.1
   subst hnm
   rw [minusO_fit hfp]
   (try (conv => whnf)); repeat' (first | refine Ok.seq ?_ | ((first | refine Ok.region tok ?_ | refine Ok.cond ?_); conv => whnf) | refine Ok.block ?_ | ((first | refine Ok.skip ?_ | refine Ok.ret ?_); conv => whnf) | (refine Or.inl ?_; (conv => whnf); (repeat (refine aI ?_; conv => whnf)); refine ⟨_, hfit, rfl, ?_⟩; conv => whnf) | (refine bI ?_ ?_ <;> intro <;> (conv => whnf) <;> (try (exfalso; omega))) | fail)
   . exact absurd hfp (by assumption)
   refine Ok.loopU [3, 4, 6] [8] 0 4 (fun (x : Nat × List TR × List (List D)) => [.i .i64 (x.1 : Nat)]) (fun (x : Nat × List TR × List (List D)) (_ : List (List D)) => [[.i .i64 n, .lst 109 (ks.map drow) rm], [.i .i64 n, .lst 109 (ks2.map drow) rm2], [.i .i64 0, .nilS], [.i .i64 n, .lst 109 (x.2.1.map drow) x.2.2]]) (fun _ r => r) (fun (x : Nat × List TR × List (List D)) => x.1 <= us.length /\ Fine n (x.2.1.map TR.t) /\ minusL n ts us = minusL n (x.2.1.map TR.t) (us.drop x.1)) (fun (x : Nat × List TR × List (List D)) => us.length - x.1) ((0, ks, rm)) (⟨Nat.zero_le _, by rw [h1]; exact hf, by rw [h1]; rfl⟩) ?_; (conv => whnf); refine ⟨by ((conv => whnf); first | rfl | (simp [envCat, List.take_of_length_le, crow, trow, srow, drow]; done) | (simp [envCat, List.take_of_length_le, crow, trow, srow, drow]; rw [IntKind.wrap_i64]; omega)), ?_⟩
   rintro ⟨i, kr, rr⟩ ⟨hi, hfr, hml⟩
   dsimp only at hi hfr hml ⊢
   (conv => whnf)
   by_cases hil : i < us.length
   . obtain ⟨u, hu⟩ : ∃ u, ks2[i]? = some u := ⟨_, List.getElem?_eq_getElem (by omega)⟩
     have huI : ks2[((i : Nat) : Int).toNat]? = some u := hu
     have hut := tr_get h2 hu
     have hug := hg.good _ (List.mem_of_getElem? hut)
     have hul := hg.less (List.mem_of_getElem? hut)
     have hsp := rwithout_at hfr u hug hul kr rr rfl
     rw [drop_get hut] at hml
     rcases withoutO_cases n (kr.map TR.t) u.t with h | ⟨h, hs, _⟩
     . rw [h] at hsp
       rw [minusL_stop h] at hml
       rw [hml]
       (try (conv => whnf)); repeat' (first | refine Ok.seq ?_ | ((first | refine Ok.region tok ?_ | refine Ok.region_plan (id := 8) tok follows [(0, 6, []), (2, 6, [5, 4]), (5, 6, []), (0, 10, []), (2, 10, []), (5, 10, []), (6, 10, [])] [.q 0, .q 1, .q 2, .q 3, .q 4, .q 5, .l 6, .q 7, .q 8, .q 9, .l 10, .q 11] (by kernel_rfl) ?_ | refine Ok.cond ?_); conv => whnf) | refine Ok.block ?_ | ((first | refine Ok.skip ?_ | refine Ok.ret ?_ | refine ix _ (by assumption) ?_); conv => whnf) | (refine Or.inr (Or.inl ?_); (conv => whnf); (repeat (refine aI ?_; conv => whnf)); refine ⟨_, hsp , ?_⟩; rintro _ _ ⟨rfl, _, rfl, ks3, rm3, rfl, h3⟩ <;> (conv => whnf)) | (refine bI ?_ ?_ <;> intro <;> (conv => whnf) <;> (try (exfalso; omega))) | fail)
       all_goals first
        | exact absurd rfl (by assumption)
        | (refine Or.inl ?_; (conv => whnf)
           exact ⟨rfl, _, rfl, DSp.nil 0⟩)
     . rw [h] at hsp
       rw [minusL_go h] at hml
       (try (conv => whnf)); repeat' (first | refine Ok.seq ?_ | ((first | refine Ok.region tok ?_ | refine Ok.region_plan (id := 8) tok follows [(0, 6, []), (2, 6, [5, 4]), (5, 6, []), (0, 10, []), (2, 10, []), (5, 10, []), (6, 10, [])] [.q 0, .q 1, .q 2, .q 3, .q 4, .q 5, .l 6, .q 7, .q 8, .q 9, .l 10, .q 11] (by kernel_rfl) ?_ | refine Ok.cond ?_); conv => whnf) | refine Ok.block ?_ | ((first | refine Ok.skip ?_ | refine nI ?_ | refine ix _ (by assumption) ?_); conv => whnf) | (refine Or.inr (Or.inl ?_); (conv => whnf); (repeat (refine aI ?_; conv => whnf)); refine ⟨_, hsp , ?_⟩; rintro _ _ ⟨rfl, _, rfl, ks3, rm3, rfl, h3⟩ <;> (conv => whnf)) | (refine bI ?_ ?_ <;> intro <;> (conv => whnf) <;> (try (exfalso; omega))) | fail)
       all_goals first
        | exact absurd rfl (by assumption)
        | (rename_i h; exact absurd rfl h)
        | (refine ⟨(i + 1, ks3, rm3), by dsimp only; omega, ⟨by dsimp only; omega, by dsimp only at h3 ⊢; rw [h3]; exact .form hfr.n0 hfr.n1 (wouts_good hfr.good hug) hs, by dsimp only at h3 ⊢; rw [h3]; exact hml⟩, ?_⟩
           (conv => whnf)
           rfl)
   . have hie : i = us.length := by omega
     subst hie
     rw [List.drop_length] at hml
     rw [hml]
     (try (conv => whnf)); repeat' (first | refine Ok.seq ?_ | ((first | refine Ok.region tok ?_ | refine Ok.cond ?_ | refine Ok.exit ?_ | refine Ok.ret ?_); conv => whnf) | (refine bI ?_ ?_ <;> intro <;> (conv => whnf) <;> (try (exfalso; omega))) | fail)
     refine Or.inl ?_; (conv => whnf)
     exact ⟨rfl, _, rfl, kr, rr, rfl, rfl⟩
 . rw [minusO_not hfp]
   (try (conv => whnf)); repeat' (first | refine Ok.seq ?_ | ((first | refine Ok.region tok ?_ | refine Ok.cond ?_); conv => whnf) | refine Ok.block ?_ | ((first | refine Ok.skip ?_ | refine Ok.ret ?_); conv => whnf) | (refine Or.inl ?_; (conv => whnf); (repeat (refine aI ?_; conv => whnf)); refine ⟨_, hfit, rfl, ?_⟩; conv => whnf) | (refine bI ?_ ?_ <;> intro <;> (conv => whnf) <;> (try (exfalso; omega))) | fail)
   . refine Or.inl ?_; (conv => whnf)
     exact ⟨rfl, _, rfl, DSp.nil 0⟩
   . rename_i h
     exact absurd hfp h
set_option maxRecDepth 100000 in
set_option maxHeartbeats 8000000 in
theorem minus_at {n m : Int} {ts us : List Term} (hf : Fine n ts) (hg : Fine m us) (ks ks2 : List TR) (rm rm2 : List (List D)) (h1 : ks.map TR.t = ts) (h2 : ks2.map TR.t = us) :
    FSpec Tryz.prog T 210 [.agg [.i .i64 n, .lst 130 (ks.map trow) rm], .agg [.i .i64 m, .lst 130 (ks2.map trow) rm2]] (POut (minusO n m ts us)) := by
 have hfit := fits2_at n m
 have hl2 : ks2.length = us.length := by rw [<- h2, List.length_map]
 have hm2 : (ks2.map trow).length = us.length := by simp [hl2]
 have hk2 := hg.len
 refine FSpec.of_deferK 3 tok Tryz.func210 rfl Tryz.call210 (by simp) def_minus (zd1 := [.i .i64 0, .nilS]) (zd2 := [.i .i64 3]) rfl rfl (by simp [Value.oneCell']) (by simp [Value.oneCell']) rfl ?_
 by_cases hfp : fitP n m
 . have hnm := hfp.1
   subst hnm
   rw [minusO_fit hfp]
   (try (conv => whnf)); repeat' (first | refine Ok.seq ?_ | refine OkL.cons ?_ | ((first | refine Ok.region tok ?_ | refine Ok.cond ?_ | refine Ok.skip ?_ | refine Ok.ret ?_); conv => whnf) | (refine Or.inl ?_; (conv => whnf); (repeat (refine aI ?_; conv => whnf)); refine ⟨_, hfit, rfl, ?_⟩; conv => whnf) | (refine bI ?_ ?_ <;> intro <;> (conv => whnf) <;> (try (exfalso; omega))) | fail)
   . exact absurd hfp (by assumption)
   refine OkL.nil ?_
   (conv => whnf)
   refine ⟨2, 3, rfl, rfl, by decide, by decide, by decide, rfl, ?_⟩
   (try (conv => whnf)); repeat' (first | refine OkL.cons ?_ | (refine Ok.region tok ?_; conv => whnf) | refine Ok.block ?_ | fail)
   refine Ok.loopU [2, 4, 5, 17, 18, 41, 42] [19] 0 4 (fun (x : Nat × List TR × List (List D)) => [.i .i64 (x.1 : Nat)]) (fun (x : Nat × List TR × List (List D)) (_ : List (List D)) => [[.i .i64 n, .lst 130 (x.2.1.map trow) x.2.2], [.i .i64 n, .lst 130 (ks2.map trow) rm2], [.i .i64 0, .nilS], [.i .i64 0]]) (fun _ r => r) (fun (x : Nat × List TR × List (List D)) => x.1 <= us.length /\ Fine n (x.2.1.map TR.t) /\ minusL n ts us = minusL n (x.2.1.map TR.t) (us.drop x.1)) (fun (x : Nat × List TR × List (List D)) => us.length - x.1) ((0, ks, rm)) (⟨Nat.zero_le _, by rw [h1]; exact hf, by rw [h1]; rfl⟩) ?_; (conv => whnf); refine ⟨by ((conv => whnf); first | rfl | (simp [envCat, List.take_of_length_le, crow, trow, srow, drow]; done) | (simp [envCat, List.take_of_length_le, crow, trow, srow, drow]; rw [IntKind.wrap_i64]; omega)), ?_⟩
   rintro ⟨i, kr, rr⟩ ⟨hi, hfr, hml⟩
   dsimp only at hi hfr hml ⊢
   have hkr : (kr.map trow).length = (kr.map TR.t).length := by simp
   have hkl := hfr.len
   (conv => whnf)
   by_cases hil : i < us.length
   . obtain ⟨u, hu⟩ : ∃ u, ks2[i]? = some u := ⟨_, List.getElem?_eq_getElem (by omega)⟩
     have huI : ks2[((i : Nat) : Int).toNat]? = some u := hu
     have hut := tr_get h2 hu
     have hug := hg.good _ (List.mem_of_getElem? hut)
     have hul := hg.less (List.mem_of_getElem? hut)
     have hul2 : (u.t.less.map crow).length = u.t.less.length := by simp
     have hmul : ((kr.map trow).length : Int) * (1 + ((u.t.less.map crow).length : Int)) = (((kr.map TR.t).length * (1 + u.t.less.length) : Nat) : Int) := by rw [hkr, hul2]; simp
     have hmb : (kr.map TR.t).length * (1 + u.t.less.length) <= 128 * 128 := Nat.mul_le_mul hkl (by omega)
     have hsp := without_at hfr u hug hul kr rr rfl
     have hwg := wouts_good hfr.good hug
     have hwl := wouts_less (u := u.t) (fun t ht => hfr.less (t := t) ht)
     have hto : ∀ l : List TR, l.map TR.t = wouts (kr.map TR.t) u.t -> ∀ x ∈ l, TO n.toNat x := fun l e x hx => (hwg _ (mem_of_map e hx)).to (Nat.le_trans (hwl _ (mem_of_map e hx)) (by decide))
     have hln : ∀ l : List TR, l.map TR.t = wouts (kr.map TR.t) u.t -> l.length <= 1048576 := fun l e => by
      have h1 := wouts_len (kr.map TR.t) u.t
      rw [<- e] at h1
      rw [List.length_map] at h1
      omega
     rw [drop_get hut] at hml
     by_cases hraw : (kr.map TR.t).length * (1 + u.t.less.length) <= 2048
     . by_cases hsz : szT (formT (wouts (kr.map TR.t) u.t)) <= 128
       . have hw : withoutO n (kr.map TR.t) u.t = (0, n, formT (wouts (kr.map TR.t) u.t)) := by rw [withoutO_ok hraw, bndO_le hsz]
         rw [minusL_go hw] at hml
         (try (conv => whnf)); repeat' (first | refine Ok.seq ?_ | ((first | refine Ok.region tok ?_ | refine Ok.region_plan (id := 8) tok follows [(3, 5, []), (4, 5, []), (1, 6, []), (3, 6, [5]), (4, 6, [5]), (5, 6, []), (1, 7, []), (3, 7, []), (4, 7, []), (5, 7, []), (6, 7, [])] [.q 0, .q 1, .q 2, .q 3, .q 4, .l 5, .l 6, .l 7] (by kernel_rfl) ?_ | refine Ok.cond ?_); conv => whnf) | refine Ok.block ?_ | ((first | refine Ok.skip ?_ | refine nI ?_ | refine ix _ (by assumption) ?_); conv => whnf) | (refine Or.inl ?_; (conv => whnf); (repeat (refine aI ?_; conv => whnf)); refine ⟨_, raw_at (n := ((kr.map trow).length : Int) * (1 + ((u.t.less.map crow).length : Int))) (by rw [hmul]; omega), rfl, ?_⟩; conv => whnf) | (refine Or.inr (Or.inl ?_); (conv => whnf); (repeat (refine aI ?_; conv => whnf)); refine ⟨_, hsp , ?_⟩; rintro _ _ ⟨l, rm3, rfl, rfl, hl⟩ <;> (conv => whnf)) | (refine Or.inr (Or.inl ?_); (conv => whnf); (repeat (refine aI ?_; conv => whnf)); refine ⟨_, form_at n n.toNat l (hln l hl) (hto l hl) rfl (by rw [hl]; exact hsz) , ?_⟩; rintro _ _ ⟨ks3, rm4, rfl, rfl, hks3, hkm⟩ <;> (conv => whnf)) | (refine bI ?_ ?_ <;> intro <;> (conv => whnf) <;> (try (exfalso; omega))) | fail)
         refine ⟨(i + 1, ks3, rm4), by dsimp only; omega, ⟨by dsimp only; omega, by dsimp only; rw [hks3, hl]; exact .form hfr.n0 hfr.n1 hwg hsz, by dsimp only; rw [hks3, hl]; exact hml⟩, ?_⟩
         (conv => whnf)
         rfl
       . have hw : withoutO n (kr.map TR.t) u.t = (3, 0, []) := by rw [withoutO_ok hraw, bndO_gt (by omega)]
         rw [minusL_stop hw] at hml
         rw [hml]
         (try (conv => whnf)); repeat' (first | refine Ok.seq ?_ | ((first | refine Ok.region tok ?_ | refine Ok.cond ?_); conv => whnf) | refine Ok.block ?_ | ((first | refine Ok.skip ?_ | refine nI ?_ | refine ix _ (by assumption) ?_); conv => whnf) | (refine Or.inl ?_; (conv => whnf); (repeat (refine aI ?_; conv => whnf)); refine ⟨_, raw_at (n := ((kr.map trow).length : Int) * (1 + ((u.t.less.map crow).length : Int))) (by rw [hmul]; omega), rfl, ?_⟩; conv => whnf) | (refine bI ?_ ?_ <;> intro <;> (conv => whnf) <;> (try (exfalso; omega))) | fail)
         refine Ok.region_planpanS tok follows [(3, 5, []), (4, 5, [])] [.q 0, .q 1, .q 2, .q 3, .q 4, .l 5] 6 (by kernel_rfl) ?_; (conv => whnf)
         (try (conv => whnf)); repeat' (first | (refine Or.inr (Or.inl ?_); (conv => whnf); (repeat (refine aI ?_; conv => whnf)); refine ⟨_, hsp , ?_⟩; rintro _ _ ⟨l, rm3, rfl, rfl, hl⟩ <;> (conv => whnf)) | fail)
         refine ⟨_, form_pan n n.toNat l (hln l hl) (hto l hl) rfl (by rw [hl]; omega), ?_⟩
         (conv => whnf)
         refine ⟨rfl, 2, 3, _, _, rfl, rfl, rfl, rfl, rfl, rfl, by decide, rfl, ?_⟩
         (conv => whnf)
         refine Or.inl ?_; (conv => whnf)
         exact ⟨rfl, _, rfl, PSp.nil 0⟩
     . have hw : withoutO n (kr.map TR.t) u.t = (3, 0, []) := withoutO_raw hraw
       rw [minusL_stop hw] at hml
       rw [hml]
       (try (conv => whnf)); repeat' (first | (refine Ok.region_pan (id := 7) tok 8 ?_; conv => whnf) | refine Ok.seq ?_ | ((first | refine Ok.region tok ?_ | refine Ok.cond ?_); conv => whnf) | refine Ok.block ?_ | ((first | refine Ok.skip ?_ | refine nI ?_ | refine ix _ (by assumption) ?_); conv => whnf) | (refine bI ?_ ?_ <;> intro <;> (conv => whnf) <;> (try (exfalso; omega))) | fail)
       refine ⟨_, raw_pan (by rw [hmul]; omega), ?_⟩
       (conv => whnf)
       refine ⟨rfl, 2, 3, _, _, rfl, rfl, rfl, rfl, rfl, rfl, by decide, rfl, ?_⟩
       (conv => whnf)
       refine Or.inl ?_; (conv => whnf)
       exact ⟨rfl, _, rfl, PSp.nil 0⟩
   . have hie : i = us.length := by omega
     subst hie
     rw [List.drop_length] at hml
     rw [hml]
     (try (conv => whnf)); repeat' (first | refine Ok.seq ?_ | refine OkL.cons ?_ | ((first | refine Ok.region tok ?_ | refine Ok.cond ?_ | refine Ok.exit ?_ | refine Ok.ret ?_); conv => whnf) | (refine bI ?_ ?_ <;> intro <;> (conv => whnf) <;> (try (exfalso; omega))) | fail)
     refine Or.inl ?_; (conv => whnf)
     exact ⟨rfl, _, rfl, kr, rr, rfl, rfl⟩
 . rw [minusO_not hfp]
   (try (conv => whnf)); repeat' (first | refine Ok.seq ?_ | refine OkL.cons ?_ | ((first | refine Ok.region tok ?_ | refine Ok.cond ?_ | refine Ok.skip ?_ | refine Ok.ret ?_); conv => whnf) | (refine Or.inl ?_; (conv => whnf); (repeat (refine aI ?_; conv => whnf)); refine ⟨_, hfit, rfl, ?_⟩; conv => whnf) | (refine bI ?_ ?_ <;> intro <;> (conv => whnf) <;> (try (exfalso; omega))) | fail)
   . refine Or.inl ?_; (conv => whnf)
     exact ⟨rfl, _, rfl, PSp.nil 0⟩
   . rename_i h
     exact absurd hfp h
end Go.Proofs.YtagmibogginaaaaGreatDoor
namespace Go.Proofs.YtagmibogginaaaaGreatDoor
open Go Go.Vx
section
variable {α : Type} {R L : α → α → Prop} {r b : α → α → Bool}
def addB (r : α -> α -> Bool) (k : List α) (x : α) : List α := if k.any (r x) = true then k else k.filter (fun y => !r y x) ++ [x]
def grB (r : α -> α -> Bool) (l : List α) : List α := l.foldl (addB r) []
def insB (b : α -> α -> Bool) (c : α) : List α -> List α
 | [] => [c]
 | x :: q => if b c x = true then c :: x :: q else x :: insB b c q
def srtB (b : α -> α -> Bool) (l : List α) : List α := l.foldl (fun acc x => insB b x acc) []
theorem filt_eq (h : ∀ x y, R x y ↔ r x y = true) (k : List α) (x : α) [∀ y, Decidable (¬ R y x)] : k.filter (fun y => decide (¬ R y x)) = k.filter (fun y => !r y x) := by
 refine List.filter_congr fun y _ => ?_
 cases hr : r y x with
 | true => simp [(h y x).2 hr]
 | false =>
  have hn : ¬ R y x := fun e => by rw [(h y x).1 e] at hr; cases hr
  simp [hn]
theorem any_eq (h : ∀ x y, R x y ↔ r x y = true) (k : List α) (x : α) : (∃ y ∈ k, R x y) ↔ k.any (r x) = true := by simp [h]
theorem addG_eq (h : ∀ x y, R x y ↔ r x y = true) (k : List α) (x : α) : addG R k x = addB r k x := by
 unfold addG addB
 by_cases hk : k.any (r x) = true
 . rw [if_pos ((any_eq h k x).2 hk), if_pos hk]
 . rw [if_neg (fun e => hk ((any_eq h k x).1 e)), if_neg hk, filt_eq h]
theorem grG_eq (h : ∀ x y, R x y ↔ r x y = true) (l : List α) : grG R l = grB r l := by
 have e : addG R = addB r := by funext k x; exact addG_eq h k x
 unfold grG grB
 rw [e]
theorem insG_eq (h : ∀ x y, L x y ↔ b x y = true) (c : α) : ∀ l : List α, insG L c l = insB b c l
 | [] => rfl
 | x :: q => by
  unfold insG insB
  by_cases hk : b c x = true
  . rw [if_pos ((h c x).2 hk), if_pos hk]
  . rw [if_neg (fun e => hk ((h c x).1 e)), if_neg hk, insG_eq h c q]
theorem srt_eq (h : ∀ x y, L x y ↔ b x y = true) (l : List α) : srt L l = srtB b l := by
 unfold srt srtB
 congr 1
 funext acc x
 exact insG_eq h x acc
end
def inB : Str -> Str -> Bool
 | [], [] => true
 | a :: c, b :: d => (b == 120 || b == a) && inB c d
 | _, _ => false
theorem inL_b : ∀ c d : Str, inL c d ↔ inB c d = true
 | [], [] => by simp [inL, inB]
 | [], _ :: _ => by simp [inL, inB]
 | _ :: _, [] => by simp [inL, inB]
 | a :: c, b :: d => by simp [inL, inB, inL_b c d]
def inTB (c d : Str) : Bool := !c.isEmpty && inB c d
theorem inT_b (c d : Str) : inT c d ↔ inTB c d = true := by
 unfold inT inTB
 rw [inL_b]
 cases c <;> simp
def covB (t u : Term) : Bool := inTB t.p u.p && u.less.all fun m => match meetT m t.p with | none => true | some c => t.less.any fun n => inTB c n
theorem covT_b (t u : Term) : covT t u ↔ covB t u = true := by
 unfold covT covB
 rw [inT_b, Bool.and_eq_true, List.all_eq_true]
 refine and_congr_right fun _ => forall_congr' fun m => forall_congr' fun _ => ?_
 cases meetT m t.p with
 | none => simp
 | some c => simp [inT_b]
def lexB : List Str -> List Str -> Bool
 | _, [] => false
 | [], _ :: _ => true
 | x :: a, y :: b => Op.bytesLess x y || (x == y && lexB a b)
theorem lexL_b : ∀ a b : List Str, lexL a b ↔ lexB a b = true
 | a, [] => by cases a <;> simp [lexL, lexB]
 | [], _ :: _ => by simp [lexL, lexB]
 | x :: a, y :: b => by simp [lexL, lexB, lexL_b a b]
def formB (l : List Term) : List Term := srtB (fun t u => lexB (t.p :: t.less) (u.p :: u.less)) (grB covB l)
theorem formT_b (l : List Term) : formT l = formB l := by
 unfold formT formB
 rw [grG_eq covT_b]
 exact srt_eq (L := aheadT) (b := fun t u => lexB (t.p :: t.less) (u.p :: u.less)) (fun t u => lexL_b _ _) _
instance (n : Int) (w : Str) : Decidable (OkW n w) := decidable_of_iff ((w.length : Int) = n /\ (w.length <= 256 /\ ∀ b ∈ w, b = 48 \/ b = 49 \/ b = 120) /\ w ≠ []) ⟨fun h => ⟨h.1, ⟨h.2.1.1, h.2.1.2⟩, h.2.2⟩, fun h => ⟨h.1, ⟨h.2.1.1, h.2.1.2⟩, h.2.2⟩⟩
instance (n : Int) (ms : List (List Str)) : Decidable (OkP n ms) := inferInstanceAs (Decidable (∀ m ∈ ms, ∀ w ∈ m, OkW n w))
end Go.Proofs.YtagmibogginaaaaGreatDoor
namespace Go.Proofs.YtagmibogginaaaaGreatDoor
open Go Go.Vx Go.RowKit
theorem idle_of (p q : Addr) (w : World) : CallsD Tryz.prog 160 #[.pointer (some p), .pointer (some q)] .returning w fun e u' w' => e = .returned (.tuple #[]) /\ u' = .returning /\ Ext w w' := by
 refine callsD_of_wpS Tryz.func160 rfl fun c₀ cs hu => ?_
 apply wpS_seq
 apply wpS_region
 simp [wpOpsS, go_sem, recoverD, hu, Tryz.ntmps160, Exit.thenS]
 refine (ours_nil w).mono ?_
 rintro e w' ⟨rfl, rfl⟩
 refine wpS_cond (t := false) (by simp [Act.eval, Act.put, Array.replicate]) ?_
 simp only [Bool.false_eq_true, if_false]
 refine wpS_of_wp (wp_skip ?_)
 cases c₀
 simp_all [bodyPostS, results, Tryz.results160]
 exact Ext.refl _
theorem caught_of (p q : Addr) (w : World) {R : Ending -> FrameMode -> World -> Prop} (h : ∀ w1, Ext w w1 -> ∃ w2, (storeCells p [.int .i64 0, .slice none 0 0]).run Tryz.prog w1 = .ok () w2 /\ ∃ w3, (storeCells q [.int .i64 3]).run Tryz.prog w2 = .ok () w3)
    (hR : ∀ w1 w2 w3, Ext w w1 -> (storeCells p [.int .i64 0, .slice none 0 0]).run Tryz.prog w1 = .ok () w2 -> (storeCells q [.int .i64 3]).run Tryz.prog w2 = .ok () w3 -> R (.returned (.tuple #[])) (.panicking [{ v := .iface 231 (.agg #[]), recovered := true }]) w3) :
    CallsD Tryz.prog 160 #[.pointer (some p), .pointer (some q)] (.panicking [{ v := .iface 231 (.agg #[]), recovered := false }]) w R := by
 refine callsD_of_wpS Tryz.func160 rfl fun c₀ cs hu => ?_
 apply wpS_seq
 apply wpS_region
 simp [wpOpsS, go_sem, recoverD, hu, Tryz.ntmps160, Exit.thenS]
 refine (ours_passed w).mono ?_
 rintro e w1 ⟨rfl, hx⟩
 obtain ⟨w2, h1, w3, h2⟩ := h w1 hx
 have hr := hR w1 w2 w3 hx h1 h2
 refine wpS_cond (t := true) (by simp [Act.eval, Act.put, Array.replicate]) ?_
 simp only [if_true]
 refine wpS_of_wp ?_
 refine wp_region_lit ?_
 unfold wpList
 rw [if_pos (by simp [Region.wanted])]
 left
 unfold Oper.wp
 rw [run_build2]
 show wpList _ _ _ [_, _] (Act.put _ (some 4) _) w1
 unfold wpList
 rw [if_pos (by simp [Region.wanted])]
 left
 unfold Oper.wp
 rw [run_store2 (p := p) (z := [.int .i64 0, .slice none 0 0]) (fun w => by kernel_rfl) (by simp [Act.eval, Act.put, Array.replicate]) (by simp [Act.eval, Act.put, Array.replicate, Value.cells]) h1]
 show wpList _ _ _ [_] _ w2
 unfold wpList
 rw [if_pos (by simp [Region.wanted])]
 left
 unfold Oper.wp
 rw [run_store2 (p := q) (z := [.int .i64 3]) (fun w => by kernel_rfl) (by simp [Act.eval, Act.put, Array.replicate]) (by simp [Act.eval, Value.cells]) h2]
 show bodyPostS _ _ _ _ _ .normal _ _ w3
 cases c₀
 simp_all [bodyPostS, results, Tryz.results160]
 try exact rfl
theorem def_of : DefSpec Tryz.prog 160 (.iface 231 (.agg #[])) [.int .i64 0, .slice none 0 0] [.int .i64 3] :=
 ⟨Tryz.call160, idle_of, fun p q w h => caught_of p q w h fun _ _ _ hx h1 h2 => ⟨rfl, rfl, _, _, hx, h1, h2⟩⟩
def allC (n : Int) : Str := if n < 1 \/ 256 < n then [] else List.replicate n.toNat 120
theorem rep_bits (n : Nat) (i : Nat) : car (List.replicate n 120) i = false /\ one (List.replicate n 120) i = false := by
 by_cases h : i < n
 . have e : (List.replicate n (120 : UInt8))[i]? = some 120 := by simp [List.getElem?_replicate, h]
   rw [(at_b e).1, (at_b e).2]
   exact ⟨rfl, rfl⟩
 . exact at_out (by simp; omega)
theorem wof_none {f : Nat -> Bool} (h : ∀ i, f i = false) (k : Nat) : wof f k = 0#64 := BitVec.eq_of_getLsbD_eq fun i hi => by rw [wof_get _ _ _ hi, h]; simp
theorem crow_rep (n : Nat) : crow (List.replicate n 120) = [.i .i64 n, .i .u64 0, .i .u64 0, .i .u64 0, .i .u64 0, .i .u64 0, .i .u64 0, .i .u64 0, .i .u64 0] := by
 have h1 := wof_none (fun i => (rep_bits n i).1)
 have h2 := wof_none (fun i => (rep_bits n i).2)
 simp only [crow, cells9, h1, h2, List.length_replicate]
 rfl
theorem all_at (n : Int) : FSpec Tryz.prog T 115 [.i .i64 n] (fun d rows => d = .agg (crow (allC n)) /\ rows = []) := by
 refine FSpec.of_ok tok Tryz.func115 rfl Tryz.call115 (by simp) ?_
 (try (conv => whnf)); repeat' (first | refine Ok.seq ?_ | ((first | refine Ok.region tok ?_ | refine Ok.cond ?_ | refine Ok.skip ?_ | refine Ok.ret ?_); conv => whnf) | (refine bI ?_ ?_ <;> intro <;> (conv => whnf) <;> (try (exfalso; omega))) | fail)
 all_goals
  refine Or.inl ?_; (conv => whnf)
  refine ⟨?_, rfl⟩
  unfold allC
  first
   | (rw [if_pos (by omega), crow_nil]; rfl)
   | (rw [if_neg (by omega), crow_rep, Int.toNat_of_nonneg (by omega)]; rfl)
open Classical in
noncomputable def ofO (c : Str) (less : List Str) : Int × Int × List Term :=
 if 2048 < less.length then (2, 0, []) else if (∃ m ∈ less, m.length ≠ c.length) \/ c = [] then (11, 0, []) else match termT c less with
  | none => (0, (c.length : Int), [])
  | some t => bndO c.length (formT [t])
theorem ofO_long {c : Str} {less : List Str} (h : 2048 < less.length) : ofO c less = (2, 0, []) := by unfold ofO; rw [if_pos h]
theorem ofO_wide {c : Str} {less : List Str} (h : ¬ 2048 < less.length) (h2 : (∃ m ∈ less, m.length ≠ c.length) \/ c = []) : ofO c less = (11, 0, []) := by unfold ofO; rw [if_neg h, if_pos h2]
theorem ofO_none {c : Str} {less : List Str} (h : ¬ 2048 < less.length) (h2 : ¬ ((∃ m ∈ less, m.length ≠ c.length) \/ c = [])) (h3 : termT c less = none) : ofO c less = (0, (c.length : Int), []) := by unfold ofO; rw [if_neg h, if_neg h2, h3]
theorem ofO_some {c : Str} {less : List Str} {t : Term} (h : ¬ 2048 < less.length) (h2 : ¬ ((∃ m ∈ less, m.length ≠ c.length) \/ c = [])) (h3 : termT c less = some t) : ofO c less = bndO c.length (formT [t]) := by unfold ofO; rw [if_neg h, if_neg h2, h3]
theorem ofO_fine {c : Str} {less : List Str} (hc : CT c) (hl : ∀ m ∈ less, CT m) : Fine (ofO c less).2.1 (ofO c less).2.2 := by
 by_cases h : 2048 < less.length
 . rw [ofO_long h]; exact Fine.nil (n := 0) (by decide) (by decide)
 by_cases h2 : (∃ m ∈ less, m.length ≠ c.length) \/ c = []
 . rw [ofO_wide h h2]; exact Fine.nil (n := 0) (by decide) (by decide)
 have hcn : CN c := ⟨hc, fun e => h2 (.inr e)⟩
 have := hc.len
 cases ht : termT c less with
 | none => rw [ofO_none h h2 ht]; exact Fine.nil (n := (c.length : Int)) (by omega) (by omega)
 | some t =>
  rw [ofO_some h h2 ht]
  exact bndO_fine (n := (c.length : Int)) (by omega) (by omega) (fun x hx => by
   simp at hx
   subst hx
   exact (termT_good hcn (by simp) hl ht).1)
set_option maxRecDepth 100000 in
set_option maxHeartbeats 8000000 in
theorem of_at (c : Str) (less : List Str) (room : List (List D)) (hc : CT c) (hl : ∀ m ∈ less, CT m) :
    FSpec Tryz.prog T 159 [.agg (crow c), .lst 127 (less.map crow) room] (POut (ofO c less)) := by
 have htx := text_at c hc
 have hlm : (less.map crow).length = less.length := by simp
 have hcl := hc.len
 refine FSpec.of_deferK 8 tok Tryz.func159 rfl Tryz.call159 (by simp) def_of (zd1 := [.i .i64 0, .nilS]) (zd2 := [.i .i64 3]) rfl rfl (by simp [Value.oneCell']) (by simp [Value.oneCell']) rfl ?_
 by_cases hlong : 2048 < less.length
 . rw [ofO_long hlong]
   (try (conv => whnf)); repeat' (first | refine Ok.seq ?_ | refine OkL.cons ?_ | ((first | refine Ok.region tok ?_ | refine Ok.cond ?_ | refine Ok.ret ?_); conv => whnf) | (refine bI ?_ ?_ <;> intro <;> (conv => whnf) <;> (try (exfalso; omega))) | fail)
   all_goals first
    | (exfalso; omega)
    | (refine Or.inl ?_; (conv => whnf)
       exact ⟨rfl, _, rfl, PSp.nil 0⟩)
 (try (conv => whnf)); repeat' (first | refine OkL.cons ?_ | ((first | refine Ok.region tok ?_ | refine Ok.cond ?_); conv => whnf) | refine Ok.block ?_ | (refine Ok.skip ?_; conv => whnf) | (refine Or.inl ?_; (conv => whnf); (repeat (refine aI ?_; conv => whnf)); refine ⟨_, htx, rfl, ?_⟩; conv => whnf) | (refine bI ?_ ?_ <;> intro <;> (conv => whnf) <;> (try (exfalso; omega))) | fail)
 all_goals first
  | (exfalso; omega)
  | skip
 refine Ok.loopU [1, 2, 4, 5, 6, 18, 19] [20] 0 3 (fun (i : Nat) => [.i .i64 (i : Nat)]) (fun (i : Nat) (_ : List (List D)) => [crow c, [.i .i64 0, .nilS], [.i .i64 0]]) (fun _ r => r) (fun (i : Nat) => i <= less.length /\ ∀ m ∈ less.take i, m.length = c.length) (fun (i : Nat) => less.length - i) (0) (⟨Nat.zero_le _, by simp⟩) ?_; (conv => whnf); refine ⟨by ((conv => whnf); first | rfl | (simp [envCat, List.take_of_length_le, crow, trow, srow, drow]; done) | (simp [envCat, List.take_of_length_le, crow, trow, srow, drow]; rw [IntKind.wrap_i64]; omega)), ?_⟩
 rintro i ⟨hi, hw⟩
 (conv => whnf)
 by_cases hil : i < less.length
 . obtain ⟨m, hm⟩ : ∃ m, less[i]? = some m := ⟨_, List.getElem?_eq_getElem hil⟩
   have hmI : less[((i : Nat) : Int).toNat]? = some m := hm
   have hmc := hl m (List.mem_of_getElem? hm)
   have hmx := text_at m hmc
   by_cases hml : m.length = c.length
   . (try (conv => whnf)); repeat' (first | refine Ok.seq ?_ | ((first | refine Ok.region tok ?_ | refine Ok.cond ?_); conv => whnf) | refine Ok.block ?_ | ((first | refine Ok.skip ?_ | refine nI ?_ | refine ix _ (by assumption) ?_); conv => whnf) | (refine Or.inl ?_; (conv => whnf); (repeat (refine aI ?_; conv => whnf)); refine ⟨_, hmx, rfl, ?_⟩; conv => whnf) | (refine bI ?_ ?_ <;> intro <;> (conv => whnf) <;> (try (exfalso; omega))) | fail)
     all_goals first
      | (exfalso; omega)
      | (refine ⟨i + 1, by omega, ⟨by omega, fun x hx => by
          rw [take_snoc hm] at hx
          rcases List.mem_append.1 hx with hx | hx
          . exact hw x hx
          . simp at hx; rw [hx]; exact hml⟩, ?_⟩
         (conv => whnf)
         rfl)
   . rw [ofO_wide hlong (.inl ⟨m, List.mem_of_getElem? hm, hml⟩)]
     (try (conv => whnf)); repeat' (first | refine Ok.seq ?_ | ((first | refine Ok.region tok ?_ | refine Ok.cond ?_); conv => whnf) | refine Ok.block ?_ | ((first | refine Ok.skip ?_ | refine Ok.ret ?_ | refine ix _ (by assumption) ?_); conv => whnf) | (refine Or.inl ?_; (conv => whnf); (repeat (refine aI ?_; conv => whnf)); refine ⟨_, hmx, rfl, ?_⟩; conv => whnf) | (refine bI ?_ ?_ <;> intro <;> (conv => whnf) <;> (try (exfalso; omega))) | fail)
     all_goals first
      | (exfalso; omega)
      | (refine Or.inl ?_; (conv => whnf)
         exact ⟨rfl, _, rfl, PSp.nil 0⟩)
 have hie : i = less.length := by omega
 subst hie
 rw [List.take_length] at hw
 by_cases hc0 : c = []
 . rw [ofO_wide hlong (.inr hc0)]
   have hc00 : c.length = 0 := by rw [hc0]; rfl
   (try (conv => whnf)); repeat' (first | refine Ok.seq ?_ | refine OkL.cons ?_ | ((first | refine Ok.region tok ?_ | refine Ok.cond ?_ | refine Ok.exit ?_ | refine Ok.ret ?_); conv => whnf) | (refine bI ?_ ?_ <;> intro <;> (conv => whnf) <;> (try (exfalso; omega))) | fail)
   all_goals first
    | (exfalso; omega)
    | (refine Or.inl ?_; (conv => whnf)
       exact ⟨rfl, _, rfl, PSp.nil 0⟩)
 have hpos : 0 < c.length := List.length_pos_iff.2 hc0
 have h2 : ¬ ((∃ m ∈ less, m.length ≠ c.length) \/ c = []) := fun h => h.elim (fun ⟨m, hm, hne⟩ => hne (hw m hm)) hc0
 have hcn : CN c := ⟨hc, hc0⟩
 have hnew : ∀ rl room, rl = List.map lrow [⟨less, room⟩] -> ∀ room2, FSpec Tryz.prog T 162 [.agg (crow c), .lst 128 rl room2] (NewT c less) := fun rl room h room2 => by
  have := newTerm_at c [⟨less, room⟩] (room := room2) hcn (by
   intro x hx m hm
   simp at hx
   subst hx
   exact hl m hm) (by simp [allL]; omega) (by simp) h
  rwa [show allL [⟨less, room⟩] = less by simp [allL]] at this
 (try (conv => whnf)); repeat' (first | refine Ok.seq ?_ | refine OkL.cons ?_ | ((first | refine Ok.region tok ?_ | refine Ok.cond ?_ | refine Ok.skip ?_ | refine Ok.exit ?_); conv => whnf) | (refine bI ?_ ?_ <;> intro <;> (conv => whnf) <;> (try (exfalso; omega))) | fail)
 all_goals first
  | (exfalso; omega)
  | skip
 refine OkL.nil ?_
 (conv => whnf)
 refine ⟨1, 2, rfl, rfl, by decide, by decide, by decide, rfl, ?_⟩
 have hnb : noneB (c.length : Int) = c.length := by unfold noneB; rw [if_neg (by omega)]
 cases ht0 : termT c less with
 | none =>
  rw [ofO_none hlong h2 ht0]
  (try (conv => whnf)); repeat' (first | refine Ok.seq ?_ | refine OkL.cons ?_ | ((first | refine Ok.region tok ?_ | refine Ok.cond ?_ | refine Ok.skip ?_ | refine Ok.ret ?_); conv => whnf) | (refine Or.inr (Or.inl ?_); (conv => whnf); (repeat (refine aI ?_; conv => whnf)); refine ⟨_, hnew _ room (by simp [lrow, List.take_of_length_le, List.drop_of_length_le]) _ , ?_⟩; rintro _ _ ⟨rfl, (⟨ht, rfl⟩ | ⟨t, rm4, ht, rfl⟩)⟩ <;> (conv => whnf)) | (refine Or.inr (Or.inl ?_); (conv => whnf); (repeat (refine aI ?_; conv => whnf)); refine ⟨_, none_at (c.length : Int), ?_⟩; rintro _ _ ⟨rfl, rfl⟩ <;> (conv => whnf)) | (refine bI ?_ ?_ <;> intro <;> (conv => whnf) <;> (try (exfalso; omega))) | fail)
  all_goals first
   | (rename_i h; exact absurd trivial h)
   | (rename_i h; cases h; done)
   | (exfalso; rw [ht0] at ht; cases ht; done)
   | (refine Or.inl ?_; (conv => whnf)
      rw [hnb]
      exact ⟨rfl, _, rfl, PSp.nil _⟩)
 | some t0 =>
  rw [ofO_some hlong h2 ht0]
  obtain ⟨hg0, _⟩ := termT_good (n := c.length) hcn rfl hl ht0
  have hle0 : t0.less.length <= 1048576 := by have := termT_sz ht0; omega
  by_cases hsz : szT (formT [t0]) <= 128
  . rw [bndO_le hsz]
    have hform : ∀ t rm4, termT c less = some t -> FSpec Tryz.prog T 163 [.i .i64 (c.length : Int), .lst 130 [trow ⟨t, rm4⟩] []] (fun d rows => ∃ (ks : List TR) (rm : List (List D)), d = .agg [.i .i64 (c.length : Int), .lst 130 (ks.map trow) rm] /\ rows = [] /\ ks.map TR.t = formT [t0]) := fun t rm4 ht => by
     rw [ht0] at ht
     cases ht
     refine FSpec.mono (form_at (room := []) (c.length : Int) c.length [⟨t0, rm4⟩] (by simp) (by
      intro x hx
      simp at hx
      subst hx
      exact hg0.to hle0) rfl (by simpa using hsz)) ?_
     rintro d rows ⟨ks, rm, h1, h2, h3, _⟩
     exact ⟨ks, rm, h1, h2, by simpa using h3⟩
    (try (conv => whnf)); repeat' (first | refine Ok.seq ?_ | refine OkL.cons ?_ | ((first | refine Ok.region tok ?_ | refine Ok.cond ?_ | refine Ok.skip ?_ | refine Ok.ret ?_); conv => whnf) | (refine Or.inr (Or.inl ?_); (conv => whnf); (repeat (refine aI ?_; conv => whnf)); refine ⟨_, hnew _ room (by simp [lrow, List.take_of_length_le, List.drop_of_length_le]) _ , ?_⟩; rintro _ _ ⟨rfl, (⟨ht, rfl⟩ | ⟨t, rm4, ht, rfl⟩)⟩ <;> (conv => whnf)) | (refine Or.inr (Or.inl ?_); (conv => whnf); (repeat (refine aI ?_; conv => whnf)); refine ⟨_, hform t rm4 ht , ?_⟩; rintro _ _ ⟨ks3, rm3, rfl, rfl, hks3⟩ <;> (conv => whnf)) | (refine bI ?_ ?_ <;> intro <;> (conv => whnf) <;> (try (exfalso; omega))) | fail)
    all_goals first
     | (rename_i h; exact absurd trivial h)
     | (rename_i h; cases h; done)
     | (exfalso; rw [ht0] at ht; cases ht; done)
     | (refine Or.inl ?_; (conv => whnf)
        exact ⟨rfl, _, rfl, ks3, rm3, rfl, hks3⟩)
  . rw [bndO_gt (by omega)]
    (try (conv => whnf)); repeat' (first | (refine Ok.region_pan (id := 15) tok 3 ?_; conv => whnf) | refine Ok.seq ?_ | refine OkL.cons ?_ | ((first | refine Ok.region tok ?_ | refine Ok.cond ?_ | refine Ok.skip ?_); conv => whnf) | (refine Or.inr (Or.inl ?_); (conv => whnf); (repeat (refine aI ?_; conv => whnf)); refine ⟨_, hnew _ room (by simp [lrow, List.take_of_length_le, List.drop_of_length_le]) _ , ?_⟩; rintro _ _ ⟨rfl, (⟨ht, rfl⟩ | ⟨t, rm4, ht, rfl⟩)⟩ <;> (conv => whnf)) | (refine bI ?_ ?_ <;> intro <;> (conv => whnf) <;> (try (exfalso; omega))) | (refine aJ ?_; conv => whnf) | fail)
    all_goals first
     | (rename_i h; exact absurd trivial h)
     | (rename_i h; cases h; done)
     | (exfalso; rw [ht0] at ht; cases ht; done)
     | skip
    rw [ht0] at ht
    cases ht
    refine ⟨_, form_pan (c.length : Int) c.length [⟨t0, rm4⟩] (by simp) (by
     intro x hx
     simp at hx
     subst hx
     exact hg0.to hle0) rfl (by simp; omega), ?_⟩
    (conv => whnf)
    refine ⟨rfl, 1, 2, _, _, rfl, rfl, rfl, rfl, rfl, rfl, by decide, rfl, ?_⟩
    (conv => whnf)
    refine Or.inl ?_; (conv => whnf)
    exact ⟨rfl, _, rfl, PSp.nil 0⟩
end Go.Proofs.YtagmibogginaaaaGreatDoor
namespace Go.Proofs.YtagmibogginaaaaGreatDoor
open Go Go.Vx
def ov1 (a b : UInt8) : UInt8 := if a = 120 then b else a
def curL (c d : Str) (i : Nat) : Str := List.zipWith ov1 (c.take i) (d.take i) ++ c.drop i
def pcT (c d : Str) (j : Nat) : Option Str :=
 match c[j]?, d[j]? with
 | some a, some b => if a = 120 /\ b ≠ 120 then some ((curL c d j).set j (97 - b)) else none
 | _, _ => none
def pcsT (c d : Str) (i : Nat) : List Str := (List.range i).filterMap (pcT c d)
def splitT (c d : Str) : List Str := if (meetT c d).isSome then pcsT c d c.length else [c]
theorem pcsT_some {c d : Str} {i : Nat} {x : Str} (h : pcT c d i = some x) : pcsT c d (i + 1) = pcsT c d i ++ [x] := by
 unfold pcsT; rw [List.range_succ, List.filterMap_append]; simp [h]
theorem pcsT_none {c d : Str} {i : Nat} (h : pcT c d i = none) : pcsT c d (i + 1) = pcsT c d i := by
 unfold pcsT; rw [List.range_succ, List.filterMap_append]; simp [h]
theorem pcT_at {c d : Str} {j : Nat} {a b : UInt8} (ha : c[j]? = some a) (hb : d[j]? = some b) : pcT c d j = if a = 120 /\ b ≠ 120 then some ((curL c d j).set j (97 - b)) else none := by
 unfold pcT; rw [ha, hb]
theorem curL_len {c d : Str} (hl : d.length = c.length) (i : Nat) : (curL c d i).length = c.length := by simp [curL]; omega
theorem curL_at {c d : Str} {i : Nat} {a : UInt8} (ha : c[i]? = some a) (hd : i < d.length) : (curL c d i)[i]? = some a := by
 have hi : i < c.length := (List.getElem?_eq_some_iff.1 ha).1
 have hl : (List.zipWith ov1 (c.take i) (d.take i)).length = i := by simp; omega
 unfold curL
 rw [List.getElem?_append_right (by omega), hl, Nat.sub_self, List.getElem?_drop]
 exact ha
theorem curL_succ {c d : Str} {i : Nat} {a b : UInt8} (ha : c[i]? = some a) (hb : d[i]? = some b) : curL c d (i + 1) = (curL c d i).set i (ov1 a b) := by
 have hi : i < c.length := (List.getElem?_eq_some_iff.1 ha).1
 have hi2 : i < d.length := (List.getElem?_eq_some_iff.1 hb).1
 have hl : (List.zipWith ov1 (c.take i) (d.take i)).length = i := by simp; omega
 unfold curL
 rw [List.set_append, if_neg (by omega), hl, Nat.sub_self, List.drop_eq_getElem_cons hi, List.set_cons_zero, take_snoc ha, take_snoc hb]
 rw [List.zipWith_append (by simp; omega)]
 simp
theorem curL_zero (c d : Str) : curL c d 0 = c := by simp [curL]
theorem set_self {l : Str} {i : Nat} {a : UInt8} (h : l[i]? = some a) : l.set i a = l := by
 have hi := (List.getElem?_eq_some_iff.1 h).1
 apply List.ext_getElem?
 intro k
 by_cases hk : k = i
 . subst hk; rw [List.getElem?_set_self hi, h]
 . rw [List.getElem?_set_ne (Ne.symm hk)]
theorem curL_same {c d : Str} {i : Nat} {a b : UInt8} (ha : c[i]? = some a) (hb : d[i]? = some b) (h : ¬ (a = 120 /\ b ≠ 120)) : curL c d (i + 1) = curL c d i := by
 rw [curL_succ ha hb, show ov1 a b = a by
  unfold ov1
  split
  . rename_i he
    by_cases hb2 : b = 120
    . rw [hb2, he]
    . exact absurd ⟨he, hb2⟩ h
  . rfl]
 exact set_self (curL_at ha (List.getElem?_eq_some_iff.1 hb).1)
theorem ct_set {l : Str} {i : Nat} {b : UInt8} (h : CT l) (hb : b = 48 \/ b = 49 \/ b = 120) : CT (l.set i b) := by
 refine ⟨by rw [List.length_set]; exact h.len, fun x hx => ?_⟩
 rcases List.mem_or_eq_of_mem_set hx with hx | rfl
 . exact h.cub x hx
 . exact hb
theorem ov1_cub {a b : UInt8} (ha : a = 48 \/ a = 49 \/ a = 120) (hb : b = 48 \/ b = 49 \/ b = 120) : ov1 a b = 48 \/ ov1 a b = 49 \/ ov1 a b = 120 := by
 unfold ov1; split
 . exact hb
 . exact ha
theorem curL_ct {c d : Str} (hc : CT c) (hd : CT d) (hl : d.length = c.length) (i : Nat) : CT (curL c d i) := by
 induction i with
 | zero => rw [curL_zero]; exact hc
 | succ i ih =>
  by_cases hi : i < c.length
  . have ha := List.getElem?_eq_getElem hi
    have hb := List.getElem?_eq_getElem (show i < d.length by omega)
    rw [curL_succ ha hb]
    exact ct_set ih (ov1_cub (hc.cub _ (List.mem_of_getElem? ha)) (hd.cub _ (List.mem_of_getElem? hb)))
  . rw [show curL c d (i + 1) = curL c d i by
      unfold curL
      rw [List.take_of_length_le (show c.length <= i + 1 by omega), List.take_of_length_le (show d.length <= i + 1 by omega), List.take_of_length_le (show c.length <= i by omega), List.take_of_length_le (show d.length <= i by omega), List.drop_of_length_le (show c.length <= i + 1 by omega), List.drop_of_length_le (show c.length <= i by omega)]]
    exact ih
theorem opp_cub {b : UInt8} (hb : b = 48 \/ b = 49 \/ b = 120) (h : b ≠ 120) : 97 - b = 48 \/ 97 - b = 49 \/ 97 - b = 120 := by
 rcases hb with rfl | rfl | rfl
 . right; left; rfl
 . left; rfl
 . exact absurd rfl h
theorem pcsT_cn {c d : Str} (hc : CN c) (hd : CT d) (hl : d.length = c.length) (i : Nat) : ∀ x ∈ pcsT c d i, CN x /\ x.length = c.length := by
 intro x hx
 obtain ⟨j, _, hj⟩ := List.mem_filterMap.1 hx
 unfold pcT at hj
 split at hj
 . rename_i a b ha hb
   split at hj
   . rename_i hab
     cases hj
     have h1 := curL_len hl j
     refine ⟨⟨ct_set (curL_ct hc.1 hd hl j) (opp_cub (hd.cub _ (List.mem_of_getElem? hb)) hab.2), fun e => hc.2 ?_⟩, by rw [List.length_set]; exact h1⟩
     have := congrArg List.length e
     rw [List.length_set, h1] at this
     exact List.eq_nil_of_length_eq_zero (by simpa using this)
   . cases hj
 . cases hj
theorem splitT_cn {c d : Str} (hc : CN c) (hd : CT d) : ∀ x ∈ splitT c d, CN x /\ x.length = c.length := by
 intro x hx
 unfold splitT at hx
 split at hx
 . rename_i h
   obtain ⟨m, hm⟩ := Option.isSome_iff_exists.1 h
   rw [meetT_eq hc.2] at hm
   have := meetL_len hm
   exact pcsT_cn hc hd (by omega) _ x hx
 . simp at hx; subst hx; exact ⟨hc, rfl⟩
theorem pcsT_len (c d : Str) (i : Nat) : (pcsT c d i).length <= i := by
 have := List.length_filterMap_le (pcT c d) (List.range i)
 simpa [pcsT] using this
theorem splitT_len {c d : Str} (hc : c.length <= 256) : (splitT c d).length <= 256 := by
 unfold splitT
 split
 . exact Nat.le_trans (pcsT_len _ _ _) hc
 . simp
end Go.Proofs.YtagmibogginaaaaGreatDoor
namespace Go.Proofs.YtagmibogginaaaaGreatDoor
open Go Go.Vx
@[reducible] def w4 (f : Nat -> Bool) : List D := [.i .u64 ((wof f 0).toNat : Int), .i .u64 ((wof f 1).toNat : Int), .i .u64 ((wof f 2).toNat : Int), .i .u64 ((wof f 3).toNat : Int)]
set_option maxHeartbeats 4000000 in
theorem at_one (f : Nat -> Bool) (i : Nat) (hi : i < 256) : FSpec Tryz.prog T 126 [.ep (w4 f), .i .i64 (i : Int)] (fun d rows => d = .b (f i = true) /\ rows = []) := by
 refine FSpec.of_ok tok Tryz.func126 rfl Tryz.call126 (by simp) ?_
 obtain ⟨q, r, hqr, hr, hq⟩ := split64 i (by omega)
 have hrem := rem64 hqr hr
 have hquo := quo64 hqr hr (by omega)
 have hrr : ((r : Nat) : Int) = ((r : Nat) : Int) /\ r < 64 := ⟨rfl, hr⟩
 have hca := at_word (f := f) hqr hr
 rcases hq with rfl | rfl | rfl | rfl
 all_goals
  (try (conv => whnf)); repeat' (first | ((with_reducible_and_instances (first | refine nShr (by assumption) ?_ | refine nAnd1' rfl ?_)); conv => whnf) | refine Ok.seq ?_ | ((first | refine Ok.region tok ?_ | refine ⟨_, (hquo.symm).symm, ?_⟩ | refine ⟨_, (hrem.symm).symm, ?_⟩ | refine Ok.ret ?_ | refine aJ ?_ | refine ⟨_, rfl, ?_⟩); conv => whnf) | fail)
  refine Or.inl ?_; (conv => whnf)
  exact ⟨congrArg D.b (propext hca), rfl⟩
set_option maxHeartbeats 4000000 in
theorem at_two (f g : Nat -> Bool) (i : Nat) (hi : i < 256) : FSpec Tryz.prog T 126 [.ep (w4 f ++ w4 g), .i .i64 (i : Int)] (fun d rows => d = .b (f i = true) /\ rows = []) := by
 refine FSpec.of_ok tok Tryz.func126 rfl Tryz.call126 (by simp) ?_
 obtain ⟨q, r, hqr, hr, hq⟩ := split64 i (by omega)
 have hrem := rem64 hqr hr
 have hquo := quo64 hqr hr (by omega)
 have hrr : ((r : Nat) : Int) = ((r : Nat) : Int) /\ r < 64 := ⟨rfl, hr⟩
 have hca := at_word (f := f) hqr hr
 rcases hq with rfl | rfl | rfl | rfl
 all_goals
  (try (conv => whnf)); repeat' (first | ((with_reducible_and_instances (first | refine nShr (by assumption) ?_ | refine nAnd1' rfl ?_)); conv => whnf) | refine Ok.seq ?_ | ((first | refine Ok.region tok ?_ | refine ⟨_, (hquo.symm).symm, ?_⟩ | refine ⟨_, (hrem.symm).symm, ?_⟩ | refine Ok.ret ?_ | refine aJ ?_ | refine ⟨_, rfl, ?_⟩); conv => whnf) | fail)
  refine Or.inl ?_; (conv => whnf)
  exact ⟨congrArg D.b (propext hca), rfl⟩
theorem ints_crow (c : Str) : ∀ d ∈ crow c, ∃ k n, d = .i k n := by
 intro d hd
 simp only [List.mem_cons, List.not_mem_nil, or_false] at hd
 rcases hd with rfl | rfl | rfl | rfl | rfl | rfl | rfl | rfl | rfl <;> exact ⟨_, _, rfl⟩
theorem pk2 {box : List (List D)} {a b x y : D} (h1 : Pk box a x) (h2 : Pk box b y) : ∀ (j : Nat) d e, [a, b][j]? = some d -> [x, y][j]? = some e -> Pk box d e := by
 intro j d e hd he
 match j, hd, he with
 | 0, hd, he => cases hd; cases he; exact h1
 | 1, hd, he => cases hd; cases he; exact h2
 | j + 2, hd, _ => simp at hd
end Go.Proofs.YtagmibogginaaaaGreatDoor
namespace Go.Proofs.YtagmibogginaaaaGreatDoor
open Go Go.Vx
theorem car_set {l : Str} {i : Nat} {b : UInt8} (h : l[i]? = some 120) (hb : dig b = true) (j : Nat) : car (l.set i b) j = (car l j || decide (j = i)) := by
 have hi := (List.getElem?_eq_some_iff.1 h).1
 by_cases hj : j = i
 . subst hj
   have h2 : (l.set j b)[j]? = some b := List.getElem?_set_self hi
   rw [(at_b h2).1, hb]
   simp
 . have : (l.set i b)[j]? = l[j]? := List.getElem?_set_ne (Ne.symm hj)
   simp only [car, this, hj, decide_false, Bool.or_false]
theorem one_set {l : Str} {i : Nat} (h : l[i]? = some 120) (j : Nat) : one (l.set i 49) j = (one l j || decide (j = i)) := by
 have hi := (List.getElem?_eq_some_iff.1 h).1
 by_cases hj : j = i
 . subst hj
   have h2 : (l.set j 49)[j]? = some 49 := List.getElem?_set_self hi
   rw [(at_b h2).2]
   simp
 . have : (l.set i 49)[j]? = l[j]? := List.getElem?_set_ne (Ne.symm hj)
   simp only [one, this, hj, decide_false, Bool.or_false]
theorem one_set0 {l : Str} {i : Nat} (h : l[i]? = some 120) (j : Nat) : one (l.set i 48) j = one l j := by
 have hi := (List.getElem?_eq_some_iff.1 h).1
 by_cases hj : j = i
 . subst hj
   have h2 : (l.set j 48)[j]? = some 48 := List.getElem?_set_self hi
   rw [(at_b h2).2, (at_b h).2]
   rfl
 . have : (l.set i 48)[j]? = l[j]? := List.getElem?_set_ne (Ne.symm hj)
   simp only [one, this]
set_option maxHeartbeats 8000000 in
theorem split_at (c d : Str) (hc : CN c) (hd : CT d) : FSpec Tryz.prog T 116 [.agg (crow c), .agg (crow d)] (fun r rows => ∃ rm, r = .lst 127 ((splitT c d).map crow) rm /\ rows = []) := by
 have hcl := hc.1.len
 have hm := meet_at c d hc.1 hd
 refine FSpec.of_ok tok Tryz.func116 rfl Tryz.call116 (by simp) ?_
 by_cases hs : (meetT c d).isSome = true
 . have hl : d.length = c.length := by
     obtain ⟨m, hm⟩ := Option.isSome_iff_exists.1 hs
     rw [meetT_eq hc.2] at hm
     have := meetL_len hm
     omega
   (try (conv => whnf)); repeat' (first | refine Ok.seq ?_ | ((first | refine Ok.region tok ?_ | refine Ok.cond ?_); conv => whnf) | refine Ok.block ?_ | ((first | refine Ok.skip ?_ | refine Ok.ret ?_); conv => whnf) | (refine Or.inr (Or.inl ?_); (conv => whnf); (repeat (refine aI ?_; conv => whnf)); refine ⟨_, hm, ?_⟩; rintro _ _ ⟨rfl, rfl⟩ <;> (conv => whnf)) | (refine bI ?_ ?_ <;> intro <;> (conv => whnf) <;> (try (exfalso; omega))) | fail)
   . exact absurd hs (by assumption)
   refine Ok.ghost 7 127 rfl ?_
   (conv => whnf)
   have e0 : crow c = crow (curL c d 0) := by rw [curL_zero]
   have hll : ((List.length c : Nat) : Int) = ((List.length (curL c d 0) : Nat) : Int) := by rw [curL_zero]
   refine Ok.loopU [2, 3, 21] [7, 22] 1 3 (fun (i : Nat) => [.own 0 (pcsT c d i).length, .i .i64 (i : Nat)]) (fun (i : Nat) (_ : List (List D)) => [crow (curL c d i), crow d, crow ((meetT c d).getD [])]) (fun (i : Nat) (_ : Vx.Rows) => [some (127, (pcsT c d i).map crow)]) (fun (i : Nat) => i <= c.length) (fun (i : Nat) => c.length - i) (0) (Nat.zero_le _) ?_; (conv => whnf); refine ⟨by ((conv => whnf); first | rfl | (simp [envCat, List.take_of_length_le, cells9, crow]; done) | (simp [envCat, List.take_of_length_le, cells9, crow]; rw [IntKind.wrap_i64]; omega)), ?_⟩
   rintro i hi
   have hcu := curL_len hl i
   have hct := curL_ct hc.1 hd hl i
   have hpl := pcsT_len c d i
   have hpm : ((pcsT c d i).map crow).length = (pcsT c d i).length := by simp
   (conv => whnf)
   by_cases hil : i < c.length
   . obtain ⟨a, ha⟩ : ∃ a, c[i]? = some a := ⟨_, List.getElem?_eq_getElem hil⟩
     obtain ⟨b, hb⟩ : ∃ b, d[i]? = some b := ⟨_, List.getElem?_eq_getElem (by omega)⟩
     have hz := curL_at ha (show i < d.length by omega)
     have hac := hc.1.cub a (List.mem_of_getElem? ha)
     have hbc := hd.cub b (List.mem_of_getElem? hb)
     have hpc := pcT_at ha hb
     have hsu := curL_succ ha hb
     have hsm := fun h => curL_same ha hb h
     generalize hL : curL c d i = L at *
     generalize hQ : pcsT c d i = Q at *
     have s1 := at_two (car L) (one L) i (by omega)
     have s2 := at_two (car d) (one d) i (by omega)
     have s3 := at_one (one d) i (by omega)
     rw [(at_b hz).1] at s1
     rw [(at_b hb).1] at s2
     rw [(at_b hb).2] at s3
     obtain ⟨q, r, hqr, hr, hq⟩ := split64 i (by omega)
     have hrem := rem64 hqr hr
     have hquo := quo64 hqr hr (by omega)
     have hrr : ((r : Nat) : Int) = ((r : Nat) : Int) /\ r < 64 := ⟨rfl, hr⟩
     by_cases hab : a = 120 /\ b ≠ 120
     . obtain ⟨rfl, hb2⟩ := hab
       rw [if_pos ⟨rfl, hb2⟩] at hpc
       have hsn := pcsT_some hpc
       rw [hQ] at hsn
       rw [show ov1 120 b = b from rfl] at hsu
       rcases hbc with rfl | rfl | rfl
       . rw [show (97 : UInt8) - 48 = 49 from rfl] at hsn
         have k := put_word (f := car L) (g := car (L.set i 48)) hqr hr (car_set hz rfl)
         have k' := put_word (f := car L) (g := car (L.set i 49)) hqr hr (car_set hz rfl)
         have o := fun k => wof_ext (f := one (L.set i 48)) (g := one L) (k := k) fun j _ => one_set0 hz _
         have o' := put_word (f := one L) (g := one (L.set i 49)) hqr hr (one_set hz)
         rcases hq with rfl | rfl | rfl | rfl
         all_goals
          (try (conv => whnf)); repeat' (first | refine Ok.seq ?_ | ((first | refine Ok.region tok ?_ | refine Ok.cond ?_); conv => whnf) | refine Ok.block ?_ | ((first | refine Ok.skip ?_ | refine Ok.exit ?_ | refine nI ?_); conv => whnf) | (refine Or.inr (Or.inr (Or.inr (Or.inr ?_))); (conv => whnf); refine effW.of (effK.peek (by rfl) (pk2 (.bp _ _ ( crow L) rfl (fun d hd => ints_crow _ d (List.mem_of_mem_drop hd))) (.i _ _)) (s1 ) ?_); rintro _ _ ⟨rfl, rfl⟩; (refine And.intro (by simp [gRowsP, grounds, D.ground]) ?_; conv => whnf)) | (refine Or.inr (Or.inr (Or.inr (Or.inr ?_))); (conv => whnf); refine effW.of (effK.peek (by rfl) (pk2 (.bp _ _ ( crow d) rfl (fun d hd => ints_crow _ d (List.mem_of_mem_drop hd))) (.i _ _)) (s2 ) ?_); rintro _ _ ⟨rfl, rfl⟩; (refine And.intro (by simp [gRowsP, grounds, D.ground]) ?_; conv => whnf)) | (refine bI ?_ ?_ <;> intro <;> (conv => whnf) <;> (try (exfalso; omega))) | fail)
          all_goals first
           | contradiction
           | skip
          refine Or.inr (Or.inr (Or.inl ?_)); (conv => whnf); refine ⟨_, _, Tryz.func124, rfl, Tryz.call124, ?_⟩; (conv => whnf)
          (try (conv => whnf)); repeat' (first | ((with_reducible_and_instances (first | refine nShl1' rfl (by assumption) ?_ | refine nOr ?_)); conv => whnf) | refine Ok.seq ?_ | ((first | refine Ok.region tok ?_ | refine Ok.region_plan (id := 0) tok follows [(5, 12, [])] [.q 0, .q 1, .q 2, .q 3, .q 4, .q 5, .q 6, .q 7, .q 8, .q 9, .q 10, .q 11, .l 12] (by kernel_rfl) ?_ | refine ⟨_, (hquo.symm).symm, ?_⟩ | refine ⟨_, (hrem.symm).symm, ?_⟩ | refine Ok.cond ?_); conv => whnf) | (refine Or.inr (Or.inr (Or.inr (Or.inr ?_))); (conv => whnf); refine effW.of (effK.peek (by rfl) (pk2 (.bp _ _ ( crow d) rfl (fun d hd => ints_crow _ d (List.mem_of_mem_drop hd))) (.i _ _)) (s3 ) ?_); rintro _ _ ⟨rfl, rfl⟩; (refine And.intro (by simp [gRowsP, grounds, D.ground]) ?_; conv => whnf)) | (refine bI ?_ ?_ <;> intro <;> (conv => whnf) <;> (try (exfalso; omega))) | ((first | refine aJ ?_ | refine ⟨_, rfl, ?_⟩); conv => whnf) | fail)
          all_goals first
           | contradiction
           | skip
          refine Or.inr (Or.inr (Or.inl ?_)); (conv => whnf); refine ⟨_, _, Tryz.func124, rfl, Tryz.call124, ?_⟩; (conv => whnf)
          (try (conv => whnf)); repeat' (first | ((first | (with_reducible_and_instances (first | refine nShl1' rfl (by assumption) ?_ | refine nOr ?_)) | refine Ok.region tok ?_ | refine Ok.region_plan (id := 0) tok follows [(5, 12, [])] [.q 0, .q 1, .q 2, .q 3, .q 4, .q 5, .q 6, .q 7, .q 8, .q 9, .q 10, .q 11, .l 12] (by kernel_rfl) ?_ | refine ⟨_, (hquo.symm).symm, ?_⟩ | refine ⟨_, (hrem.symm).symm, ?_⟩ | refine nI ?_ | refine Alt2.l (aI ?_) | refine ⟨_, .inl ⟨rfl, rfl⟩, ?_⟩ | refine ⟨_, _, rfl, rfl, ?_⟩ | refine aJ ?_ | refine ⟨_, rfl, ?_⟩); conv => whnf) | fail)
          refine ⟨i + 1, by omega, by omega, ?_⟩
          rw [hsu, hsn]
          have a0 := (k 0).trans (by first | exact if_pos rfl | exact if_neg (by decide))
          have a1 := (k 1).trans (by first | exact if_pos rfl | exact if_neg (by decide))
          have a2 := (k 2).trans (by first | exact if_pos rfl | exact if_neg (by decide))
          have a3 := (k 3).trans (by first | exact if_pos rfl | exact if_neg (by decide))
          have b0 := o 0
          have b1 := o 1
          have b2 := o 2
          have b3 := o 3
          have e0 := (k' 0).trans (by first | exact if_pos rfl | exact if_neg (by decide))
          have e1 := (k' 1).trans (by first | exact if_pos rfl | exact if_neg (by decide))
          have e2 := (k' 2).trans (by first | exact if_pos rfl | exact if_neg (by decide))
          have e3 := (k' 3).trans (by first | exact if_pos rfl | exact if_neg (by decide))
          have f0 := (o' 0).trans (by first | exact if_pos rfl | exact if_neg (by decide))
          have f1 := (o' 1).trans (by first | exact if_pos rfl | exact if_neg (by decide))
          have f2 := (o' 2).trans (by first | exact if_pos rfl | exact if_neg (by decide))
          have f3 := (o' 3).trans (by first | exact if_pos rfl | exact if_neg (by decide))
          (conv => whnf)
          simp only [envCat, crow, cells9, List.length_set, List.map_append, List.map_cons, List.map_nil, List.length_append, List.length_map, List.length_cons, List.length_nil, a0, a1, a2, a3, b0, b1, b2, b3, e0, e1, e2, e3, f0, f1, f2, f3]
          rfl
       . rw [show (97 : UInt8) - 49 = 48 from rfl] at hsn
         have k := put_word (f := car L) (g := car (L.set i 49)) hqr hr (car_set hz rfl)
         have k' := put_word (f := car L) (g := car (L.set i 48)) hqr hr (car_set hz rfl)
         have o := put_word (f := one L) (g := one (L.set i 49)) hqr hr (one_set hz)
         have o' := fun k => wof_ext (f := one (L.set i 48)) (g := one L) (k := k) fun j _ => one_set0 hz _
         rcases hq with rfl | rfl | rfl | rfl
         all_goals
          (try (conv => whnf)); repeat' (first | refine Ok.seq ?_ | ((first | refine Ok.region tok ?_ | refine Ok.cond ?_); conv => whnf) | refine Ok.block ?_ | ((first | refine Ok.skip ?_ | refine Ok.exit ?_ | refine nI ?_); conv => whnf) | (refine Or.inr (Or.inr (Or.inr (Or.inr ?_))); (conv => whnf); refine effW.of (effK.peek (by rfl) (pk2 (.bp _ _ ( crow L) rfl (fun d hd => ints_crow _ d (List.mem_of_mem_drop hd))) (.i _ _)) (s1 ) ?_); rintro _ _ ⟨rfl, rfl⟩; (refine And.intro (by simp [gRowsP, grounds, D.ground]) ?_; conv => whnf)) | (refine Or.inr (Or.inr (Or.inr (Or.inr ?_))); (conv => whnf); refine effW.of (effK.peek (by rfl) (pk2 (.bp _ _ ( crow d) rfl (fun d hd => ints_crow _ d (List.mem_of_mem_drop hd))) (.i _ _)) (s2 ) ?_); rintro _ _ ⟨rfl, rfl⟩; (refine And.intro (by simp [gRowsP, grounds, D.ground]) ?_; conv => whnf)) | (refine bI ?_ ?_ <;> intro <;> (conv => whnf) <;> (try (exfalso; omega))) | fail)
          all_goals first
           | contradiction
           | skip
          refine Or.inr (Or.inr (Or.inl ?_)); (conv => whnf); refine ⟨_, _, Tryz.func124, rfl, Tryz.call124, ?_⟩; (conv => whnf)
          (try (conv => whnf)); repeat' (first | ((with_reducible_and_instances (first | refine nShl1' rfl (by assumption) ?_ | refine nOr ?_)); conv => whnf) | refine Ok.seq ?_ | ((first | refine Ok.region tok ?_ | refine Ok.region_plan (id := 0) tok follows [(5, 12, [])] [.q 0, .q 1, .q 2, .q 3, .q 4, .q 5, .q 6, .q 7, .q 8, .q 9, .q 10, .q 11, .l 12] (by kernel_rfl) ?_ | refine ⟨_, (hquo.symm).symm, ?_⟩ | refine ⟨_, (hrem.symm).symm, ?_⟩ | refine Ok.cond ?_); conv => whnf) | (refine Or.inr (Or.inr (Or.inr (Or.inr ?_))); (conv => whnf); refine effW.of (effK.peek (by rfl) (pk2 (.bp _ _ ( crow d) rfl (fun d hd => ints_crow _ d (List.mem_of_mem_drop hd))) (.i _ _)) (s3 ) ?_); rintro _ _ ⟨rfl, rfl⟩; (refine And.intro (by simp [gRowsP, grounds, D.ground]) ?_; conv => whnf)) | (refine bI ?_ ?_ <;> intro <;> (conv => whnf) <;> (try (exfalso; omega))) | ((first | refine aJ ?_ | refine ⟨_, rfl, ?_⟩); conv => whnf) | fail)
          all_goals first
           | contradiction
           | skip
          refine Or.inr (Or.inr (Or.inl ?_)); (conv => whnf); refine ⟨_, _, Tryz.func124, rfl, Tryz.call124, ?_⟩; (conv => whnf)
          (try (conv => whnf)); repeat' (first | ((first | (with_reducible_and_instances (first | refine nShl1' rfl (by assumption) ?_ | refine nOr ?_)) | refine Ok.region tok ?_ | refine Ok.region_plan (id := 0) tok follows [(5, 12, [])] [.q 0, .q 1, .q 2, .q 3, .q 4, .q 5, .q 6, .q 7, .q 8, .q 9, .q 10, .q 11, .l 12] (by kernel_rfl) ?_ | refine ⟨_, (hquo.symm).symm, ?_⟩ | refine ⟨_, (hrem.symm).symm, ?_⟩ | refine nI ?_ | refine Alt2.l (aI ?_) | refine ⟨_, .inl ⟨rfl, rfl⟩, ?_⟩ | refine ⟨_, _, rfl, rfl, ?_⟩ | refine aJ ?_ | refine ⟨_, rfl, ?_⟩); conv => whnf) | fail)
          refine ⟨i + 1, by omega, by omega, ?_⟩
          rw [hsu, hsn]
          have a0 := (k 0).trans (by first | exact if_pos rfl | exact if_neg (by decide))
          have a1 := (k 1).trans (by first | exact if_pos rfl | exact if_neg (by decide))
          have a2 := (k 2).trans (by first | exact if_pos rfl | exact if_neg (by decide))
          have a3 := (k 3).trans (by first | exact if_pos rfl | exact if_neg (by decide))
          have b0 := (o 0).trans (by first | exact if_pos rfl | exact if_neg (by decide))
          have b1 := (o 1).trans (by first | exact if_pos rfl | exact if_neg (by decide))
          have b2 := (o 2).trans (by first | exact if_pos rfl | exact if_neg (by decide))
          have b3 := (o 3).trans (by first | exact if_pos rfl | exact if_neg (by decide))
          have e0 := (k' 0).trans (by first | exact if_pos rfl | exact if_neg (by decide))
          have e1 := (k' 1).trans (by first | exact if_pos rfl | exact if_neg (by decide))
          have e2 := (k' 2).trans (by first | exact if_pos rfl | exact if_neg (by decide))
          have e3 := (k' 3).trans (by first | exact if_pos rfl | exact if_neg (by decide))
          have f0 := o' 0
          have f1 := o' 1
          have f2 := o' 2
          have f3 := o' 3
          (conv => whnf)
          simp only [envCat, crow, cells9, List.length_set, List.map_append, List.map_cons, List.map_nil, List.length_append, List.length_map, List.length_cons, List.length_nil, a0, a1, a2, a3, b0, b1, b2, b3, e0, e1, e2, e3, f0, f1, f2, f3]
          rfl
       . exact absurd rfl hb2
     . rw [if_neg hab] at hpc
       have hsn := pcsT_none hpc
       rw [hQ] at hsn
       have hsm := hsm hab
       have hcases : (dig a = true) \/ (dig a = false /\ dig b = false) := by
        rcases hac with rfl | rfl | rfl
        . left; rfl
        . left; rfl
        . right
          rcases hbc with rfl | rfl | rfl
          . exact absurd ⟨rfl, by decide⟩ hab
          . exact absurd ⟨rfl, by decide⟩ hab
          . exact ⟨rfl, rfl⟩
       rcases hcases with hda | ⟨hda, hdb⟩
       . rw [hda] at s1
         (try (conv => whnf)); repeat' (first | refine Ok.seq ?_ | ((first | refine Ok.region tok ?_ | refine Ok.cond ?_); conv => whnf) | refine Ok.block ?_ | ((first | refine Ok.skip ?_ | refine Ok.exit ?_ | refine nI ?_); conv => whnf) | (refine Or.inr (Or.inr (Or.inr (Or.inr ?_))); (conv => whnf); refine effW.of (effK.peek (by rfl) (pk2 (.bp _ _ ( crow L) rfl (fun d hd => ints_crow _ d (List.mem_of_mem_drop hd))) (.i _ _)) (s1 ) ?_); rintro _ _ ⟨rfl, rfl⟩; (refine And.intro (by simp [gRowsP, grounds, D.ground]) ?_; conv => whnf)) | (refine Or.inr (Or.inr (Or.inr (Or.inr ?_))); (conv => whnf); refine effW.of (effK.peek (by rfl) (pk2 (.bp _ _ ( crow d) rfl (fun d hd => ints_crow _ d (List.mem_of_mem_drop hd))) (.i _ _)) (s2 ) ?_); rintro _ _ ⟨rfl, rfl⟩; (refine And.intro (by simp [gRowsP, grounds, D.ground]) ?_; conv => whnf)) | (refine bI ?_ ?_ <;> intro <;> (conv => whnf) <;> (try (exfalso; omega))) | fail)
         all_goals first
          | contradiction
          | (refine ⟨i + 1, by omega, by omega, ?_⟩
             rw [hsm, hsn]
             (conv => whnf)
             rfl)
          | (rename_i h; exact absurd rfl h)
       . rw [hda] at s1
         rw [hdb] at s2
         (try (conv => whnf)); repeat' (first | refine Ok.seq ?_ | ((first | refine Ok.region tok ?_ | refine Ok.cond ?_); conv => whnf) | refine Ok.block ?_ | ((first | refine Ok.skip ?_ | refine Ok.exit ?_ | refine nI ?_); conv => whnf) | (refine Or.inr (Or.inr (Or.inr (Or.inr ?_))); (conv => whnf); refine effW.of (effK.peek (by rfl) (pk2 (.bp _ _ ( crow L) rfl (fun d hd => ints_crow _ d (List.mem_of_mem_drop hd))) (.i _ _)) (s1 ) ?_); rintro _ _ ⟨rfl, rfl⟩; (refine And.intro (by simp [gRowsP, grounds, D.ground]) ?_; conv => whnf)) | (refine Or.inr (Or.inr (Or.inr (Or.inr ?_))); (conv => whnf); refine effW.of (effK.peek (by rfl) (pk2 (.bp _ _ ( crow d) rfl (fun d hd => ints_crow _ d (List.mem_of_mem_drop hd))) (.i _ _)) (s2 ) ?_); rintro _ _ ⟨rfl, rfl⟩; (refine And.intro (by simp [gRowsP, grounds, D.ground]) ?_; conv => whnf)) | (refine bI ?_ ?_ <;> intro <;> (conv => whnf) <;> (try (exfalso; omega))) | fail)
         all_goals first
          | contradiction
          | (refine ⟨i + 1, by omega, by omega, ?_⟩
             rw [hsm, hsn]
             (conv => whnf)
             rfl)
          | (rename_i h; exact absurd (fun q => by cases q) h)
   . have hie : i = c.length := by omega
     subst hie
     have hsp : splitT c d = pcsT c d c.length := if_pos hs
     rw [hsp]
     (try (conv => whnf)); repeat' (first | refine Ok.seq ?_ | ((first | refine Ok.region tok ?_ | refine Ok.cond ?_ | refine Ok.exit ?_ | refine Ok.ret ?_); conv => whnf) | (refine bI ?_ ?_ <;> intro <;> (conv => whnf) <;> (try (exfalso; omega))) | fail)
     refine Or.inl ?_; (conv => whnf)
     refine ⟨[], ?_, rfl⟩
     rw [List.take_of_length_le (by simp), List.drop_of_length_le (by simp)]
     rfl
 . have hn : splitT c d = [c] := by unfold splitT; rw [if_neg hs]
   rw [hn]
   (try (conv => whnf)); repeat' (first | refine Ok.seq ?_ | ((first | refine Ok.region tok ?_ | refine Ok.cond ?_); conv => whnf) | refine Ok.block ?_ | ((first | refine Ok.skip ?_ | refine Ok.ret ?_); conv => whnf) | (refine Or.inr (Or.inl ?_); (conv => whnf); (repeat (refine aI ?_; conv => whnf)); refine ⟨_, hm, ?_⟩; rintro _ _ ⟨rfl, rfl⟩ <;> (conv => whnf)) | (refine bI ?_ ?_ <;> intro <;> (conv => whnf) <;> (try (exfalso; omega))) | fail)
   . refine Or.inl ?_; (conv => whnf)
     exact ⟨_, rfl, rfl⟩
   . rename_i h
     exact absurd (Classical.not_not.1 h) hs
end Go.Proofs.YtagmibogginaaaaGreatDoor
namespace Go.Proofs.YtagmibogginaaaaGreatDoor
open Go Go.Vx
structure Tst where
 f : Str
 op : Int
 form : Int
 lo : Int
 hi : Int
 len : Int
 pat : Str
structure Nd where
 kind : Int
 t : Tst
structure Fd where
 name : Str
 bits : Int
@[reducible] def tcells (t : Tst) : List D := [.s t.f, .i .i64 t.op, .i .i64 t.form, .i .i64 t.lo, .i .i64 t.hi, .i .i64 t.len, .s t.pat]
@[reducible] def nrow (x : Nd) : List D := .i .i64 x.kind :: tcells x.t
@[reducible] def frow (x : Fd) : List D := [.s x.name, .i .i64 x.bits]
theorem eqNode : EqT Tryz.prog 56 [.i .i64, .s, .i .i64, .i .i64, .i .i64, .i .i64, .i .i64, .s] := EqT.of_b tok (ti := _) rfl rfl (by kernel_rfl)
theorem eqTest : EqT Tryz.prog 54 [.s, .i .i64, .i .i64, .i .i64, .i .i64, .i .i64, .s] := EqT.of_b tok (ti := _) rfl rfl (by kernel_rfl)
theorem eqField : EqT Tryz.prog 34 [.s, .i .i64] := EqT.of_b tok (ti := _) rfl rfl (by kernel_rfl)
set_option maxHeartbeats 4000000 in
theorem alike_at (l : List Nd) (r1 r2 : List (List D)) (hl : l.length <= 2000000) : FSpec Tryz.prog T 24 [.lst 56 (l.map nrow) r1, .lst 56 (l.map nrow) r2] (fun d _ => d = .b True) := by
 have h1 : (l.map nrow).length = l.length := by simp
 refine FSpec.of_ok tok Tryz.func24 rfl Tryz.call24 (by simp) ?_
 (try (conv => whnf)); repeat' (first | refine Ok.seq ?_ | ((first | refine Ok.region tok ?_ | refine Ok.cond ?_); conv => whnf) | refine Ok.block ?_ | (refine Ok.skip ?_; conv => whnf) | (refine bI ?_ ?_ <;> intro <;> (conv => whnf) <;> (try (exfalso; omega))) | fail)
 all_goals first
  | (exfalso; omega)
  | skip
 refine Ok.loopU [0, 1] [5] 0 0 (fun (i : Nat) => [.i .i64 (i : Nat)]) (fun _ b => b) (fun _ r => r) (fun (i : Nat) => i <= l.length) (fun (i : Nat) => l.length - i) (0) (Nat.zero_le _) ?_; (conv => whnf); refine ⟨by ((conv => whnf); first | rfl | (simp [envCat, List.take_of_length_le, nrow, frow]; done) | (simp [envCat, List.take_of_length_le, nrow, frow]; rw [IntKind.wrap_i64]; omega)), ?_⟩
 intro i hi
 (conv => whnf)
 by_cases hil : i < l.length
 . obtain ⟨c, hc⟩ : ∃ c, l[i]? = some c := ⟨_, List.getElem?_eq_getElem hil⟩
   have hcI : l[((i : Nat) : Int).toNat]? = some c := hc
   (try (conv => whnf)); repeat' (first | (refine ⟨_, eqNode, by kernel_rfl, ?_⟩; conv => whnf) | refine Ok.seq ?_ | ((first | refine Ok.region tok ?_ | refine Ok.region_draw tok follows (by kernel_rfl) ?_ | refine Ok.cond ?_); conv => whnf) | refine Ok.block ?_ | ((first | refine Ok.skip ?_ | refine Ok.ret ?_ | refine nI ?_ | refine ix _ (by assumption) ?_); conv => whnf) | (refine bI ?_ ?_ <;> intro <;> (conv => whnf) <;> (try (exfalso; omega))) | fail)
   all_goals first
    | (rename_i h; exfalso; simp [eqDs, eqD] at h; done)
    | (refine ⟨i + 1, by omega, by omega, ?_⟩
       (conv => whnf)
       rfl)
 . have hie : i = l.length := by omega
   subst hie
   (try (conv => whnf)); repeat' (first | refine Ok.seq ?_ | ((first | refine Ok.region tok ?_ | refine Ok.cond ?_ | refine Ok.exit ?_ | refine Ok.ret ?_); conv => whnf) | (refine bI ?_ ?_ <;> intro <;> (conv => whnf) <;> (try (exfalso; omega))) | fail)
   refine Or.inl ?_; (conv => whnf)
   rfl
end Go.Proofs.YtagmibogginaaaaGreatDoor
namespace Go.Proofs.YtagmibogginaaaaGreatDoor
open Go Go.Vx
def tst0 : Tst := ⟨[], 0, 0, 0, 0, 0, []⟩
def mk91 : Nd := ⟨91, tst0⟩
def mk92 : Nd := ⟨92, tst0⟩
def mkF : Fd := ⟨[63], 91⟩
set_option maxHeartbeats 4000000 in
theorem nodes_at (l : List Nd) (r1 : List (List D)) (hl : l.length <= 1000) : FSpec Tryz.prog T 7 [.lst 56 (l.map nrow) r1] (fun d rows => d = .own 0 l.length /\ rows = [some (56, (l ++ [mk91, mk92]).map nrow)]) := by
 have h1 : (l.map nrow).length = l.length := by simp
 refine FSpec.of_ok tok Tryz.func7 rfl Tryz.call7 (by simp) ?_
 (try (conv => whnf)); repeat' (first | refine Ok.seq ?_ | ((first | refine Ok.region tok ?_ | refine Alt2.l (aI ?_) | refine ⟨_, .inl ⟨rfl, rfl⟩, ?_⟩ | refine ⟨_, _, rfl, rfl, ?_⟩ | refine aJ ?_); conv => whnf) | fail)
 refine ⟨l.length, rfl, (by (conv => whnf); omega), by simp, ?_⟩
 (conv => whnf)
 (try (conv => whnf)); repeat' (first | (refine Ok.ret ?_; conv => whnf) | fail)
 refine Or.inr (Or.inl ?_); (conv => whnf)
 refine ⟨rfl, ?_⟩
 simp [mk91, mk92, tst0]
set_option maxHeartbeats 4000000 in
theorem layout1_at (l : List Fd) (r1 : List (List D)) (hl : l.length <= 16) : FSpec Tryz.prog T 6 [.lst 34 (l.map frow) r1] (fun d rows => d = .own 0 l.length /\ rows = [some (34, (l ++ [mkF]).map frow)]) := by
 have h1 : (l.map frow).length = l.length := by simp
 refine FSpec.of_ok tok Tryz.func6 rfl Tryz.call6 (by simp) ?_
 (try (conv => whnf)); repeat' (first | refine Ok.seq ?_ | ((first | refine Ok.region tok ?_ | refine Alt2.l (aI ?_) | refine ⟨_, .inl ⟨rfl, rfl⟩, ?_⟩ | refine ⟨_, _, rfl, rfl, ?_⟩ | refine aJ ?_); conv => whnf) | fail)
 refine ⟨l.length, rfl, (by (conv => whnf); omega), by simp, ?_⟩
 (conv => whnf)
 (try (conv => whnf)); repeat' (first | (refine Ok.ret ?_; conv => whnf) | fail)
 refine Or.inr (Or.inl ?_); (conv => whnf)
 refine ⟨rfl, ?_⟩
 simp [mkF]
set_option maxHeartbeats 4000000 in
theorem turned_at (l : List Nd) (r1 : List (List D)) (hl : l.length <= 1000) : FSpec Tryz.prog T 13 [.lst 56 (l.map nrow) r1] (fun d rows => rows = [] /\ ∃ rm, d = .lst 56 (l.reverse.map nrow) rm) := by
 have h1 : (l.map nrow).length = l.length := by simp
 refine FSpec.of_ok tok Tryz.func13 rfl Tryz.call13 (by simp) ?_
 (try (conv => whnf)); repeat' (first | refine Ok.seq ?_ | (refine Ok.region tok ?_; conv => whnf) | refine Ok.block ?_ | (refine nI ?_; conv => whnf) | fail)
 refine Ok.ghost 3 56 rfl ?_
 (conv => whnf)
 refine Ok.loopU [0] [3, 4] 1 0 (fun (x : Int × Nat) => [.own 0 x.2, .i .i64 x.1]) (fun _ b => b) (fun (x : Int × Nat) (_ : Vx.Rows) => [some (56, (l.reverse.take x.2).map nrow)]) (fun (x : Int × Nat) => x.2 <= l.length /\ x.1 = (l.length : Int) - 1 - (x.2 : Nat)) (fun (x : Int × Nat) => l.length - x.2) ((((l.map nrow).length : Int) - 1, 0)) (⟨Nat.zero_le _, by simp [h1]⟩) ?_; (conv => whnf); refine ⟨by ((conv => whnf); first | rfl | (simp [envCat, List.take_of_length_le, nrow, frow]; done) | (simp [envCat, List.take_of_length_le, nrow, frow]; rw [IntKind.wrap_i64]; omega)), ?_⟩
 rintro ⟨v, i⟩ ⟨hi, hv⟩
 dsimp only at hi hv ⊢
 have htl : ((l.reverse.take i).map nrow).length = i := by simp; omega
 (conv => whnf)
 by_cases hil : i < l.length
 . obtain ⟨c, hc⟩ : ∃ c, l[l.length - 1 - i]? = some c := ⟨_, List.getElem?_eq_getElem (by omega)⟩
   have hcI : l[v.toNat]? = some c := by rw [hv, <- hc]; congr 1; omega
   have hsn : (l.reverse.take (i + 1)).map nrow = (l.reverse.take i).map nrow ++ [nrow c] := by
    rw [take_snoc (by rw [List.getElem?_reverse hil, <- hc]), List.map_append]; rfl
   (try (conv => whnf)); repeat' (first | refine Ok.seq ?_ | ((first | refine Ok.region tok ?_ | refine Ok.cond ?_); conv => whnf) | refine Ok.block ?_ | ((first | refine Ok.skip ?_ | refine nI ?_ | refine ixI (by omega) (by assumption) ?_ | refine Alt2.l (aI ?_) | refine ⟨_, .inl ⟨rfl, rfl⟩, ?_⟩ | refine ⟨_, _, rfl, rfl, ?_⟩); conv => whnf) | (refine bI ?_ ?_ <;> intro <;> (conv => whnf) <;> (try (exfalso; omega))) | (refine aJ ?_; conv => whnf) | fail)
   all_goals first
    | (exfalso; omega)
    | skip
   refine ⟨(v - 1, i + 1), by dsimp only; omega, ⟨by dsimp only; omega, by dsimp only; omega⟩, ?_⟩
   rw [hsn]
   (conv => whnf)
   simp [envCat]
   omega
 . have hie : i = l.length := by omega
   subst hie
   (try (conv => whnf)); repeat' (first | refine Ok.seq ?_ | ((first | refine Ok.region tok ?_ | refine Ok.cond ?_ | refine Ok.exit ?_ | refine Ok.ret ?_); conv => whnf) | (refine bI ?_ ?_ <;> intro <;> (conv => whnf) <;> (try (exfalso; omega))) | fail)
   all_goals first
    | (exfalso; omega)
    | skip
   refine Or.inl ?_; (conv => whnf)
   refine ⟨rfl, [], ?_⟩
   rw [List.take_of_length_le (by simp), List.take_of_length_le (by simp), List.drop_of_length_le (by simp)]
   rfl
set_option maxHeartbeats 4000000 in
theorem untouched_at (l : List Nd) (r2 : List (List D)) (hl : l.length <= 1000) : FSpec Tryz.prog T 11 [.lst 56 (l.map nrow) ([mk91, mk92].map nrow), .lst 56 (l.map nrow) r2] (fun d _ => d = .b True) := by
 have h1 : (l.map nrow).length = l.length := by simp
 refine FSpec.of_ok tok Tryz.func11 rfl Tryz.call11 (by simp) ?_
 have hap : l.map nrow ++ [mk91, mk92].map nrow = (l ++ [mk91, mk92]).map nrow := by simp
 have h9 : (l ++ [mk91, mk92])[(((l.map nrow).length : Nat) : Int).toNat]? = some mk91 := by simp
 have h8 : (l ++ [mk91, mk92])[((((l.map nrow).length : Nat) : Int) + 1).toNat]? = some mk92 := by
  rw [show ((((l.map nrow).length : Nat) : Int) + 1).toNat = l.length + 1 by omega]
  simp
 have al := fun a b => alike_at l a b (by omega)
 (try (conv => whnf)); repeat' (first | ((first | refine ⟨(l ++ [mk91, mk92]).map nrow, [], (by simp [List.take_of_length_le]), (by simp), ?_⟩ | refine ⟨_, eqNode, by kernel_rfl, ?_⟩); conv => whnf) | refine Ok.seq ?_ | ((first | refine Ok.region tok ?_ | refine Ok.ret ?_ | refine nI ?_ | refine ix _ (by assumption) ?_); conv => whnf) | (refine Or.inl ?_; (conv => whnf); (repeat (refine aI ?_; conv => whnf)); refine ⟨_, al _ _, rfl, ?_⟩; conv => whnf) | (refine ⟨_, _, rfl, rfl, ?_⟩; conv => whnf) | (refine bI ?_ ?_ <;> intro <;> (conv => whnf) <;> (try (exfalso; omega))) | (refine aJ ?_; conv => whnf) | fail)
 all_goals first
  | exact absurd trivial (by assumption)
  | (rename_i h; exact absurd ⟨rfl, rfl, rfl, rfl, rfl, rfl, rfl, rfl⟩ h)
  | (refine Or.inl ?_; (conv => whnf)
     show D.b _ = D.b True
     congr 1
     exact propext ⟨fun _ => trivial, fun _ => ⟨rfl, rfl, rfl, rfl, rfl, rfl, rfl, rfl⟩⟩)
set_option maxHeartbeats 4000000 in
theorem kept1_at (l : List Fd) (r2 : List (List D)) (hl : l.length <= 16) : FSpec Tryz.prog T 12 [.lst 34 (l.map frow) ([mkF].map frow), .lst 34 (l.map frow) r2] (fun d _ => d = .b True) := by
 have h1 : (l.map frow).length = l.length := by simp
 refine FSpec.of_ok tok Tryz.func12 rfl Tryz.call12 (by simp) ?_
 (try (conv => whnf)); repeat' (first | refine Ok.seq ?_ | (refine Ok.region tok ?_; conv => whnf) | refine Ok.block ?_ | fail)
 refine Ok.loopU [0, 1] [5] 0 0 (fun (i : Nat) => [.i .i64 (i : Nat)]) (fun _ b => b) (fun _ r => r) (fun (i : Nat) => i <= l.length) (fun (i : Nat) => l.length - i) (0) (Nat.zero_le _) ?_; (conv => whnf); refine ⟨by ((conv => whnf); first | rfl | (simp [envCat, List.take_of_length_le, nrow, frow]; done) | (simp [envCat, List.take_of_length_le, nrow, frow]; rw [IntKind.wrap_i64]; omega)), ?_⟩
 intro i hi
 (conv => whnf)
 by_cases hil : i < l.length
 . obtain ⟨c, hc⟩ : ∃ c, l[i]? = some c := ⟨_, List.getElem?_eq_getElem hil⟩
   have hcI : l[((i : Nat) : Int).toNat]? = some c := hc
   (try (conv => whnf)); repeat' (first | (refine ⟨_, eqField, by kernel_rfl, ?_⟩; conv => whnf) | refine Ok.seq ?_ | ((first | refine Ok.region tok ?_ | refine Ok.region_draw tok follows (by kernel_rfl) ?_ | refine Ok.cond ?_); conv => whnf) | refine Ok.block ?_ | ((first | refine Ok.skip ?_ | refine Ok.ret ?_ | refine nI ?_ | refine ix _ (by assumption) ?_); conv => whnf) | (refine bI ?_ ?_ <;> intro <;> (conv => whnf) <;> (try (exfalso; omega))) | fail)
   all_goals first
    | (rename_i h; exfalso; simp [eqDs, eqD] at h; done)
    | (exfalso; omega)
    | (refine ⟨i + 1, by omega, by omega, ?_⟩
       (conv => whnf)
       rfl)
 . have hie : i = l.length := by omega
   subst hie
   have h9 : (l ++ [mkF])[(((l.map frow).length : Nat) : Int).toNat]? = some mkF := by simp
   (try (conv => whnf)); repeat' (first | ((first | refine ⟨(l ++ [mkF]).map frow, [], (by simp [List.take_of_length_le]), (by simp), ?_⟩ | refine ⟨_, eqField, by kernel_rfl, ?_⟩); conv => whnf) | refine Ok.seq ?_ | ((first | refine Ok.region tok ?_ | refine Ok.cond ?_ | refine Ok.exit ?_ | refine Ok.ret ?_ | refine nI ?_ | refine ix _ (by assumption) ?_ | refine ⟨_, _, rfl, rfl, ?_⟩); conv => whnf) | (refine bI ?_ ?_ <;> intro <;> (conv => whnf) <;> (try (exfalso; omega))) | (refine aJ ?_; conv => whnf) | fail)
   all_goals first
    | (exfalso; omega)
    | (refine Or.inl ?_; (conv => whnf)
       show D.b _ = D.b True
       congr 1
       exact propext ⟨fun _ => trivial, fun _ => ⟨rfl, rfl⟩⟩)
end Go.Proofs.YtagmibogginaaaaGreatDoor
namespace Go.Proofs.YtagmibogginaaaaGreatDoor
open Go Go.Vx
def Ltr (b : UInt8) : Prop := b.toNat = 95 \/ (97 <= b.toNat /\ b.toNat <= 122) \/ (65 <= b.toNat /\ b.toNat <= 90)
def Dgt (b : UInt8) : Prop := 48 <= b.toNat /\ b.toNat <= 57
def nameAt (i : Nat) (b : UInt8) : Prop := Ltr b \/ (i ≠ 0 /\ Dgt b)
def NameP (s : Str) : Prop := s ≠ [] /\ s.length <= 24 /\ ∀ (i : Nat) b, s[i]? = some b -> nameAt i b
theorem b_ff {p : Prop} (h : ¬ p) : D.b False = D.b p := by congr 1; exact propext ⟨False.elim, h⟩
theorem b_tt {p : Prop} (h : p) : D.b True = D.b p := by congr 1; exact propext ⟨fun _ => h, fun _ => trivial⟩
theorem name_step {s : Str} {i : Nat} {b : UInt8} (h : ∀ (j : Nat) c, j < i -> s[j]? = some c -> nameAt j c) (hb : s[i]? = some b) (hn : nameAt i b) : ∀ (j : Nat) c, j < i + 1 -> s[j]? = some c -> nameAt j c := by
 intro j c hj hc
 by_cases hji : j = i
 . subst hji; rw [hb] at hc; cases hc; exact hn
 . exact h j c (by omega) hc
set_option maxHeartbeats 4000000 in
theorem name_at (s : Str) : FSpec Tryz.prog T 68 [.s s] (fun d _ => d = .b (NameP s)) := by
 refine FSpec.of_ok tok Tryz.func68 rfl Tryz.call68 (by simp) ?_
 (try (conv => whnf)); repeat' (first | refine Ok.seq ?_ | ((first | refine Ok.region tok ?_ | refine Ok.cond ?_); conv => whnf) | refine Ok.block ?_ | ((first | refine Ok.skip ?_ | refine Ok.ret ?_); conv => whnf) | (refine bI ?_ ?_ <;> intro <;> (conv => whnf) <;> (try (exfalso; omega))) | fail)
 all_goals first
  | (rename_i h
     refine Or.inl ?_; (conv => whnf)
     exact b_ff fun hn => hn.1 (by simpa using h))
  | (rename_i h
     refine Or.inl ?_; (conv => whnf)
     exact b_ff fun hn => absurd hn.2.1 (by omega))
  | skip
 rename_i h0 h1
 have hne : s ≠ [] := fun e => h0 (by simpa using e)
 have hle : s.length <= 24 := by omega
 refine Ok.loopU [0, 14] [15] 0 0 (fun (i : Nat) => [.i .i64 (i : Nat)]) (fun _ b => b) (fun _ r => r) (fun (i : Nat) => i <= s.length /\ ∀ (j : Nat) c, j < i -> s[j]? = some c -> nameAt j c) (fun (i : Nat) => s.length - i) (0) (⟨Nat.zero_le _, fun j c hj => absurd hj (by omega)⟩) ?_; (conv => whnf); refine ⟨by ((conv => whnf); first | rfl | (simp [envCat, List.take_of_length_le, nrow, frow]; done) | (simp [envCat, List.take_of_length_le, nrow, frow]; rw [IntKind.wrap_i64]; omega)), ?_⟩
 rintro i ⟨hi, hall⟩
 (conv => whnf)
 by_cases hil : i < s.length
 . obtain ⟨b, hb⟩ : ∃ b, s[i]? = some b := ⟨_, List.getElem?_eq_getElem hil⟩
   have hbI : s[((i : Nat) : Int).toNat]? = some b := hb
   have hb255 := b.toNat_lt
   (try (conv => whnf)); repeat' (first | refine Ok.seq ?_ | ((first | refine Ok.region tok ?_ | refine Ok.cond ?_); conv => whnf) | refine Ok.block ?_ | ((first | refine Ok.skip ?_ | refine Ok.ret ?_ | refine nI ?_ | refine ⟨_, by assumption, ?_⟩); conv => whnf) | (refine bI ?_ ?_ <;> intro <;> (conv => whnf) <;> (try (exfalso; omega))) | ((first | refine aJ ?_ | refine num_any ?_); conv => whnf) | fail)
   all_goals first
    | (exfalso; omega)
    | (refine Or.inl ?_; (conv => whnf)
       refine b_ff fun hn => ?_
       have := hn.2.2 i b hb
       unfold nameAt Ltr Dgt at this
       omega)
    | (refine ⟨i + 1, by omega, ⟨by omega, name_step hall hb ?_⟩, ?_⟩
       . unfold nameAt Ltr Dgt
         omega
       . (conv => whnf)
         rfl)
 . have hie : i = s.length := by omega
   subst hie
   (try (conv => whnf)); repeat' (first | refine Ok.seq ?_ | ((first | refine Ok.region tok ?_ | refine Ok.cond ?_ | refine Ok.exit ?_ | refine Ok.ret ?_); conv => whnf) | (refine bI ?_ ?_ <;> intro <;> (conv => whnf) <;> (try (exfalso; omega))) | fail)
   all_goals first
    | (exfalso; omega)
    | (refine Or.inl ?_; (conv => whnf)
       exact b_tt ⟨hne, hle, fun j c hc => hall j c (List.getElem?_eq_some_iff.1 hc).1 hc⟩)
set_option maxHeartbeats 4000000 in
theorem rname_at (s : Str) : FSpec Tryz.prog T 40 [.s s] (fun d _ => d = .b (NameP s)) := by
 refine FSpec.of_ok tok Tryz.func40 rfl Tryz.call40 (by simp) ?_
 (try (conv => whnf)); repeat' (first | refine Ok.seq ?_ | ((first | refine Ok.region tok ?_ | refine Ok.cond ?_); conv => whnf) | refine Ok.block ?_ | ((first | refine Ok.skip ?_ | refine Ok.ret ?_); conv => whnf) | (refine bI ?_ ?_ <;> intro <;> (conv => whnf) <;> (try (exfalso; omega))) | fail)
 all_goals first
  | (rename_i h
     refine Or.inl ?_; (conv => whnf)
     exact b_ff fun hn => hn.1 (by simpa using h))
  | (rename_i h
     refine Or.inl ?_; (conv => whnf)
     exact b_ff fun hn => absurd hn.2.1 (by omega))
  | skip
 rename_i h0 h1
 have hne : s ≠ [] := fun e => h0 (by simpa using e)
 have hle : s.length <= 24 := by omega
 refine Ok.loopU [0] [3] 0 0 (fun (i : Nat) => [.i .i64 (i : Nat)]) (fun _ b => b) (fun _ r => r) (fun (i : Nat) => i <= s.length /\ ∀ (j : Nat) c, j < i -> s[j]? = some c -> nameAt j c) (fun (i : Nat) => s.length - i) (0) (⟨Nat.zero_le _, fun j c hj => absurd hj (by omega)⟩) ?_; (conv => whnf); refine ⟨by ((conv => whnf); first | rfl | (simp [envCat, List.take_of_length_le, nrow, frow]; done) | (simp [envCat, List.take_of_length_le, nrow, frow]; rw [IntKind.wrap_i64]; omega)), ?_⟩
 rintro i ⟨hi, hall⟩
 (conv => whnf)
 by_cases hil : i < s.length
 . obtain ⟨b, hb⟩ : ∃ b, s[i]? = some b := ⟨_, List.getElem?_eq_getElem hil⟩
   have hbI : s[((i : Nat) : Int).toNat]? = some b := hb
   have hb255 := b.toNat_lt
   (try (conv => whnf)); repeat' (first | refine Ok.seq ?_ | ((first | refine Ok.region tok ?_ | refine Ok.cond ?_); conv => whnf) | refine Ok.block ?_ | ((first | refine Ok.skip ?_ | refine Ok.ret ?_ | refine nI ?_ | refine ⟨_, by assumption, ?_⟩); conv => whnf) | (refine bI ?_ ?_ <;> intro <;> (conv => whnf) <;> (try (exfalso; omega))) | ((first | refine aJ ?_ | refine num_any ?_); conv => whnf) | fail)
   all_goals first
    | (exfalso; omega)
    | (refine Or.inl ?_; (conv => whnf)
       refine b_ff fun hn => ?_
       have := hn.2.2 i b hb
       unfold nameAt Ltr Dgt at this
       omega)
    | (refine ⟨i + 1, by omega, ⟨by omega, name_step hall hb ?_⟩, ?_⟩
       . unfold nameAt Ltr Dgt
         omega
       . (conv => whnf)
         rfl)
 . have hie : i = s.length := by omega
   subst hie
   (try (conv => whnf)); repeat' (first | refine Ok.seq ?_ | ((first | refine Ok.region tok ?_ | refine Ok.cond ?_ | refine Ok.exit ?_ | refine Ok.ret ?_); conv => whnf) | (refine bI ?_ ?_ <;> intro <;> (conv => whnf) <;> (try (exfalso; omega))) | fail)
   all_goals first
    | (exfalso; omega)
    | (refine Or.inl ?_; (conv => whnf)
       exact b_tt ⟨hne, hle, fun j c hc => hall j c (List.getElem?_eq_some_iff.1 hc).1 hc⟩)
end Go.Proofs.YtagmibogginaaaaGreatDoor
namespace Go.Proofs.YtagmibogginaaaaGreatDoor
open Go Go.Vx
theorem fdrop_at {α : Type} {l : List α} {i : Nat} {x : α} (h : l[i]? = some x) : l.drop i = x :: l.drop (i + 1) := by
 obtain ⟨h1, rfl⟩ := List.getElem?_eq_some_iff.1 h
 exact List.drop_eq_getElem_cons h1
def findI (nm : Str) : List Fd -> Nat -> Int
 | [], _ => -1
 | f :: l, k => if f.name = nm then (k : Int) else findI nm l (k + 1)
theorem findI_ge (nm : Str) : ∀ (l : List Fd) (k : Nat), (0 <= findI nm l k ↔ ∃ f ∈ l, f.name = nm) /\ -1 <= findI nm l k /\ findI nm l k < (k + l.length : Nat)
 | [], k => by simp [findI]; omega
 | f :: l, k => by
  unfold findI
  split
  . rename_i h
    refine ⟨⟨fun _ => ⟨f, by simp, h⟩, fun _ => by omega⟩, by omega, by simp; omega⟩
  . rename_i h
    obtain ⟨h1, h2, h3⟩ := findI_ge nm l (k + 1)
    refine ⟨h1.trans ⟨fun ⟨g, hg, e⟩ => ⟨g, by simp [hg], e⟩, fun ⟨g, hg, e⟩ => ?_⟩, h2, by simp at h3 ⊢; omega⟩
    rcases List.mem_cons.1 hg with rfl | hg
    . exact absurd e h
    . exact ⟨g, hg, e⟩
set_option maxHeartbeats 4000000 in
theorem find_at (l : List Fd) (r : List (List D)) (nm : Str) (hl : l.length <= 1000) : FSpec Tryz.prog T 69 [.lst 34 (l.map frow) r, .s nm] (fun d _ => d = .i .i64 (findI nm l 0)) := by
 have h1 : (l.map frow).length = l.length := by simp
 refine FSpec.of_ok tok Tryz.func69 rfl Tryz.call69 (by simp) ?_
 (try (conv => whnf)); repeat' (first | refine Ok.seq ?_ | (refine Ok.region tok ?_; conv => whnf) | refine Ok.block ?_ | fail)
 refine Ok.loopU [1, 7, 8] [9] 0 0 (fun (i : Nat) => [.i .i64 (i : Nat)]) (fun _ b => b) (fun _ r => r) (fun (i : Nat) => i <= l.length /\ findI nm l 0 = findI nm (l.drop i) i) (fun (i : Nat) => l.length - i) (0) (⟨Nat.zero_le _, rfl⟩) ?_; (conv => whnf); refine ⟨by ((conv => whnf); first | rfl | (simp [envCat, List.take_of_length_le, nrow, frow]; done) | (simp [envCat, List.take_of_length_le, nrow, frow]; rw [IntKind.wrap_i64]; omega)), ?_⟩
 rintro i ⟨hi, hf⟩
 (conv => whnf)
 by_cases hil : i < l.length
 . obtain ⟨c, hc⟩ : ∃ c, l[i]? = some c := ⟨_, List.getElem?_eq_getElem hil⟩
   have hcI : l[((i : Nat) : Int).toNat]? = some c := hc
   rw [fdrop_at hc] at hf
   (try (conv => whnf)); repeat' (first | refine Ok.seq ?_ | ((first | refine Ok.region tok ?_ | refine Ok.cond ?_); conv => whnf) | refine Ok.block ?_ | ((first | refine Ok.skip ?_ | refine Ok.ret ?_ | refine nI ?_ | refine ix _ (by assumption) ?_); conv => whnf) | (refine bI ?_ ?_ <;> intro <;> (conv => whnf) <;> (try (exfalso; omega))) | fail)
   all_goals first
    | (exfalso; omega)
    | (rename_i h
       refine Or.inl ?_; (conv => whnf)
       rw [hf]
       unfold findI
       rw [if_pos h]
       rfl)
    | (rename_i h
       refine ⟨i + 1, by omega, ⟨by omega, ?_⟩, ?_⟩
       . rw [hf]
         conv => lhs; unfold findI
         rw [if_neg h]
       . (conv => whnf)
         rfl)
 . have hie : i = l.length := by omega
   subst hie
   rw [List.drop_length] at hf
   (try (conv => whnf)); repeat' (first | refine Ok.seq ?_ | ((first | refine Ok.region tok ?_ | refine Ok.cond ?_ | refine Ok.exit ?_ | refine Ok.ret ?_); conv => whnf) | (refine bI ?_ ?_ <;> intro <;> (conv => whnf) <;> (try (exfalso; omega))) | fail)
   all_goals first
    | (exfalso; omega)
    | (refine Or.inl ?_; (conv => whnf)
       rw [hf]
       rfl)
def badF (pre : List Fd) (f : Fd) (sum : Int) : Prop :=
 ¬ NameP f.name \/ f.name = [97, 110, 121] \/ f.name = [110, 111, 110, 101] \/ (∃ g ∈ pre, g.name = f.name) \/ f.bits < 1 \/ 32 < f.bits \/ 256 < sum + f.bits
open Classical in
noncomputable def chkFrom (all : List Fd) : List Fd -> Nat -> Int -> Int × Int
 | [], _, _ => (0, 0)
 | f :: r, i, sum => if badF (all.take i) f sum then (40, (i : Int)) else chkFrom all r (i + 1) (sum + f.bits)
noncomputable def chkO (l : List Fd) : Int × Int := if 12 < l.length then (2, 0) else if l = [] then (40, 0) else chkFrom l l 0 0
theorem chkFrom_bad {all : List Fd} {f : Fd} {r : List Fd} {i : Nat} {sum : Int} (h : badF (all.take i) f sum) : chkFrom all (f :: r) i sum = (40, (i : Int)) := by unfold chkFrom; rw [if_pos h]
theorem chkFrom_ok {all : List Fd} {f : Fd} {r : List Fd} {i : Nat} {sum : Int} (h : ¬ badF (all.take i) f sum) : chkFrom all (f :: r) i sum = chkFrom all r (i + 1) (sum + f.bits) := by conv => lhs; unfold chkFrom; rw [if_neg h]
theorem chkO_long {l : List Fd} (h : 12 < l.length) : chkO l = (2, 0) := by unfold chkO; rw [if_pos h]
theorem chkO_nil {l : List Fd} (h : l.length = 0) : chkO l = (40, 0) := by unfold chkO; rw [if_neg (by omega), if_pos (List.eq_nil_of_length_eq_zero h)]
theorem chkO_of {l : List Fd} (h : ¬ 12 < l.length) (h2 : l.length ≠ 0) : chkO l = chkFrom l l 0 0 := by unfold chkO; rw [if_neg h, if_neg (fun e => h2 (by rw [e]; rfl))]
set_option maxHeartbeats 8000000 in
theorem check_at (l : List Fd) (r : List (List D)) (hl : l.length <= 1000) : FSpec Tryz.prog T 37 [.lst 34 (l.map frow) r] (fun d _ => d = .tup [.i .i64 (chkO l).1, .i .i64 (chkO l).2]) := by
 have h1 : (l.map frow).length = l.length := by simp
 refine FSpec.of_ok tok Tryz.func37 rfl Tryz.call37 (by simp) ?_
 (try (conv => whnf)); repeat' (first | refine Ok.seq ?_ | ((first | refine Ok.region tok ?_ | refine Ok.cond ?_); conv => whnf) | refine Ok.block ?_ | ((first | refine Ok.skip ?_ | refine Ok.ret ?_); conv => whnf) | (refine bI ?_ ?_ <;> intro <;> (conv => whnf) <;> (try (exfalso; omega))) | fail)
 all_goals first
  | (rename_i h
     refine Or.inl ?_; (conv => whnf)
     rw [chkO_long (by omega)]
     rfl)
  | (rename_i h
     refine Or.inl ?_; (conv => whnf)
     rw [chkO_nil (by omega)]
     rfl)
  | skip
 rename_i h2 h3
 rw [chkO_of (by omega) (by omega)]
 refine Ok.loopU [0, 13, 14] [4, 15] 0 0 (fun (x : Nat × Int) => [.i .i64 x.2, .i .i64 (x.1 : Nat)]) (fun _ b => b) (fun _ r => r) (fun (x : Nat × Int) => x.1 <= l.length /\ 0 <= x.2 /\ x.2 <= 256 /\ chkFrom l l 0 0 = chkFrom l (l.drop x.1) x.1 x.2) (fun (x : Nat × Int) => l.length - x.1) ((0, 0)) (⟨Nat.zero_le _, by omega, by omega, rfl⟩) ?_; (conv => whnf); refine ⟨by ((conv => whnf); first | rfl | (simp [envCat, List.take_of_length_le, nrow, frow]; done) | (simp [envCat, List.take_of_length_le, nrow, frow]; rw [IntKind.wrap_i64]; omega)), ?_⟩
 rintro ⟨i, sum⟩ ⟨hi, hs0, hs1, hf⟩
 dsimp only at hi hs0 hs1 hf ⊢
 (conv => whnf)
 by_cases hil : i < l.length
 . obtain ⟨c, hc⟩ : ∃ c, l[i]? = some c := ⟨_, List.getElem?_eq_getElem hil⟩
   have hcI : l[((i : Nat) : Int).toNat]? = some c := hc
   rw [fdrop_at hc] at hf
   have hfg := findI_ge c.name (l.take i) 0
   have hfa := fun r => find_at (l.take i) r c.name (by simp; omega)
   have hmt : (l.take i).map frow = ((l.map frow ++ r).take i).drop 0 := by rw [List.drop_zero, List.take_append_of_le_length (by omega), List.map_take]
   (try (conv => whnf)); repeat' (first | (refine ⟨(l.take i).map frow, _, hmt, rfl, ?_⟩; conv => whnf) | refine Ok.seq ?_ | ((first | refine Ok.region tok ?_ | refine Ok.region_draw tok follows (by kernel_rfl) ?_ | refine Ok.cond ?_); conv => whnf) | refine Ok.block ?_ | ((first | refine Ok.skip ?_ | refine Ok.ret ?_ | refine nI ?_ | refine ix _ (by assumption) ?_ | refine ⟨_, name_at c.name, rfl, ?_⟩ | refine ⟨_, hfa _, rfl, ?_⟩ | refine ⟨_, _, rfl, rfl, ?_⟩); conv => whnf) | (refine bI ?_ ?_ <;> intro <;> (conv => whnf) <;> (try (exfalso; omega))) | (refine aJ ?_; conv => whnf) | fail)
   all_goals first
    | (exfalso; omega)
    | (refine Or.inl ?_; (conv => whnf)
       rw [hf, chkFrom_bad (show badF (l.take i) c sum from by
        unfold badF
        first
         | exact .inl (by assumption)
         | exact .inr (.inl (by assumption))
         | exact .inr (.inr (.inl (by assumption)))
         | exact .inr (.inr (.inr (.inl (hfg.1.1 (by assumption)))))
         | exact .inr (.inr (.inr (.inr (by omega)))))]
       rfl)
    | skip
   all_goals
    refine ⟨(i + 1, sum + c.bits), by dsimp only; omega, ⟨by dsimp only; omega, by dsimp only; omega, by dsimp only; omega, ?_⟩, ?_⟩
   . rw [hf]
     refine chkFrom_ok fun hb => ?_
     rcases hb with h | h | h | h | h
     . exact absurd h (by assumption)
     . exact absurd h (by assumption)
     . exact absurd h (by assumption)
     . exact absurd (hfg.1.2 h) (by assumption)
     . omega
   . (conv => whnf)
     rfl
 . have hie : i = l.length := by omega
   subst hie
   rw [List.drop_length] at hf
   (try (conv => whnf)); repeat' (first | refine Ok.seq ?_ | ((first | refine Ok.region tok ?_ | refine Ok.cond ?_ | refine Ok.exit ?_ | refine Ok.ret ?_); conv => whnf) | (refine bI ?_ ?_ <;> intro <;> (conv => whnf) <;> (try (exfalso; omega))) | fail)
   all_goals first
    | (exfalso; omega)
    | (refine Or.inl ?_; (conv => whnf)
       rw [hf]
       rfl)
set_option maxHeartbeats 8000000 in
theorem rcheck_at (l : List Fd) (r : List (List D)) (hl : l.length <= 1000) : FSpec Tryz.prog T 21 [.lst 34 (l.map frow) r] (fun d _ => d = .tup [.i .i64 (chkO l).1, .i .i64 (chkO l).2]) := by
 have h1 : (l.map frow).length = l.length := by simp
 refine FSpec.of_ok tok Tryz.func21 rfl Tryz.call21 (by simp) ?_
 (try (conv => whnf)); repeat' (first | refine Ok.seq ?_ | ((first | refine Ok.region tok ?_ | refine Ok.cond ?_); conv => whnf) | refine Ok.block ?_ | ((first | refine Ok.skip ?_ | refine Ok.ret ?_); conv => whnf) | (refine bI ?_ ?_ <;> intro <;> (conv => whnf) <;> (try (exfalso; omega))) | fail)
 all_goals first
  | (rename_i h
     refine Or.inl ?_; (conv => whnf)
     rw [chkO_long (by omega)]
     rfl)
  | (rename_i h
     refine Or.inl ?_; (conv => whnf)
     rw [chkO_nil (by omega)]
     rfl)
  | skip
 rename_i h2 h3
 rw [chkO_of (by omega) (by omega)]
 refine Ok.loopU [0] [4, 5] 0 0 (fun (x : Nat × Int) => [.i .i64 x.2, .i .i64 (x.1 : Nat)]) (fun _ b => b) (fun _ r => r) (fun (x : Nat × Int) => x.1 <= l.length /\ 0 <= x.2 /\ x.2 <= 256 /\ chkFrom l l 0 0 = chkFrom l (l.drop x.1) x.1 x.2) (fun (x : Nat × Int) => l.length - x.1) ((0, 0)) (⟨Nat.zero_le _, by omega, by omega, rfl⟩) ?_; (conv => whnf); refine ⟨by ((conv => whnf); first | rfl | (simp [envCat, List.take_of_length_le, nrow, frow]; done) | (simp [envCat, List.take_of_length_le, nrow, frow]; rw [IntKind.wrap_i64]; omega)), ?_⟩
 rintro ⟨i, sum⟩ ⟨hi, hs0, hs1, hf⟩
 dsimp only at hi hs0 hs1 hf ⊢
 (conv => whnf)
 by_cases hil : i < l.length
 . obtain ⟨c, hc⟩ : ∃ c, l[i]? = some c := ⟨_, List.getElem?_eq_getElem hil⟩
   have hcI : l[((i : Nat) : Int).toNat]? = some c := hc
   rw [fdrop_at hc] at hf
   (try (conv => whnf)); repeat' (first | refine Ok.seq ?_ | ((first | refine Ok.region tok ?_ | refine Ok.cond ?_); conv => whnf) | refine Ok.block ?_ | ((first | refine Ok.skip ?_ | refine Ok.ret ?_ | refine ix _ (by assumption) ?_); conv => whnf) | (refine Or.inl ?_; (conv => whnf); (repeat (refine aI ?_; conv => whnf)); refine ⟨_, rname_at c.name, rfl, ?_⟩; conv => whnf) | (refine bI ?_ ?_ <;> intro <;> (conv => whnf) <;> (try (exfalso; omega))) | fail)
   all_goals first
    | (exfalso; omega)
    | (refine Or.inl ?_; (conv => whnf)
       rw [hf, chkFrom_bad (show badF (l.take i) c sum from by
        unfold badF
        first
         | exact .inl (by assumption)
         | exact .inr (.inl (by assumption))
         | exact .inr (.inr (.inl (by assumption)))
         | exact .inr (.inr (.inr (.inr (by omega)))))]
       rfl)
    | skip
   rename_i hn1 hn2 hn3 hn4 hn5
   refine Ok.loopU [0, 4, 5, 6] [8] 0 1 (fun (k : Nat) => [.i .i64 (k : Nat)]) (fun (k : Nat) (_ : List (List D)) => [frow c]) (fun _ r => r) (fun (k : Nat) => k <= i /\ ∀ (j : Nat) g, j < k -> l[j]? = some g -> g.name ≠ c.name) (fun (k : Nat) => i - k) (0) (⟨Nat.zero_le _, fun j g hj => absurd hj (by omega)⟩) ?_; (conv => whnf); refine ⟨by ((conv => whnf); first | rfl | (simp [envCat, List.take_of_length_le, nrow, frow]; done) | (simp [envCat, List.take_of_length_le, nrow, frow]; rw [IntKind.wrap_i64]; omega)), ?_⟩
   rintro k ⟨hk, hall⟩
   (conv => whnf)
   by_cases hki : k < i
   . obtain ⟨g, hg⟩ : ∃ g, l[k]? = some g := ⟨_, List.getElem?_eq_getElem (by omega)⟩
     have hgI : l[((k : Nat) : Int).toNat]? = some g := hg
     (try (conv => whnf)); repeat' (first | refine Ok.seq ?_ | ((first | refine Ok.region tok ?_ | refine Ok.region_draw tok follows (by kernel_rfl) ?_ | refine Ok.cond ?_); conv => whnf) | refine Ok.block ?_ | ((first | refine Ok.skip ?_ | refine Ok.ret ?_ | refine nI ?_ | refine ix _ (by assumption) ?_); conv => whnf) | (refine bI ?_ ?_ <;> intro <;> (conv => whnf) <;> (try (exfalso; omega))) | fail)
     all_goals first
      | (exfalso; omega)
      | (rename_i h
         refine Or.inl ?_; (conv => whnf)
         rw [hf, chkFrom_bad (.inr (.inr (.inr (.inl ⟨g, List.mem_of_getElem? (i := k) (by rw [List.getElem?_take_of_lt hki]; exact hg), h⟩))))]
         rfl)
      | (rename_i h
         refine ⟨k + 1, by omega, ⟨by omega, fun j g2 hj hg2 => ?_⟩, ?_⟩
         . by_cases hjk : j = k
           . subst hjk; rw [hg] at hg2; cases hg2; exact h
           . exact hall j g2 (by omega) hg2
         . (conv => whnf)
           rfl)
   . have hke : k = i := by omega
     subst hke
     have hno : ¬ ∃ g ∈ l.take k, g.name = c.name := by
      rintro ⟨g, hg, e⟩
      obtain ⟨j, hj⟩ := List.getElem?_of_mem hg
      have hjk : j < k := by have := (List.getElem?_eq_some_iff.1 hj).1; simp at this; omega
      rw [List.getElem?_take_of_lt hjk] at hj
      exact hall j g hjk hj e
     (try (conv => whnf)); repeat' (first | refine Ok.seq ?_ | ((first | refine Ok.region tok ?_ | refine Ok.cond ?_ | refine Ok.skip ?_ | refine Ok.exit ?_ | refine Ok.ret ?_ | refine nI ?_); conv => whnf) | (refine bI ?_ ?_ <;> intro <;> (conv => whnf) <;> (try (exfalso; omega))) | fail)
     all_goals first
      | (exfalso; omega)
      | (refine Or.inl ?_; (conv => whnf)
         rw [hf, chkFrom_bad (.inr (.inr (.inr (.inr (by omega)))))]
         rfl)
      | skip
     refine ⟨(k + 1, sum + c.bits), by dsimp only; omega, ⟨by dsimp only; omega, by dsimp only; omega, by dsimp only; omega, ?_⟩, ?_⟩
     . rw [hf]
       refine chkFrom_ok fun hb => ?_
       rcases hb with h | h | h | h | h
       . exact absurd h (by assumption)
       . exact absurd h (by assumption)
       . exact absurd h (by assumption)
       . exact hno h
       . omega
     . (conv => whnf)
       rfl
 . have hie : i = l.length := by omega
   subst hie
   rw [List.drop_length] at hf
   (try (conv => whnf)); repeat' (first | refine Ok.seq ?_ | ((first | refine Ok.region tok ?_ | refine Ok.cond ?_ | refine Ok.exit ?_ | refine Ok.ret ?_); conv => whnf) | (refine bI ?_ ?_ <;> intro <;> (conv => whnf) <;> (try (exfalso; omega))) | fail)
   all_goals first
    | (exfalso; omega)
    | (refine Or.inl ?_; (conv => whnf)
       rw [hf]
       rfl)
end Go.Proofs.YtagmibogginaaaaGreatDoor
namespace Go.Proofs.YtagmibogginaaaaGreatDoor
open Go Go.Vx
def bitC (v k : Nat) : UInt8 := if v / 2 ^ k % 2 = 1 then 49 else 48
def binT (v bits n : Nat) : Str := (List.range n).map fun i => bitC v (bits - 1 - i)
def xsT (n : Nat) : Str := List.replicate n 120
def pfxT (v bits n : Nat) : Str := binT v bits n ++ xsT (bits - n)
theorem binT_len (v bits n : Nat) : (binT v bits n).length = n := by simp [binT]
theorem xsT_len (n : Nat) : (xsT n).length = n := by simp [xsT]
theorem pfxT_len {v bits n : Nat} (h : n <= bits) : (pfxT v bits n).length = bits := by rw [pfxT, List.length_append, binT_len, xsT_len]; omega
def freeF (bits lo H : Nat) : Nat -> Nat -> Nat
 | 0, f => f
 | k + 1, f => if f < bits /\ lo % 2 ^ (f + 1) = 0 /\ lo + 2 ^ (f + 1) <= H then freeF bits lo H k (f + 1) else f
def coverF (bits H : Nat) : Nat -> Nat -> List Str
 | 0, _ => []
 | k + 1, lo => if lo < H then pfxT lo bits (bits - freeF bits lo H bits 0) :: coverF bits H k (lo + 2 ^ freeF bits lo H bits 0) else []
def halvesF (bits lo H : Nat) : Nat -> Nat -> List Str
 | 0, base => if lo <= base /\ base + 1 <= H then [pfxT base bits bits] else []
 | d + 1, base => if lo <= base /\ base + 2 ^ (d + 1) <= H then [pfxT base bits (bits - (d + 1))] else if H <= base \/ base + 2 ^ (d + 1) <= lo then [] else halvesF bits lo H d base ++ halvesF bits lo H d (base + 2 ^ d)
theorem freeF_eq {bits lo H d : Nat} (hd : d <= bits) (h1 : ∀ g, g < d -> lo % 2 ^ (g + 1) = 0 /\ lo + 2 ^ (g + 1) <= H) (h2 : ¬ (d < bits /\ lo % 2 ^ (d + 1) = 0 /\ lo + 2 ^ (d + 1) <= H)) :
    ∀ (k f : Nat), f <= d -> d - f <= k -> freeF bits lo H k f = d
 | 0, f, hf, hk => by unfold freeF; omega
 | k + 1, f, hf, hk => by
  unfold freeF
  by_cases hfd : f = d
  . subst hfd; rw [if_neg h2]
  . rw [if_pos ⟨by omega, h1 f (by omega)⟩]
    exact freeF_eq hd h1 h2 k (f + 1) (by omega) (by omega)
theorem coverF_fuel (bits H : Nat) : ∀ (k lo : Nat), H - lo <= k -> coverF bits H k lo = coverF bits H (H - lo) lo
 | 0, lo, h => by rw [show H - lo = 0 by omega]
 | k + 1, lo, h => by
  by_cases hlt : lo < H
  . obtain ⟨m, hm⟩ : ∃ m, H - lo = m + 1 := ⟨H - lo - 1, by omega⟩
    rw [hm]
    unfold coverF
    rw [if_pos hlt, if_pos hlt]
    have hp : 0 < 2 ^ freeF bits lo H bits 0 := Nat.two_pow_pos _
    rw [coverF_fuel bits H k _ (by omega), <- coverF_fuel bits H m _ (by omega)]
  . rw [show H - lo = 0 by omega]
    unfold coverF
    rw [if_neg hlt]
def coverC (bits H lo : Nat) : List Str := coverF bits H (H - lo) lo
theorem coverC_step {bits H lo : Nat} (h : lo < H) : coverC bits H lo = pfxT lo bits (bits - freeF bits lo H bits 0) :: coverC bits H (lo + 2 ^ freeF bits lo H bits 0) := by
 unfold coverC
 obtain ⟨m, hm⟩ : ∃ m, H - lo = m + 1 := ⟨H - lo - 1, by omega⟩
 rw [hm]
 conv => lhs; unfold coverF
 rw [if_pos h]
 have hp : 0 < 2 ^ freeF bits lo H bits 0 := Nat.two_pow_pos _
 rw [coverF_fuel bits H m _ (by omega)]
theorem coverC_end {bits H lo : Nat} (h : H <= lo) : coverC bits H lo = [] := by
 unfold coverC
 rw [show H - lo = 0 by omega]
 rfl
theorem mod_pow_le {x g d : Nat} (h : x % 2 ^ d = 0) (hg : g <= d) : x % 2 ^ g = 0 :=
 Nat.mod_eq_zero_of_dvd (Nat.dvd_trans (Nat.pow_dvd_pow 2 hg) (Nat.dvd_of_mod_eq_zero h))
theorem cover_halves {bits lo H : Nat} (hH : H <= 2 ^ bits) : ∀ (d base : Nat), d <= bits -> base % 2 ^ d = 0 ->
    (d = bits \/ ∃ par, (par = base \/ par + 2 ^ d = base) /\ par % 2 ^ (d + 1) = 0 /\ ¬ (lo <= par /\ par + 2 ^ (d + 1) <= H)) ->
    coverC bits H (max lo base) = halvesF bits lo H d base ++ coverC bits H (max lo (base + 2 ^ d)) := by
 have cov : ∀ (d base : Nat), d <= bits -> base % 2 ^ d = 0 -> (d = bits \/ ∃ par, (par = base \/ par + 2 ^ d = base) /\ par % 2 ^ (d + 1) = 0 /\ ¬ (lo <= par /\ par + 2 ^ (d + 1) <= H)) ->
     lo <= base -> base + 2 ^ d <= H -> coverC bits H (max lo base) = pfxT base bits (bits - d) :: coverC bits H (max lo (base + 2 ^ d)) := by
  intro d base hd hb hp h1 h2
  have hpos : 0 < 2 ^ d := Nat.two_pow_pos _
  have hfree : freeF bits base H bits 0 = d := by
   refine freeF_eq hd (fun g hg => ⟨mod_pow_le hb (by omega), ?_⟩) ?_ bits 0 (by omega) (by omega)
   . have := Nat.pow_le_pow_right (show 0 < 2 by decide) (show g + 1 <= d by omega)
     omega
   . rintro ⟨k1, k2, k3⟩
     rcases hp with rfl | ⟨par, rfl | hpar, hm, hn⟩
     . omega
     . exact hn ⟨h1, k3⟩
     . have e1 : 2 ^ (d + 1) = 2 ^ d + 2 ^ d := by rw [Nat.pow_succ]; omega
       obtain ⟨q, hq⟩ := Nat.dvd_of_mod_eq_zero hm
       rw [<- hpar, hq, Nat.mul_add_mod, Nat.mod_eq_of_lt (by omega)] at k2
       omega
  rw [Nat.max_eq_right h1, Nat.max_eq_right (by omega), coverC_step (by omega), hfree]
 intro d
 induction d with
 | zero =>
  intro base hd hb hp
  unfold halvesF
  split
  . rename_i h
    rw [cov 0 base hd hb hp h.1 (by simpa using h.2)]
    simp
  . rename_i h
    by_cases h1 : H <= base
    . rw [coverC_end (show H <= max lo base by omega), coverC_end (show H <= max lo (base + 2 ^ 0) by omega)]
      rfl
    . have : max lo base = max lo (base + 2 ^ 0) := by simp; omega
      rw [this]
      rfl
 | succ d ih =>
  intro base hd hb hp
  have e1 : 2 ^ (d + 1) = 2 ^ d + 2 ^ d := by rw [Nat.pow_succ]; omega
  unfold halvesF
  split
  . rename_i h
    rw [cov (d + 1) base hd hb hp h.1 h.2]
    rfl
  . rename_i h
    split
    . rename_i h1
      rcases h1 with h1 | h1
      . rw [coverC_end (show H <= max lo base by omega), coverC_end (show H <= max lo (base + 2 ^ (d + 1)) by omega)]
        rfl
      . rw [show max lo base = max lo (base + 2 ^ (d + 1)) by omega]
        rfl
    . rename_i h1
      rw [ih base (by omega) (mod_pow_le hb (by omega)) (.inr ⟨base, .inl rfl, hb, h⟩)]
      have hb2 : (base + 2 ^ d) % 2 ^ d = 0 := by rw [Nat.add_mod_right]; exact mod_pow_le hb (by omega)
      rw [ih (base + 2 ^ d) (by omega) hb2 (.inr ⟨base, .inr rfl, hb, h⟩), <- List.append_assoc]
      rw [show base + 2 ^ d + 2 ^ d = base + 2 ^ (d + 1) by omega]
theorem cover_is_halves {bits lo H : Nat} (hH : H <= 2 ^ bits) : coverC bits H lo = halvesF bits lo H bits 0 := by
 have := cover_halves (lo := lo) hH bits 0 (Nat.le_refl _) (by simp) (.inl rfl)
 rw [coverC_end (show H <= max lo (0 + 2 ^ bits) by omega), List.append_nil, Nat.max_eq_left (Nat.zero_le _)] at this
 exact this
theorem halves_none {bits lo H : Nat} : ∀ (d base : Nat), H <= base \/ base + 2 ^ d <= lo -> halvesF bits lo H d base = []
 | 0, base, h => by unfold halvesF; rw [if_neg (by simp at h; omega)]
 | d + 1, base, h => by
  unfold halvesF
  have hp : 0 < 2 ^ (d + 1) := Nat.two_pow_pos _
  rw [if_neg (by omega), if_pos h]
theorem halves_full {bits lo H : Nat} : ∀ (d base : Nat), lo <= base -> base + 2 ^ d <= H -> (halvesF bits lo H d base).length = 1
 | 0, base, h1, h2 => by unfold halvesF; rw [if_pos ⟨h1, by simpa using h2⟩]; rfl
 | d + 1, base, h1, h2 => by unfold halvesF; rw [if_pos ⟨h1, h2⟩]; rfl
theorem halves_side {bits lo H : Nat} : ∀ (d base : Nat), lo <= base \/ base + 2 ^ d <= H -> (halvesF bits lo H d base).length <= d + 1
 | 0, base, h => by unfold halvesF; split <;> simp
 | d + 1, base, h => by
  have e1 : 2 ^ (d + 1) = 2 ^ d + 2 ^ d := by rw [Nat.pow_succ]; omega
  unfold halvesF
  split
  . simp
  . rename_i hc
    split
    . simp
    . rename_i hn
      rw [List.length_append]
      rcases h with h | h
      . by_cases hb : base + 2 ^ d <= H
        . have := halves_full (bits := bits) d base h hb
          have := halves_side (bits := bits) (lo := lo) (H := H) d (base + 2 ^ d) (.inl (by omega))
          omega
        . rw [halves_none d (base + 2 ^ d) (.inl (by omega))]
          have := halves_side (bits := bits) (lo := lo) (H := H) d base (.inl h)
          simp; omega
      . by_cases hb : lo <= base + 2 ^ d
        . have := halves_full (bits := bits) (H := H) d (base + 2 ^ d) hb (by omega)
          have := halves_side (bits := bits) (lo := lo) (H := H) d base (.inr (by omega))
          omega
        . rw [halves_none d base (.inr (by omega))]
          have := halves_side (bits := bits) (lo := lo) (H := H) d (base + 2 ^ d) (.inr (by omega))
          simp; omega
theorem halves_len {bits lo H : Nat} : ∀ (d base : Nat), (halvesF bits lo H d base).length <= 2 * d + 2
 | 0, base => by unfold halvesF; split <;> simp
 | d + 1, base => by
  have e1 : 2 ^ (d + 1) = 2 ^ d + 2 ^ d := by rw [Nat.pow_succ]; omega
  unfold halvesF
  split
  . simp
  . rename_i hc
    split
    . simp
    . rename_i hn
      rw [List.length_append]
      by_cases h1 : base + 2 ^ d <= H
      . by_cases h2 : lo <= base + 2 ^ d
        . have := halves_side (bits := bits) (lo := lo) (H := H) d base (.inr h1)
          have := halves_side (bits := bits) (lo := lo) (H := H) d (base + 2 ^ d) (.inl h2)
          omega
        . rw [halves_none d base (.inr (by omega))]
          have := halves_len (bits := bits) (lo := lo) (H := H) d (base + 2 ^ d)
          simp; omega
      . rw [halves_none d (base + 2 ^ d) (.inl (by omega))]
        have := halves_len (bits := bits) (lo := lo) (H := H) d base
        simp; omega
theorem coverC_len {bits lo H : Nat} (hH : H <= 2 ^ bits) : (coverC bits H lo).length <= 2 * bits + 2 := by
 rw [cover_is_halves hH]; exact halves_len _ _
end Go.Proofs.YtagmibogginaaaaGreatDoor
namespace Go.Proofs.YtagmibogginaaaaGreatDoor
open Go Go.Vx
def tw (b : Nat) : Nat := 2 ^ b
theorem tw_pos (b : Nat) : 0 < tw b := Nat.two_pow_pos b
theorem tw62 {k : Nat} (h : k <= 62) : tw k <= 4611686018427387904 := Nat.pow_le_pow_right (show 0 < 2 by decide) h
theorem tw_mono {j k : Nat} (h : j <= k) : tw j <= tw k := Nat.pow_le_pow_right (show 0 < 2 by decide) h
theorem tw_succ (k : Nat) : tw (k + 1) = tw k + tw k := by unfold tw; rw [Nat.pow_succ]; omega
theorem wrap_nat {x : Nat} (h : x < 9223372036854775808) : IntKind.i64.wrap (x : Int) = (x : Int) := by rw [IntKind.wrap_i64]; omega
theorem shl_i {p : Int -> Prop} {b : Int} {k : Nat} (hb : b = (k : Int) /\ k <= 62) (h : p (tw k : Int)) : ∃ n, n = IntKind.i64.wrap (1 * 2 ^ (min b.toNat IntKind.i64.bits)) /\ p n := by
 obtain ⟨rfl, hk⟩ := hb
 refine ⟨_, ?_, h⟩
 have e1 : min ((k : Int).toNat) IntKind.i64.bits = k := by show min k 64 = k; omega
 have e2 : (1 * 2 ^ k : Int) = (tw k : Int) := by unfold tw; simp
 rw [e1, e2, wrap_nat (by have := tw62 hk; omega)]
theorem shr_i {p : Int -> Prop} {a b : Int} {v k : Nat} (ha : a = (v : Int)) (hb : b = (k : Int) /\ k <= 62) (h : p ((v / tw k : Nat) : Int)) : ∃ n, n = a.fdiv (2 ^ (min b.toNat IntKind.i64.bits)) /\ p n := by
 obtain ⟨rfl, hk⟩ := hb
 subst ha
 refine ⟨_, ?_, h⟩
 have e1 : min ((k : Int).toNat) IntKind.i64.bits = k := by show min k 64 = k; omega
 rw [e1, Int.fdiv_eq_ediv_of_nonneg _ (by exact Int.pow_nonneg (by decide))]
 unfold tw
 simp
theorem and_i {p : Int -> Prop} {a c : Int} {v k : Nat} (ha : a = (v : Int) /\ v < 9223372036854775808) (hc : c = (tw k : Int) - 1 /\ k <= 62) (h : p ((v % tw k : Nat) : Int)) : ∃ n, n = IntKind.i64.wrap ((BitVec.ofInt IntKind.i64.bits a &&& BitVec.ofInt IntKind.i64.bits c).toNat : Int) /\ p n := by
 obtain ⟨rfl, hv⟩ := ha
 obtain ⟨rfl, hk⟩ := hc
 refine ⟨_, ?_, h⟩
 have h2 := tw62 hk
 have hp := tw_pos k
 have e1 : BitVec.ofInt IntKind.i64.bits (v : Int) = BitVec.ofNat 64 v := BitVec.ofInt_natCast ..
 have e2 : BitVec.ofInt IntKind.i64.bits ((tw k : Int) - 1) = BitVec.ofNat 64 (tw k - 1) := by
  rw [show (tw k : Int) - 1 = ((tw k - 1 : Nat) : Int) by omega]
  exact BitVec.ofInt_natCast ..
 have e3 : (BitVec.ofNat 64 v &&& BitVec.ofNat 64 (tw k - 1)).toNat = v % tw k := by
  rw [BitVec.toNat_and, BitVec.toNat_ofNat, BitVec.toNat_ofNat, Nat.mod_eq_of_lt (show v < 2 ^ 64 by omega), Nat.mod_eq_of_lt (show tw k - 1 < 2 ^ 64 by omega)]
  exact Nat.and_two_pow_sub_one_eq_mod v k
 rw [e1, e2]
 have key : ∀ x : Nat, x = v % tw k -> ((v % tw k : Nat) : Int) = IntKind.i64.wrap (x : Int) := by
  rintro x rfl
  rw [wrap_nat (by have := Nat.mod_lt v hp; omega)]
 exact key _ e3
theorem and_1 {p : Int -> Prop} {a : Int} {v : Nat} (ha : a = (v : Int) /\ v < 9223372036854775808) (h : p ((v % 2 : Nat) : Int)) : ∃ n, n = IntKind.i64.wrap ((BitVec.ofInt IntKind.i64.bits a &&& BitVec.ofInt IntKind.i64.bits 1).toNat : Int) /\ p n :=
 and_i (k := 1) ha ⟨rfl, by decide⟩ h
theorem and_1' {p : Int -> Prop} {a c : Int} {v : Nat} (ha : a = (v : Int) /\ v < 9223372036854775808) (hc : c = 1) (h : p ((v % 2 : Nat) : Int)) : ∃ n, n = IntKind.i64.wrap ((BitVec.ofInt IntKind.i64.bits a &&& BitVec.ofInt IntKind.i64.bits c).toNat : Int) /\ p n := by
 subst hc; exact and_1 ha h
theorem num_u8 {x : Int} {p : Int -> Prop} (h1 : 0 <= x) (h2 : x <= 255) (h : p x) : ∃ n, n = IntKind.u8.wrap x /\ p n := ⟨x, by rw [IntKind.wrap_u8]; omega, h⟩
theorem bitC_nat (v k : Nat) : ((bitC v k).toNat : Int) = 48 + ((v / 2 ^ k % 2 : Nat) : Int) := by
 unfold bitC
 split
 . rename_i h; rw [h]; rfl
 . rename_i h
   have : v / 2 ^ k % 2 = 0 := by omega
   rw [this]; rfl
set_option maxHeartbeats 4000000 in
theorem top_at (b : Nat) (hb : b <= 62) : FSpec Tryz.prog T 92 [.i .i64 (b : Nat)] (fun d _ => d = .i .i64 ((tw b : Int) - 1)) := by
 have h2 := tw62 hb
 have hk : ((b : Nat) : Int) = (b : Int) /\ b <= 62 := ⟨rfl, hb⟩
 refine FSpec.of_ok tok Tryz.func92 rfl Tryz.call92 (by simp) ?_
 (try (conv => whnf)); repeat' (first | ((with_reducible_and_instances refine shl_i (by assumption) ?_); conv => whnf) | refine Ok.seq ?_ | ((first | refine Ok.region tok ?_ | refine Ok.ret ?_ | refine nI ?_ | refine aJ ?_); conv => whnf) | fail)
 refine Or.inl ?_; (conv => whnf)
 rfl
set_option maxHeartbeats 4000000 in
theorem rtop_at (b : Nat) (hb : b <= 62) : FSpec Tryz.prog T 75 [.i .i64 (b : Nat)] (fun d _ => d = .i .i64 ((tw b : Int) - 1)) := by
 have h2 := tw62 hb
 have hk : ((b : Nat) : Int) = (b : Int) /\ b <= 62 := ⟨rfl, hb⟩
 refine FSpec.of_ok tok Tryz.func75 rfl Tryz.call75 (by simp) ?_
 (try (conv => whnf)); repeat' (first | ((with_reducible_and_instances refine shl_i (by assumption) ?_); conv => whnf) | refine Ok.seq ?_ | ((first | refine Ok.region tok ?_ | refine Ok.ret ?_ | refine nI ?_ | refine aJ ?_); conv => whnf) | fail)
 refine Or.inl ?_; (conv => whnf)
 rfl
end Go.Proofs.YtagmibogginaaaaGreatDoor
namespace Go.Proofs.YtagmibogginaaaaGreatDoor
open Go Go.Vx
def LayF (l : List Fd) : Prop := ∀ f ∈ l, 1 <= f.bits /\ f.bits <= 32
def wid (l : List Fd) : Nat := (l.map fun f => f.bits.toNat).sum
theorem wid_snoc {l : List Fd} {i : Nat} {c : Fd} (h : l[i]? = some c) : wid (l.take (i + 1)) = wid (l.take i) + c.bits.toNat := by
 unfold wid; rw [take_snoc h, List.map_append, List.sum_append]; simp
theorem wid_le {l : List Fd} (h : LayF l) : wid l <= 32 * l.length := by
 induction l with
 | nil => simp [wid]
 | cons f l ih =>
  have h1 := ih fun x hx => h x (by simp [hx])
  have h2 := h f (by simp)
  simp only [wid, List.map_cons, List.sum_cons, List.length_cons] at h1 ⊢
  omega
set_option maxHeartbeats 4000000 in
theorem width_at (l : List Fd) (r : List (List D)) (hl : l.length <= 1000) (hf : LayF l) : FSpec Tryz.prog T 49 [.lst 34 (l.map frow) r] (fun d _ => d = .i .i64 (wid l : Nat)) := by
 have h1 : (l.map frow).length = l.length := by simp
 have hw := wid_le hf
 refine FSpec.of_ok tok Tryz.func49 rfl Tryz.call49 (by simp) ?_
 (try (conv => whnf)); repeat' (first | refine Ok.seq ?_ | (refine Ok.region tok ?_; conv => whnf) | refine Ok.block ?_ | fail)
 refine Ok.loopU [6, 7] [3, 8] 0 0 (fun (i : Nat) => [.i .i64 (wid (l.take i) : Nat), .i .i64 (i : Nat)]) (fun _ b => b) (fun _ r => r) (fun (i : Nat) => i <= l.length) (fun (i : Nat) => l.length - i) (0) (Nat.zero_le _) ?_; (conv => whnf); refine ⟨by ((conv => whnf); first | rfl | (simp [envCat, List.take_of_length_le, nrow, frow, bcell]; done) | (simp [envCat, List.take_of_length_le, nrow, frow, bcell]; rw [IntKind.wrap_i64]; omega)), ?_⟩
 intro i hi
 (conv => whnf)
 by_cases hil : i < l.length
 . obtain ⟨c, hc⟩ : ∃ c, l[i]? = some c := ⟨_, List.getElem?_eq_getElem hil⟩
   have hcI : l[((i : Nat) : Int).toNat]? = some c := hc
   have hcb := hf c (List.mem_of_getElem? hc)
   have hsn := wid_snoc hc
   have hwt := wid_le (l := l.take i) fun x hx => hf x (List.mem_of_mem_take hx)
   have hti : (l.take i).length = i := by simp; omega
   (try (conv => whnf)); repeat' (first | refine Ok.seq ?_ | ((first | refine Ok.region tok ?_ | refine Ok.cond ?_); conv => whnf) | refine Ok.block ?_ | ((first | refine Ok.skip ?_ | refine nI ?_ | refine ix _ (by assumption) ?_); conv => whnf) | (refine bI ?_ ?_ <;> intro <;> (conv => whnf) <;> (try (exfalso; omega))) | fail)
   all_goals first
    | (exfalso; omega)
    | skip
   refine ⟨i + 1, by omega, by omega, ?_⟩
   rw [hsn, show ((wid (l.take i) + c.bits.toNat : Nat) : Int) = (wid (l.take i) : Int) + c.bits by omega]
   (conv => whnf)
   rfl
 . have hie : i = l.length := by omega
   subst hie
   rw [List.take_length]
   (try (conv => whnf)); repeat' (first | refine Ok.seq ?_ | ((first | refine Ok.region tok ?_ | refine Ok.cond ?_ | refine Ok.exit ?_ | refine Ok.ret ?_); conv => whnf) | (refine bI ?_ ?_ <;> intro <;> (conv => whnf) <;> (try (exfalso; omega))) | fail)
   all_goals first
    | (exfalso; omega)
    | (refine Or.inl ?_; (conv => whnf)
       rfl)
set_option maxHeartbeats 4000000 in
theorem rwidth_at (l : List Fd) (r : List (List D)) (hl : l.length <= 1000) (hf : LayF l) : FSpec Tryz.prog T 46 [.lst 34 (l.map frow) r] (fun d _ => d = .i .i64 (wid l : Nat)) := by
 have h1 : (l.map frow).length = l.length := by simp
 have hw := wid_le hf
 refine FSpec.of_ok tok Tryz.func46 rfl Tryz.call46 (by simp) ?_
 (try (conv => whnf)); repeat' (first | refine Ok.seq ?_ | (refine Ok.region tok ?_; conv => whnf) | refine Ok.block ?_ | fail)
 refine Ok.loopU [0] [3, 4] 0 0 (fun (i : Nat) => [.i .i64 (wid (l.take i) : Nat), .i .i64 (i : Nat)]) (fun _ b => b) (fun _ r => r) (fun (i : Nat) => i <= l.length) (fun (i : Nat) => l.length - i) (0) (Nat.zero_le _) ?_; (conv => whnf); refine ⟨by ((conv => whnf); first | rfl | (simp [envCat, List.take_of_length_le, nrow, frow, bcell]; done) | (simp [envCat, List.take_of_length_le, nrow, frow, bcell]; rw [IntKind.wrap_i64]; omega)), ?_⟩
 intro i hi
 (conv => whnf)
 by_cases hil : i < l.length
 . obtain ⟨c, hc⟩ : ∃ c, l[i]? = some c := ⟨_, List.getElem?_eq_getElem hil⟩
   have hcI : l[((i : Nat) : Int).toNat]? = some c := hc
   have hcb := hf c (List.mem_of_getElem? hc)
   have hsn := wid_snoc hc
   have hwt := wid_le (l := l.take i) fun x hx => hf x (List.mem_of_mem_take hx)
   have hti : (l.take i).length = i := by simp; omega
   (try (conv => whnf)); repeat' (first | refine Ok.seq ?_ | ((first | refine Ok.region tok ?_ | refine Ok.cond ?_); conv => whnf) | refine Ok.block ?_ | ((first | refine Ok.skip ?_ | refine nI ?_ | refine ix _ (by assumption) ?_); conv => whnf) | (refine bI ?_ ?_ <;> intro <;> (conv => whnf) <;> (try (exfalso; omega))) | fail)
   all_goals first
    | (exfalso; omega)
    | skip
   refine ⟨i + 1, by omega, by omega, ?_⟩
   rw [hsn, show ((wid (l.take i) + c.bits.toNat : Nat) : Int) = (wid (l.take i) : Int) + c.bits by omega]
   (conv => whnf)
   rfl
 . have hie : i = l.length := by omega
   subst hie
   rw [List.take_length]
   (try (conv => whnf)); repeat' (first | refine Ok.seq ?_ | ((first | refine Ok.region tok ?_ | refine Ok.cond ?_ | refine Ok.exit ?_ | refine Ok.ret ?_); conv => whnf) | (refine bI ?_ ?_ <;> intro <;> (conv => whnf) <;> (try (exfalso; omega))) | fail)
   all_goals first
    | (exfalso; omega)
    | (refine Or.inl ?_; (conv => whnf)
       rfl)
set_option maxHeartbeats 4000000 in
theorem ewidth_at (l : List Fd) (r : List (List D)) (hl : l.length <= 1000) (hf : LayF l) : FSpec Tryz.prog T 27 [.lst 34 (l.map frow) r] (fun d _ => d = .i .i64 (wid l : Nat)) := by
 have h1 : (l.map frow).length = l.length := by simp
 have hw := wid_le hf
 refine FSpec.of_ok tok Tryz.func27 rfl Tryz.call27 (by simp) ?_
 (try (conv => whnf)); repeat' (first | refine Ok.seq ?_ | (refine Ok.region tok ?_; conv => whnf) | refine Ok.block ?_ | fail)
 refine Ok.loopU [0] [3, 4] 0 0 (fun (i : Nat) => [.i .i64 (wid (l.take i) : Nat), .i .i64 (i : Nat)]) (fun _ b => b) (fun _ r => r) (fun (i : Nat) => i <= l.length) (fun (i : Nat) => l.length - i) (0) (Nat.zero_le _) ?_; (conv => whnf); refine ⟨by ((conv => whnf); first | rfl | (simp [envCat, List.take_of_length_le, nrow, frow, bcell]; done) | (simp [envCat, List.take_of_length_le, nrow, frow, bcell]; rw [IntKind.wrap_i64]; omega)), ?_⟩
 intro i hi
 (conv => whnf)
 by_cases hil : i < l.length
 . obtain ⟨c, hc⟩ : ∃ c, l[i]? = some c := ⟨_, List.getElem?_eq_getElem hil⟩
   have hcI : l[((i : Nat) : Int).toNat]? = some c := hc
   have hcb := hf c (List.mem_of_getElem? hc)
   have hsn := wid_snoc hc
   have hwt := wid_le (l := l.take i) fun x hx => hf x (List.mem_of_mem_take hx)
   have hti : (l.take i).length = i := by simp; omega
   (try (conv => whnf)); repeat' (first | refine Ok.seq ?_ | ((first | refine Ok.region tok ?_ | refine Ok.cond ?_); conv => whnf) | refine Ok.block ?_ | ((first | refine Ok.skip ?_ | refine nI ?_ | refine ix _ (by assumption) ?_); conv => whnf) | (refine bI ?_ ?_ <;> intro <;> (conv => whnf) <;> (try (exfalso; omega))) | fail)
   all_goals first
    | (exfalso; omega)
    | skip
   refine ⟨i + 1, by omega, by omega, ?_⟩
   rw [hsn, show ((wid (l.take i) + c.bits.toNat : Nat) : Int) = (wid (l.take i) : Int) + c.bits by omega]
   (conv => whnf)
   rfl
 . have hie : i = l.length := by omega
   subst hie
   rw [List.take_length]
   (try (conv => whnf)); repeat' (first | refine Ok.seq ?_ | ((first | refine Ok.region tok ?_ | refine Ok.cond ?_ | refine Ok.exit ?_ | refine Ok.ret ?_); conv => whnf) | (refine bI ?_ ?_ <;> intro <;> (conv => whnf) <;> (try (exfalso; omega))) | fail)
   all_goals first
    | (exfalso; omega)
    | (refine Or.inl ?_; (conv => whnf)
       rfl)
theorem xsT_succ (i : Nat) : (xsT (i + 1)).map bcell = (xsT i).map bcell ++ [[.i .u8 120]] := by
 unfold xsT
 rw [List.replicate_succ', List.map_append]
 rfl
set_option maxHeartbeats 4000000 in
theorem xs_at (n : Nat) (hn : n <= 100000) : FSpec Tryz.prog T 48 [.i .i64 (n : Nat)] (fun d _ => d = .s (xsT n)) := by
 refine FSpec.of_ok tok Tryz.func48 rfl Tryz.call48 (by simp) ?_
 (try (conv => whnf)); repeat' (first | refine Ok.seq ?_ | (refine Ok.region tok ?_; conv => whnf) | refine Ok.block ?_ | fail)
 refine Ok.ghost 3 5 rfl ?_
 (conv => whnf)
 refine Ok.loopU [0] [3, 4] 1 0 (fun (i : Nat) => [.own 0 i, .i .i64 (i : Nat)]) (fun _ b => b) (fun (i : Nat) (_ : Vx.Rows) => [some (5, (xsT i).map bcell)]) (fun (i : Nat) => i <= n) (fun (i : Nat) => n - i) (0) (Nat.zero_le _) ?_; (conv => whnf); refine ⟨by ((conv => whnf); first | rfl | (simp [envCat, List.take_of_length_le, nrow, frow, bcell]; done) | (simp [envCat, List.take_of_length_le, nrow, frow, bcell]; rw [IntKind.wrap_i64]; omega)), ?_⟩
 intro i hi
 have hlm : ((xsT i).map bcell).length = i := by rw [List.length_map, xsT_len]
 have hll := xsT_len i
 (conv => whnf)
 by_cases hil : i < n
 . have hsn := xsT_succ i
   (try (conv => whnf)); repeat' (first | refine Ok.seq ?_ | ((first | refine Ok.region tok ?_ | refine Ok.cond ?_); conv => whnf) | refine Ok.block ?_ | ((first | refine Ok.skip ?_ | refine nI ?_ | refine Alt2.l (aI ?_) | refine ⟨_, .inl ⟨rfl, rfl⟩, ?_⟩ | refine ⟨_, _, rfl, rfl, ?_⟩); conv => whnf) | (refine bI ?_ ?_ <;> intro <;> (conv => whnf) <;> (try (exfalso; omega))) | (refine aJ ?_; conv => whnf) | fail)
   all_goals first
    | (exfalso; omega)
    | skip
   refine ⟨i + 1, by omega, by omega, ?_⟩
   rw [hsn]
   (conv => whnf)
   simp [envCat, xsT_len]
 . have hie : i = n := by omega
   subst hie
   (try (conv => whnf)); repeat' (first | (refine ⟨xsT i, List.take_of_length_le (by omega), ?_⟩; conv => whnf) | refine Ok.seq ?_ | ((first | refine Ok.region tok ?_ | refine Ok.cond ?_ | refine Ok.exit ?_ | refine Ok.ret ?_); conv => whnf) | (refine bI ?_ ?_ <;> intro <;> (conv => whnf) <;> (try (exfalso; omega))) | (refine aJ ?_; conv => whnf) | fail)
   all_goals first
    | (exfalso; omega)
    | (refine Or.inl ?_; (conv => whnf)
       rfl)
theorem binT_succ (v bits i : Nat) : (binT v bits (i + 1)).map bcell = (binT v bits i).map bcell ++ [bcell (bitC v (bits - 1 - i))] := by
 unfold binT
 rw [List.range_succ, List.map_append, List.map_append]
 rfl
def fillT (v bits n i : Nat) : Str := binT v bits i ++ List.replicate (n - i) 0
theorem fillT_len {v bits n i : Nat} (h : i <= n) : (fillT v bits n i).length = n := by simp [fillT, binT_len]; omega
theorem fillT_set {v bits n i : Nat} (h : i < n) : ((fillT v bits n i).map bcell).set i (bcell (bitC v (bits - 1 - i))) = (fillT v bits n (i + 1)).map bcell := by
 unfold fillT
 obtain ⟨m, hm⟩ : ∃ m, n - i = m + 1 := ⟨n - i - 1, by omega⟩
 rw [hm, show n - (i + 1) = m by omega, List.replicate_succ, List.map_append, List.map_append, binT_succ, List.set_append_right _ _ (by simp [binT_len])]
 simp [binT_len]
theorem getElem_bcell {l : Str} {i : Nat} {b : UInt8} (h : l[i]? = some b) : (l.map bcell)[i]? = some (bcell b) := by simp [h]
theorem bits_pos {v k : Nat} (hv : v < 9223372036854775808) : v / tw k < 9223372036854775808 := Nat.lt_of_le_of_lt (Nat.div_le_self _ _) hv
theorem mod2 (v k : Nat) : v / tw k % 2 <= 1 := by omega
set_option maxHeartbeats 4000000 in
theorem binary_at (v bits n : Nat) (hv : v < 9223372036854775808) (hb : bits <= 62) (hn : n <= bits) : FSpec Tryz.prog T 127 [.i .i64 (v : Nat), .i .i64 (bits : Nat), .i .i64 (n : Nat)] (fun d _ => d = .s (binT v bits n)) := by
 refine FSpec.of_ok tok Tryz.func127 rfl Tryz.call127 (by simp) ?_
 (try (conv => whnf)); repeat' (first | refine Ok.seq ?_ | (refine Ok.region tok ?_; conv => whnf) | refine Ok.block ?_ | ((first | refine ⟨_, _, rfl, rfl, ?_⟩ | refine aJ ?_ | refine ⟨_, rfl, ?_⟩); conv => whnf) | fail)
 rw [show List.replicate n [D.i .u8 0] = (fillT v bits n 0).map bcell by simp [fillT, binT, bcell]]
 refine Ok.loopU [0, 1, 7, 12] [13] 1 0 (fun (i : Nat) => [.i .i64 (i : Nat)]) (fun _ b => b) (fun (i : Nat) (_ : Vx.Rows) => [some (5, (fillT v bits n i).map bcell)]) (fun (i : Nat) => i <= n) (fun (i : Nat) => n - i) (0) (Nat.zero_le _) ?_; (conv => whnf); refine ⟨by ((conv => whnf); first | rfl | (simp [envCat, List.take_of_length_le, nrow, frow, bcell]; done) | (simp [envCat, List.take_of_length_le, nrow, frow, bcell]; rw [IntKind.wrap_i64]; omega)), ?_⟩
 intro i hi
 have hll := fillT_len (v := v) (bits := bits) hi
 have hlm : ((fillT v bits n i).map bcell).length = n := by rw [List.length_map, hll]
 (conv => whnf)
 by_cases hil : i < n
 . have hfs := fillT_set (v := v) (bits := bits) hil
   have hfa : (fillT v bits n i)[i]? = some 0 := by
    unfold fillT
    rw [List.getElem?_append_right (by rw [binT_len]; exact Nat.le_refl _), binT_len, Nat.sub_self, List.getElem?_replicate, if_pos (by omega)]
   have hsh : ((bits : Int) - 1 - (i : Int)) = ((bits - 1 - i : Nat) : Int) /\ bits - 1 - i <= 62 := by omega
   have hm2 := mod2 v (bits - 1 - i)
   have hbc := bitC_nat v (bits - 1 - i)
   (try (conv => whnf)); repeat' (first | ((first | with_reducible_and_instances refine shr_i rfl (by assumption) ?_ | refine and_1' ⟨rfl, bits_pos hv⟩ rfl ?_ | with_reducible_and_instances refine num_u8 (by omega) (by omega) ?_); conv => whnf) | refine Ok.seq ?_ | ((first | refine Ok.region tok ?_ | refine Ok.cond ?_); conv => whnf) | refine Ok.block ?_ | ((first | refine Ok.skip ?_ | refine nI ?_); conv => whnf) | (refine bI ?_ ?_ <;> intro <;> (conv => whnf) <;> (try (exfalso; omega))) | (refine aJ ?_; conv => whnf) | fail)
   all_goals first
    | (exfalso; omega)
    | skip
   refine ⟨_, getElem_bcell hfa, by simp [bcell], _, rfl, ?_⟩
   (conv => whnf)
   (try (conv => whnf)); repeat' (first | ((first | refine Ok.region tok ?_ | refine nI ?_); conv => whnf) | fail)
   refine ⟨i + 1, by omega, by omega, ?_⟩
   rw [<- hfs, show bcell (bitC v (bits - 1 - i)) = [.i .u8 (48 + ((v / tw (bits - 1 - i) % 2 : Nat) : Int))] by unfold bcell; rw [hbc]; rfl]
   (conv => whnf)
   rfl
 . have hie : i = n := by omega
   subst hie
   have hfe : fillT v bits i i = binT v bits i := by simp [fillT]
   (try (conv => whnf)); repeat' (first | (refine ⟨binT v bits i, by rw [List.take_of_length_le (by omega), hfe], ?_⟩; conv => whnf) | refine Ok.seq ?_ | ((first | refine Ok.region tok ?_ | refine Ok.cond ?_ | refine Ok.exit ?_ | refine Ok.ret ?_); conv => whnf) | (refine bI ?_ ?_ <;> intro <;> (conv => whnf) <;> (try (exfalso; omega))) | (refine aJ ?_; conv => whnf) | fail)
   all_goals first
    | (exfalso; omega)
    | (refine Or.inl ?_; (conv => whnf)
       rfl)
set_option maxHeartbeats 4000000 in
theorem digits_at (v b : Nat) (hv : v < 9223372036854775808) (hb : b <= 62) : FSpec Tryz.prog T 102 [.i .i64 (v : Nat), .i .i64 (b : Nat)] (fun d _ => d = .s (binT v b b)) := by
 refine FSpec.of_ok tok Tryz.func102 rfl Tryz.call102 (by simp) ?_
 (try (conv => whnf)); repeat' (first | refine Ok.seq ?_ | (refine Ok.region tok ?_; conv => whnf) | refine Ok.block ?_ | (refine nI ?_; conv => whnf) | fail)
 refine Ok.ghost 5 5 rfl ?_
 (conv => whnf)
 refine Ok.loopU [0] [5, 6] 1 0 (fun (x : Int × Nat) => [.own 0 x.2, .i .i64 x.1]) (fun _ b => b) (fun (x : Int × Nat) (_ : Vx.Rows) => [some (5, (binT v b x.2).map bcell)]) (fun (x : Int × Nat) => x.2 <= b /\ x.1 = (b : Int) - 1 - (x.2 : Nat)) (fun (x : Int × Nat) => b - x.2) (((b : Int) - 1, 0)) (⟨Nat.zero_le _, by simp⟩) ?_; (conv => whnf); refine ⟨by ((conv => whnf); first | rfl | (simp [envCat, List.take_of_length_le, nrow, frow, bcell]; done) | (simp [envCat, List.take_of_length_le, nrow, frow, bcell]; rw [IntKind.wrap_i64]; omega)), ?_⟩
 rintro ⟨q, i⟩ ⟨hi, hq⟩
 dsimp only at hi hq ⊢
 have hll := binT_len v b i
 have hlm : ((binT v b i).map bcell).length = i := by rw [List.length_map, hll]
 (conv => whnf)
 by_cases hil : i < b
 . have hsn := binT_succ v b i
   have hsh : q = ((b - 1 - i : Nat) : Int) /\ b - 1 - i <= 62 := by omega
   have hm2 := mod2 v (b - 1 - i)
   have hbc : bitC v (b - 1 - i) = if v / tw (b - 1 - i) % 2 = 1 then 49 else 48 := rfl
   (try (conv => whnf)); repeat' (first | ((first | with_reducible_and_instances refine shr_i rfl (by assumption) ?_ | refine and_1' ⟨rfl, bits_pos hv⟩ rfl ?_); conv => whnf) | refine Ok.seq ?_ | ((first | refine Ok.region tok ?_ | refine Ok.cond ?_); conv => whnf) | refine Ok.block ?_ | ((first | refine Ok.skip ?_ | refine nI ?_ | refine Alt2.l (aI ?_) | refine ⟨_, .inl ⟨rfl, rfl⟩, ?_⟩ | refine ⟨_, _, rfl, rfl, ?_⟩); conv => whnf) | (refine bI ?_ ?_ <;> intro <;> (conv => whnf) <;> (try (exfalso; omega))) | (refine aJ ?_; conv => whnf) | fail)
   all_goals first
    | (exfalso; omega)
    | skip
   . rename_i h
     rw [if_pos (by omega)] at hbc
     refine ⟨(q - 1, i + 1), by dsimp only; omega, ⟨by dsimp only; omega, by dsimp only; omega⟩, ?_⟩
     rw [hsn, hbc]
     (conv => whnf)
     simp [envCat, bcell]
     omega
   . rename_i h
     rw [if_neg (by omega)] at hbc
     refine ⟨(q - 1, i + 1), by dsimp only; omega, ⟨by dsimp only; omega, by dsimp only; omega⟩, ?_⟩
     rw [hsn, hbc]
     (conv => whnf)
     simp [envCat, bcell]
     omega
 . have hie : i = b := by omega
   subst hie
   (try (conv => whnf)); repeat' (first | (refine ⟨binT v i i, List.take_of_length_le (by omega), ?_⟩; conv => whnf) | refine Ok.seq ?_ | ((first | refine Ok.region tok ?_ | refine Ok.cond ?_ | refine Ok.exit ?_ | refine Ok.ret ?_); conv => whnf) | (refine bI ?_ ?_ <;> intro <;> (conv => whnf) <;> (try (exfalso; omega))) | (refine aJ ?_; conv => whnf) | fail)
   all_goals first
    | (exfalso; omega)
    | (refine Or.inl ?_; (conv => whnf)
       rfl)
end Go.Proofs.YtagmibogginaaaaGreatDoor
namespace Go.Proofs.YtagmibogginaaaaGreatDoor
open Go Go.Vx Go.Shelf
theorem bExtraR : Builder.Extra Tryz.prog Tryz.vxRep_ren where
 sizeBuilder := by kernel_rfl
 liesBuilder := by kernel_rfl
 t5 := by kernel_rfl
 a5 := fun _ => by kernel_rfl
 z5 := fun _ => by kernel_rfl
 v5 := fun _ => by kernel_rfl
 infoByte := by kernel_rfl
 cellsByte := by kernel_rfl
 sizeByte := by kernel_rfl
 neB5 := by decide
theorem repeatL_x (n : Nat) : Lib.repeatL [120] n = xsT n := by
 induction n with
 | zero => rfl
 | succ n ih => rw [Lib.repeatL, ih]; rfl
theorem xrep_at (n : Nat) (h : n <= 1000000) : FSpec Tryz.prog T 71 [.s [120], .i .i64 (n : Nat)] (fun d _ => d = .s (xsT n)) := by
 have := repeat_at (T := T) Tryz.vxRep bExtraR Tryz.call71 [120] n (by simp; omega) (by omega)
 rw [repeatL_x] at this
 exact this
theorem prefix_at (v bits n : Nat) (hv : v < 9223372036854775808) (hb : bits <= 62) (hn : n <= bits) (vI bI nJ : Int) (e1 : vI = v) (e2 : bI = bits) (e3 : nJ = n) :
    FSpec Tryz.prog T 118 [.i .i64 vI, .i .i64 bI, .i .i64 nJ] (fun d _ => d = .s (pfxT v bits n)) := by
 subst e1 e2 e3
 have hx := xrep_at (bits - n) (by omega)
 have hbl := binT_len v bits n
 have hxl := xsT_len (bits - n)
 refine FSpec.of_ok tok Tryz.func118 rfl Tryz.call118 (by simp) ?_
 rw [show ((bits - n : Nat) : Int) = (bits : Int) - n by omega] at hx
 (try (conv => whnf)); repeat' (first | refine Ok.seq ?_ | ((first | refine Ok.region tok ?_ | refine Ok.ret ?_ | refine nI ?_); conv => whnf) | (refine Or.inl ?_; (conv => whnf); (repeat (refine aI ?_; conv => whnf)); refine ⟨_, binary_at v bits n hv hb hn, rfl, ?_⟩; conv => whnf) | (refine Or.inl ?_; (conv => whnf); (repeat (refine aI ?_; conv => whnf)); refine ⟨_, hx, rfl, ?_⟩; conv => whnf) | (refine aJ ?_; conv => whnf) | fail)
 refine Or.inl ?_; (conv => whnf)
 rfl
theorem free_step {bits lo H k f : Nat} (h : f < bits /\ lo % tw (f + 1) = 0 /\ lo + tw (f + 1) <= H) : freeF bits lo H (k + 1) f = freeF bits lo H k (f + 1) := by
 conv => lhs; unfold freeF
 exact if_pos h
theorem free_stop {bits lo H f : Nat} (k : Nat) (h : ¬ (f < bits /\ lo % tw (f + 1) = 0 /\ lo + tw (f + 1) <= H)) : freeF bits lo H k f = f := by
 cases k with
 | zero => rfl
 | succ k => unfold freeF; exact if_neg h
set_option maxHeartbeats 8000000 in
theorem cover_at (bits lo H : Nat) (hb : bits <= 32) (hH : H <= tw bits) (hlo : lo <= tw bits) (bI lI hI : Int) (e1 : bI = bits) (e2 : lI = lo) (e3 : hI = (H : Int) - 1) :
    FSpec Tryz.prog T 98 [.i .i64 bI, .i .i64 lI, .i .i64 hI] (fun d rows => d = .own 0 (coverC bits H lo).length /\ rows = [some (9, (coverC bits H lo).map srow)]) := by
 subst e1 e2 e3
 have htb := tw62 (show bits <= 62 by omega)
 have ht32 := tw_mono hb
 have h32 : tw 32 = 4294967296 := by decide
 have hcl := coverC_len (bits := bits) (lo := lo) (H := H) hH
 refine FSpec.of_ok tok Tryz.func98 rfl Tryz.call98 (by simp) ?_
 (try (conv => whnf)); repeat' (first | refine Ok.seq ?_ | (refine Ok.region tok ?_; conv => whnf) | refine Ok.block ?_ | fail)
 refine Ok.ghost 7 9 rfl ?_
 (conv => whnf)
 refine Ok.loopU [0, 2] [1, 7] 1 0 (fun (x : Nat × List Str) => [.i .i64 (x.1 : Nat), .own 0 x.2.length]) (fun _ b => b) (fun (x : Nat × List Str) (_ : Vx.Rows) => [some (9, x.2.map srow)]) (fun (x : Nat × List Str) => x.1 <= tw bits /\ coverC bits H lo = x.2 ++ coverC bits H x.1) (fun (x : Nat × List Str) => tw bits - x.1) ((lo, [])) (⟨hlo, rfl⟩) ?_; (conv => whnf); refine ⟨by ((conv => whnf); first | rfl | (simp [envCat, List.take_of_length_le, nrow, frow, bcell, srow]; done) | (simp [envCat, List.take_of_length_le, nrow, frow, bcell, srow]; rw [IntKind.wrap_i64]; omega)), ?_⟩
 rintro ⟨q, l⟩ ⟨hq, hcov⟩
 dsimp only at hq hcov ⊢
 have hlm : (l.map srow).length = l.length := by simp
 have hlb : l.length <= 66 := by have := congrArg List.length hcov; rw [List.length_append] at this; omega
 (conv => whnf)
 by_cases hqH : q < H
 . have hst := coverC_step (bits := bits) hqH
   (try (conv => whnf)); repeat' (first | refine Ok.seq ?_ | ((first | refine Ok.region tok ?_ | refine Ok.cond ?_); conv => whnf) | refine Ok.block ?_ | (refine Ok.skip ?_; conv => whnf) | (refine bI ?_ ?_ <;> intro <;> (conv => whnf) <;> (try (exfalso; omega))) | fail)
   refine Ok.loopU [0, 1, 2, 7] [8] 1 0 (fun (f : Nat) => [.i .i64 (f : Nat)]) (fun _ b => b) (fun (f : Nat) (_ : Vx.Rows) => [some (9, l.map srow)]) (fun (f : Nat) => f <= bits /\ q + tw f <= H /\ freeF bits q H bits 0 = freeF bits q H (bits - f) f) (fun (f : Nat) => bits - f) (0) (⟨Nat.zero_le _, hqH, rfl⟩) ?_; (conv => whnf); refine ⟨by ((conv => whnf); first | rfl | (simp [envCat, List.take_of_length_le, nrow, frow, bcell, srow]; done) | (simp [envCat, List.take_of_length_le, nrow, frow, bcell, srow]; rw [IntKind.wrap_i64]; omega)), ?_⟩
   rintro f ⟨hf, hqf, hfr⟩
   have htf := tw62 (show f + 1 <= 62 by omega)
   have hpf := tw_pos f
   have hk1 : ((f : Nat) : Int) + 1 = ((f + 1 : Nat) : Int) := by omega
   have htop := top_at (f + 1) (by omega)
   rw [<- hk1] at htop
   have hsh : ((f : Nat) : Int) = (f : Int) /\ f <= 62 := ⟨rfl, by omega⟩
   have hpre := prefix_at q bits (bits - f) (by omega) (by omega) (by omega) (q : Int) (bits : Int) ((bits : Int) - f) rfl rfl (by omega)
   (conv => whnf)
   (try (conv => whnf)); repeat' (first | ((first | refine and_i ⟨rfl, by omega⟩ ⟨rfl, by omega⟩ ?_ | with_reducible_and_instances refine shl_i (by assumption) ?_); conv => whnf) | refine Ok.seq ?_ | ((first | refine Ok.region tok ?_ | refine Ok.cond ?_); conv => whnf) | refine Ok.block ?_ | ((first | refine Ok.skip ?_ | refine Ok.exit ?_ | refine nI ?_); conv => whnf) | (refine Or.inl ?_; (conv => whnf); (repeat (refine aI ?_; conv => whnf)); refine ⟨_, htop, rfl, ?_⟩; conv => whnf) | (refine Or.inl ?_; (conv => whnf); (repeat (refine aI ?_; conv => whnf)); refine ⟨_, hpre, rfl, ?_⟩; conv => whnf) | ((first | refine Alt2.l (aI ?_) | refine ⟨_, .inl ⟨rfl, rfl⟩, ?_⟩ | refine ⟨_, _, rfl, rfl, ?_⟩); conv => whnf) | (refine bI ?_ ?_ <;> intro <;> (conv => whnf) <;> (try (exfalso; omega))) | (refine aJ ?_; conv => whnf) | fail)
   all_goals first
    | (exfalso; omega)
    | skip
   . refine ⟨f + 1, by omega, ⟨by omega, by omega, ?_⟩, ?_⟩
     . rw [hfr, show bits - f = (bits - (f + 1)) + 1 by omega, free_step ⟨by omega, by omega, by omega⟩]
     . (conv => whnf)
       rfl
   all_goals
    have hfr2 : freeF bits q H bits 0 = f := by rw [hfr]; exact free_stop _ (by omega)
    have hst2 : coverC bits H q = pfxT q bits (bits - f) :: coverC bits H (q + tw f) := by rw [hst, hfr2]; rfl
    refine ⟨(q + tw f, l ++ [pfxT q bits (bits - f)]), by dsimp only; omega, ⟨by dsimp only; omega, by dsimp only; rw [hcov, hst2]; simp⟩, ?_⟩
    (conv => whnf)
    simp [envCat]
 . have : coverC bits H q = [] := coverC_end (by omega)
   rw [this, List.append_nil] at hcov
   (try (conv => whnf)); repeat' (first | refine Ok.seq ?_ | ((first | refine Ok.region tok ?_ | refine Ok.cond ?_ | refine Ok.exit ?_ | refine Ok.ret ?_); conv => whnf) | (refine bI ?_ ?_ <;> intro <;> (conv => whnf) <;> (try (exfalso; omega))) | fail)
   all_goals first
    | (exfalso; omega)
    | (refine Or.inr (Or.inl ?_); (conv => whnf)
       exact ⟨by rw [hcov]; rfl, by rw [hcov]⟩)
theorem binT_shift (v b d : Nat) (hd : d <= b) : binT (v / tw d) (b - d) (b - d) = binT v b (b - d) := by
 unfold binT
 refine List.map_congr_left fun i hi => ?_
 have hi := List.mem_range.1 hi
 unfold bitC tw
 rw [Nat.div_div_eq_div_mul, <- Nat.pow_add, show d + (b - d - 1 - i) = b - 1 - i by omega]
theorem pfxT_shift (v b d : Nat) (hd : d <= b) : binT (v / tw d) (b - d) (b - d) ++ xsT d = pfxT v b (b - d) := by
 unfold pfxT
 rw [binT_shift v b d hd, show b - (b - d) = d by omega]
theorem halves_cov {b lo H d base : Nat} (h : lo <= base /\ base + tw d <= H) : halvesF b lo H d base = [pfxT base b (b - d)] := by
 cases d with
 | zero => unfold halvesF; exact if_pos h
 | succ d => unfold halvesF; exact if_pos h
theorem halves_rec {b lo H d base : Nat} (h : ¬ (lo <= base /\ base + tw (d + 1) <= H)) (h2 : ¬ (H <= base \/ base + tw (d + 1) <= lo)) : halvesF b lo H (d + 1) base = halvesF b lo H d base ++ halvesF b lo H d (base + tw d) := by
 conv => lhs; unfold halvesF
 exact (if_neg h).trans (if_neg h2)
theorem halves_not {b lo H d base : Nat} (h : H <= base \/ base + tw d <= lo) : halvesF b lo H d base = [] := halves_none d base h
end Go.Proofs.YtagmibogginaaaaGreatDoor
