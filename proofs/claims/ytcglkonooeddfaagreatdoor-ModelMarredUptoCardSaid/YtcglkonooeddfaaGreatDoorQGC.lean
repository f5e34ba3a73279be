/- The walks and the plain laws that a law of networks needs, part 3 of 6. -/
import Derived.Test.YtcglkonooeddfaaGreatDoorQGB
import Derived.Test.YtcglkonooeddfaaGreatDoorRows
import Derived.ProofKit
import Derived.Deep.Slices
import Derived.Test.YtcglkonooeddfaaGreatDoorProg
import Derived.KernelRfl
import Derived.Shelf.Strings.Repeat
import Derived.Shelf.Strings.SlTrimAscii
import Derived.Ground.GgsProg
import Derived.Shelf.LaysM
import Derived.Shelf.Strconv.Itoa3
set_option linter.unusedVariables false
set_option linter.unusedSimpArgs false
namespace Go.Vx
open Go.RowKit
section
variable {P : Program} {T : Tab} {H M : Objs} {Q : Exit → St → Objs → Prop} {c : Code} {s : St}
theorem OkM.ghostB(i j:Nat)(e:TypeId){env:List (Nat × D)}{box:List (List D)}{cs:List D}{row:Rows}{n:Nat}(hi:box[i]? = some cs)(hj:cs[j]? = some .nilS)
    (h:snocK row (some (e,[])) fun row'=>natLit row.length fun r=>setK cs j (.own r 0) fun cs'=>setK box i cs' fun box'=>OkM P T H c Q ⟨env,box',row',n⟩ M):OkM P T H c Q ⟨env,box,row,n⟩ M:=by
 refine⟨fun w0 F V μ ω a w hSM=>?_⟩
 have hS:=hSM.sim
 simp only[snocK_eq,natLit_eq] at h
 obtain⟨hjl,h⟩:=setK_iff _ _ _ _ h
 obtain⟨hil,h⟩:=setK_iff _ _ _ _ h
 have hM:=hS.mem.newRow (w':=w) (Ext.refl w) (v:=.slice none 0 0) (e:=e) (xs:=[]) (vals:=[]) ⟨by simp,.inl ⟨rfl,rfl⟩⟩ ⟨by simp,by simp,by simp⟩ (by simp[Value.ownBlock])
 have hl:row.length=ω.length:=hS.mem.rl.symm
 have hown:RS (szOf T) V μ (ω++[.slice none 0 0]) (.slice none 0 0) (.own row.length 0):=by
  refine .own _ 0 none 0 0 ?_ (Nat.le_refl _)
  rw[hl,List.getElem?_append_right (Nat.le_refl _)]
  simp
 refine h.run w0 F V μ (ω++[.slice none 0 0]) a w (hSM.of ⟨hS.tmps,hS.defers,fun x=>(hS.env x).mono (.refl V) (.refl μ) (.append _ _),?_⟩)
 refine⟨hM.below,hM.vok,hM.vle,hM.vold,by simpa using hM.bl,?_,hM.rl,hM.hrow,hM.uniq,hM.new,hM.vmut,hM.away⟩
 intro q g cs2 h1 h2
 by_cases hq:q=i
 . subst hq
   rw[List.getElem?_set_self hil] at h2
   cases h2
   obtain⟨us,t',a1,b,c',d,ty⟩:=hM.hbox q g cs h1 hi
   refine⟨us,t',a1,by simpa using b,c',fun k v d' e1 e2=>?_,bTy_set ty j rfl⟩
   by_cases hk:k=j
   . subst hk
     rw[List.getElem?_set_self hjl] at e2
     cases e2
     have:=d k v _ e1 hj
     rw[this.nilS_]
     exact hown
   . rw[List.getElem?_set_ne (Ne.symm hk)] at e2
     exact d k v d' e1 e2
 . rw[List.getElem?_set_ne (Ne.symm hq)] at h2
   exact hM.hbox q g cs2 h1 h2
theorem OkM.pubB{env:List (Nat × D)}{box:List (List D)}{row:Rows}{n:Nat}(hi:immLL box=true)(h:pbE box env fun env'=>OkM P T H c Q ⟨env',[],[],n⟩ M):OkM P T H c Q ⟨env,box,row,n⟩ M:=by
 refine⟨fun w0 F V μ ω a w hSM=>?_⟩
 have hS:=hSM.sim
 have hM:=hS.mem
 dsimp only at hM
 classical
 obtain⟨V',hV'⟩:∃ V':Vw,V'=(fun p=>if ∃ i:Nat,μ[i]? = some p.block then w.cell? p else V p:Vw):=⟨(fun p=>if ∃ i:Nat,μ[i]? = some p.block then w.cell? p else V p:Vw),rfl⟩
 have hle:VLe V V':=fun p v hp=>by
  rw[hV']
  dsimp only
  split
  . exact hM.vok.2 p v hp
  . exact hp
 have hok:VOk V' w:=⟨⟨fun p v hp=>hle p v (hM.vok.1.1 p v hp),hM.vok.1.2⟩,fun p v hp=>by
  rw[hV'] at hp
  dsimp only at hp
  split at hp
  . exact hp
  . exact hM.vok.2 p v hp⟩
 obtain⟨env',hk,he⟩:=pbE_sound (n:=n) hM hi hle (fun i g off v h1 h2=>by rw[hV'];dsimp only;rw[if_pos ⟨i,h1⟩];exact h2) h
 refine hk.run w0 F V' [] [] a w (hSM.of ⟨hS.tmps,hS.defers,fun t=>.imm _ _ (he t _ (hS.env t)),?_⟩)
 refine⟨hM.below,hok,fun p v hp=>hle p v (hM.vle p v hp),fun p hp=>?_,rfl,by simp,rfl,by simp,fun l l' g h1=>?_,fun l g h1=>?_,fun p u l _ h1=>?_,fun x hx=>let ⟨a,b,c,d,e⟩:=hM.away x hx;⟨a,b,fun l h1=>by
     cases l with
     | inl i=>simp[Own] at h1
     | inr r=>obtain⟨v,x,h1,_⟩:=h1;simp at h1,fun p u hp hb=>by
     rw[hV'] at hp
     dsimp only at hp
     split at hp
     . rename_i hh
       obtain⟨i,hi⟩:=hh
       exact c (.inl i) (hb ▸ hi)
     . exact d p u hp hb,e⟩⟩
 . rw[<- hM.vold p hp,hV']
   dsimp only
   rw[if_neg]
   rintro⟨i,hi⟩
   have:=(hM.new (.inl i) p.block hi).1
   omega
 all_goals
  cases l with
  | inl i=>simp[Own] at h1
  | inr r=>obtain⟨v,x,h1,_⟩:=h1;simp at h1
end
end Go.Vx
namespace Go.Vx
open Go.RowKit
def dopM(P:Program)(T:Tab)(H M:Objs)(s:St)(o:Oper)(K:D->St->Objs->Prop):Prop:=
 match o.op with
 | .lookup t x i ok=>lookM P H M t (s.get x) (s.get i) ok fun d=>K d s M
 | .mapUpdate t m k x=>updM P M t (s.get m) (s.get k) (s.get x) fun M=>K (.tup []) s M
 | .call { callee:=.value (.func f),args,argTypes }=>dop P T s o (fun d s=>K d s M)\/callH P T H M s f argTypes.toList (s.gets args.toList) K
 | _=>dop P T s o fun d s=>K d s M
def dopsTM(P:Program)(T:Tab)(H:Objs)(ops:List Oper)(A:Waits):Pl->Bool->List (Nat × Src)->St->Objs->(St->Objs->Prop)->Prop
 | .nil,f,_,s,M,K=>match f with|true=>True|false=>K s M
 | .q i r,_,ps,s,M,K=>match ops[i]? with
  | none=>False
  | some o=>wantK ops s o.guard
   (fun s=>qop P T s o fun d s'=>putK s' o.dst d fun s'=>dopsTM P T H ops A r false ((i,srcQ s o) :: ps) s' M K)
   (fun s=>putK s o.dst (.tup []) fun s=>dopsTM P T H ops A r false ((i,.none) :: ps) s M K)
 | .l i r,_,ps,s,M,K=>match ops[i]? with
  | none=>False
  | some o=>wantK ops s o.guard
   (fun s=>clearK (befW A) i s (effOf s o) ps <| dopM P T H M s o fun d s M=>putK s o.dst d fun s=>dopsTM P T H ops A r false (filterP (befW A) i ps) s M K)
   (fun s=>putK s o.dst (.tup []) fun s=>dopsTM P T H ops A r false (filterP (befW A) i ps) s M K)
 | .alt i a r,_,ps,s,M,K=>(match ops[i]? with
  | none=>False
  | some o=>wantK ops s o.guard
   (fun s=>clearK (befW A) i s (effOf s o) ps <| dopM P T H M s o fun d s M=>putK s o.dst d fun s=>dopsTM P T H ops A a false (filterP (befW A) i ps) s M K)
   (fun s=>putK s o.dst (.tup []) fun s=>dopsTM P T H ops A a false (filterP (befW A) i ps) s M K))/\dopsTM P T H ops A r true ps s M K
section
variable {w0 w w' : World} {F : Fr} {V : Vw} {μ : List Nat} {ω : List Value} {s : St} {a : Act} {P : Program} {T : Tab} {H M : Objs}
theorem putObj_cell{g:Nat}{o o':Obj}(hg:w.heap[g]? = some o)(hn:noC o){q:Addr}{v:Value}(hc:w.cell? q=some v):(w.putObj g o').cell? q=some v:=by
 refine (World.cell?_of_block (World.putObj_heap_other fun e=>?_)).trans hc
 obtain⟨o2,ho2,hc2⟩:=cells_of_cell hc
 rw[e,hg] at ho2
 cases ho2
 cases o<;>simp_all[Obj.isCells]
 exact hn _ _ _ rfl
def VokSM(P:Program)(T:Tab)(w0:World)(F:Fr)(H:Objs)(E:Src)(V:Vw)(μ:List Nat)(ω:List Value)(a:Act)(w:World)(o:Oper)(K:D->St->Objs->Prop):Prop:=
 ∀ (next:Act->World->Prop) (Q:Exit->Act->World->Prop),
  (∀ d v s V' μ' ω' M' w',K d s M'->RS (szOf T) V' μ' ω' v d->SimM (szOf T) w0 F V' μ' ω' s a w' H M'->Step E V μ ω w V' μ' ω' w'->next (a.put o.dst v) w')->o.wp P a w next Q
theorem callH_soundS(hS:SimM (szOf T) w0 F V μ ω s a w H M){dst:Option Nat}{type:TypeId}{pos:String}{after:Array Edge}{guard:Option (Nat × Bool)}{f:FuncId}{args:Array Operand}{argTypes:Array TypeId}{K:D->St->Objs->Prop}
    (h:callH P T H M s f argTypes.toList (s.gets args.toList) K):VokSM P T w0 F H .none V μ ω a w ⟨dst,.call ⟨.value (.func f),args,argTypes⟩,type,pos,after,guard⟩ K:=by
 obtain⟨V1,ds1,s1,h,hv1,hS1,hle1⟩:=pubsK_sound 8 hS.sim (hS.sim.gets _) h
 obtain⟨es,⟨R,hf,h⟩,hes,hri⟩:=exposN_sound argTypes.toList ds1 _ _ hv1 h
 obtain⟨env,box,row,n⟩:=s1
 intro next Q hn
 have hcalls:=hf.run V1 w (args.map a.eval) hS1.mem.vok (fun x hx=>hS.read hx) (by have:=hv1.1;simp at this ⊢;omega) (fun j v d h1 h2=>hri j v d (by simpa using h1) h2)
 unfold Oper.wp
 have hrun:(execOp a.eval ⟨dst,.call ⟨.value (.func f),args,argTypes⟩,type,pos,after,guard⟩).run P w = .ok (.enter f (args.map a.eval)) w:=by
  simp only[execOp,resolve,Act.eval,Deferred.ofValue,invoke,Sem.run_bind,Sem.run_pure,Result.andThen_ok]
  rw[show (#[]++args.map a.eval)++#[]=args.map a.eval by simp,hf.call]
 rw[hrun]
 show Calls P f (args.map a.eval) w _
 refine hcalls.mono ?_
 rintro e w'' ⟨V',ω0,row0,v,d,M',rfl,hR,hrs,hres,hM',hnd⟩
 have hMm:=hS1.mem.call hres
 have hk:=h d row0 M' hR
 have hl:row.length=ω.length:=hS1.mem.rl.symm
 dsimp only at hk
 rw[hl] at hk
 obtain⟨d',hk,hr⟩:=shiftD_sound (μ:=μ) (V':=V') (ω':=ω++ω0) (VLe.refl V') (fun r u hu=>by rw[List.getElem?_append_right (by omega),Nat.add_sub_cancel];exact hu) hrs hk
 rw[catK_eq,appM_eq] at hk
 have hx:Ext w w'':=hres.below
 obtain⟨ms,d1,d2,d3⟩:=hS1.defers.marks
 have hlt:∀ x ∈ M++F.kp,x.1<w.heap.size:=fun x hx=>(Array.getElem?_eq_some_iff.1 (hS.sim.defers.kept x hx).1).1
 have hbase:=hS.sim.mem.below.size
 refine hn d' v _ V' μ (ω++ω0) (M'++M) w'' hk hr ⟨⟨hS1.tmps,⟨⟨ms,d1,d2,fun D hD=>?_⟩,fun x hx'=>?_⟩,fun t=>(hS1.env t).mono hres.le (.refl μ) (.append _ _),hMm.fr rfl⟩,?_,hS.old⟩ (.ext (fun p u hp=>hres.le p u (hle1 p u hp)) (.refl _) (.append _ _) hx)
 . obtain⟨f1,f2,f3⟩:=d3 D hD
   refine⟨hx.heap f1,f2,fun x hx'=>?_⟩
   have hx2:x ∈ M'++M++F.kp:=hx'
   rw[List.append_assoc] at hx2
   rcases List.mem_append.1 hx2 with hx2|hx2
   . have h1:=(hM' x hx2).2.2
     have h2:=(Array.getElem?_eq_some_iff.1 f1).1
     omega
   . exact f3 x hx2
 . have hx2:x ∈ M'++M++F.kp:=hx'
   rw[List.append_assoc] at hx2
   rcases List.mem_append.1 hx2 with hx2|hx2
   . obtain⟨h1,h2,h3⟩:=hM' x hx2
     exact⟨h1,h2,Nat.le_trans hbase h3⟩
   . obtain⟨h1,h2,h3⟩:=hS.sim.defers.kept x hx2
     exact⟨hx.heap h1,h2,h3⟩
 . rw[List.append_assoc,List.map_append]
   refine List.nodup_append.2 ⟨hnd,hS.nodup,fun x hx y hy e=>?_⟩
   obtain⟨z,hz,rfl⟩:=List.mem_map.1 hx
   obtain⟨z2,hz2,rfl⟩:=List.mem_map.1 hy
   have h1:=(hM' z hz).2.2
   have h2:=hlt z2 hz2
   omega
theorem dopM_sound(hT:TOk P T)(hS:SimM (szOf T) w0 F V μ ω s a w H M){o:Oper}{K:D->St->Objs->Prop}(h:dopM P T H M s o K):VokSM P T w0 F H (effOf s o) V μ ω a w o K:=by
 obtain⟨dst,op,type,pos,after,guard⟩:=o
 have plain:dop P T s ⟨dst,op,type,pos,after,guard⟩ (fun d s=>K d s M)->VokSM P T w0 F H (effOf s ⟨dst,op,type,pos,after,guard⟩) V μ ω a w ⟨dst,op,type,pos,after,guard⟩ K:=fun h next Q hn=>
  dop_sound hT hS.sim h next Q fun d v s' V' μ' ω' w' hk hr hS' hst=>hn d v s' V' μ' ω' M w' hk hr (hS.of hS') hst
 cases op
 case lookup t x i ok=>
  intro next Q hn
  unfold dopM lookM at h
  dsimp only at h
  split at h
  case h_2=>exact h.elim
  rename_i g hx
  obtain⟨κ,α,_,kd,f,l,c,k,hty,hg,hi,hk⟩:=h
  have hxv:=hS.sim.get x
  rw[hx] at hxv
  have hiv:=hS.sim.get i
  rw[hi] at hiv
  obtain⟨kt,et,_,hkey,_⟩:=hty.und
  have e2:=ground_val hiv (hkey.ground k)
  have hl:=hty.lookup (hS.read hg) k ok
  have hst:Step .none V μ ω w V μ ω w:=.ext (fun _ _ h=>h) (.refl _) (.refl _) (Ext.refl w)
  unfold Oper.wp
  cases ok with
  | true=>
   have hrun:(execOp a.eval ⟨dst,.lookup t x i true,type,pos,after,guard⟩).run P w = .ok (.value (.tuple #[toV (f (lk l k)),.bool (lk l k).isSome])) w:=by
    simp[execOp,hxv.mv_,e2,hl]
   rw[hrun]
   refine hn _ _ s V μ ω M w hk (.tup _ _ rfl fun j v d h1 h2=>?_) hS hst
   match j with
   | 0=>simp at h1 h2;subst h1 h2;exact toV_rs (hty.vg _)
   | 1=>simp at h1 h2;subst h1 h2;exact .imm _ _ (.b _ _ Iff.rfl)
   | j+2=>simp at h1
  | false=>
   have hrun:(execOp a.eval ⟨dst,.lookup t x i false,type,pos,after,guard⟩).run P w = .ok (.value (toV (f (lk l k)))) w:=by
    simp[execOp,hxv.mv_,e2,hl]
   rw[hrun]
   exact hn _ _ s V μ ω M w hk (toV_rs (hty.vg _)) hS hst
 case mapUpdate t m k x=>
  intro next Q hn
  unfold dopM updM at h
  dsimp only at h
  split at h
  case h_2=>exact h.elim
  rename_i g hx
  obtain⟨κ,α,_,kd,f,l,c,n,key,val,hty,hg,hi,hvl,hk⟩:=h
  have hxv:=hS.sim.get m
  rw[hx] at hxv
  have hiv:=hS.sim.get k
  rw[hi] at hiv
  have hvv:=hS.sim.get x
  rw[hvl] at hvv
  obtain⟨kt,et,_,hkey,_⟩:=hty.und
  have e2:=ground_val hiv (hkey.ground key)
  have e3:=ground_val' hvv (hty.vg _)
  rw[setM_eq] at hk
  have hkg:=hS.kept (List.mem_of_getElem? hg)
  have hu:=hty.update hkg.1 key val
  unfold Oper.wp
  have hrun:(execOp a.eval ⟨dst,.mapUpdate t m k x,type,pos,after,guard⟩).run P w = .ok .skip (w.putObj g (mObj kd f (mput l c key val).1 (mput l c key val).2)):=by
   simp[execOp,hxv.mv_,e2,e3,hu]
  rw[hrun]
  exact hn (.tup []) undef s V μ ω _ _ hk (RS.tup [] #[] rfl (fun j v d h=>by simp at h)) (hS.put _ (noC_map _ _) hg)
   ⟨fun _ _ h=>h,.refl _,fun _ _ _ _ h=>h,fun q v hc _=>putObj_cell hkg.1 hkg.2.1 hc⟩
 case call c=>
  obtain⟨callee,args,argTypes⟩:=c
  cases callee with
  | invoke r m=>exact plain h
  | builtin b=>exact plain h
  | value f=>
   cases f<;>first|exact plain h|skip
   rcases h with h|h
   . exact plain h
   . exact callH_soundS hS h
 all_goals exact plain h
theorem dopsTM_sound(hT:TOk P T){ops:List Oper}{A:Waits}(hns:Region.noSelect ops.toArray=true)(hA:waitsB ops.toArray A=true){Q:Exit->Act->World->Prop}(hQ:∀ c a w,¬ Q (.panic c) a w) :
    ∀ (p:Pl) (f:Bool) (n:Nat) (listed:Array Bool) (ps:Pends) (sps:List (Nat × Src)) (s:St) (V:Vw) (μ:List Nat) (ω:List Value) (a:Act) (w:World) (M:Objs) (K:St->Objs->Prop),
     planT ops.toArray p f n listed=true->Closed ops.toArray listed->SimM (szOf T) w0 F V μ ω s a w H M->All2 (PendOK V μ ω w) ps sps->dopsTM P T H ops A p f sps s M K ->
     (∀ s M V μ ω a w,K s M->SimM (szOf T) w0 F V μ ω s a w H M->Q .normal a w) ->
     match f with
     | false=>wpAnyP P ops.toArray (befW A) Q p.depth ps listed a w
     | true=>∀ j ∈ p.heads,wpOp P ops.toArray Q j (fun a' w'=>(∀ x ∈ ps,befW A x.1 j=false->x.2 w')/\wpAnyP P ops.toArray (befW A) Q n (ps.filter fun x=>!befW A x.1 j) (listed.setIfInBounds j true) a' w') a w
 | .nil,f,n,listed,ps,sps,s,V,μ,ω,a,w,M,K,hB,hcl,hS,hps,h,hq=>by
  cases f with
  | true=>intro j hj;cases hj
  | false=>exact⟨by simpa[planT] using hB,hq _ _ _ _ _ _ _ h hS⟩
 | .q i r,f,n,listed,ps,sps,s,V,μ,ω,a,w,M,K,hB,hcl,hS,hps,h,hq=>by
  cases f with
  | true=>intro j hj;cases hj
  | false=>
  simp only[planT,Bool.not_false,Bool.true_and,Bool.and_eq_true] at hB
  obtain⟨⟨⟨hr,hf⟩,hq1⟩,hB⟩:=hB
  simp only[dopsTM] at h
  cases ho:ops[i]? with
  | none=>rw[ho] at h;exact h.elim
  | some o=>
   rw[ho] at h
   dsimp only at h
   have ho':ops.toArray[i]? = some o:=by simpa using ho
   rw[ho'] at hq1
   have hri:i ∈ Region.ready .any ops.toArray listed:=by simpa using hr
   have hall:∀ x ∈ ps,x.2 w:=fun x hx=>let ⟨y,hy⟩:=hps.left x hx;hy.mono_
   rcases wantK_sound (o:=o) hS.sim h with⟨hw,s1,h,hS1⟩|⟨hw,s1,h,hS1⟩
   . obtain⟨d,v,s2,h,hr2,hS2,p,n,hsrc,hq2⟩:=qop_sound hT hS1 h
     obtain⟨s3,h,hS3⟩:=putK_sound hS2 hr2 h
     replace hS3:=hS.of hS3
     refine wpAnyP_first (C:=KeepN p n w) (v:=v) (fun i j=>befW_spec hA i j) ho' (Region.noSelect_spec hns) (fun c a w hc=>absurd hc (hQ _ _ _)) r.depth ps listed a w hcl (Region.free_spec ho' hf) hri
      (.inl ⟨hw,fun w' hk=>quiet_value (by simpa using hq1) (hq2 w' ?_)⟩) (fun _ _ _ h=>h) hall ?_
     . unfold QR
       split
       . exact hk
       . rename_i heq;simp[isQ,heq] at hq1
       . rename_i heq;simp[isQ,heq] at hq1
       . trivial
     . exact dopsTM_sound hT hns hA hQ r false 0 _ _ _ s3 V μ ω _ w M K hB (hcl.set hri) hS3 (.cons ⟨rfl,p,n,w,rfl,hsrc,fun _ _ _ h=>h⟩ hps) h hq
   . obtain⟨s3,h,hS3⟩:=putK_sound hS1 (v:=undef) (d:=.tup []) (RS.tup [] #[] rfl (fun j v d h=>by simp at h)) h
     replace hS3:=hS.of hS3
     refine wpAnyP_first (C:=KeepN ⟨0,0,none⟩ 0 w) (v:=undef) (fun i j=>befW_spec hA i j) ho' (Region.noSelect_spec hns) (fun c a w hc=>absurd hc (hQ _ _ _)) r.depth ps listed a w hcl (Region.free_spec ho' hf) hri
      (.inr ⟨hw,rfl⟩) (fun _ _ _ h=>h) hall ?_
     exact dopsTM_sound hT hns hA hQ r false 0 _ _ _ s3 V μ ω _ w M K hB (hcl.set hri) hS3 (.cons ⟨rfl,⟨0,0,none⟩,0,w,rfl,SrcP.zero _,fun _ _ _ h=>h⟩ hps) h hq
 | .l i r,f,n,listed,ps,sps,s,V,μ,ω,a,w,M,K,hB,hcl,hS,hps,h,hq=>by
  cases f with
  | true=>intro j hj;cases hj
  | false=>
  simp only[planT,Bool.not_false,Bool.true_and,Bool.and_eq_true,beq_iff_eq] at hB
  obtain⟨hr,hB⟩:=hB
  simp only[dopsTM] at h
  cases ho:ops[i]? with
  | none=>rw[ho] at h;exact h.elim
  | some o=>
   rw[ho] at h
   dsimp only at h
   have ho':ops.toArray[i]? = some o:=by simpa using ho
   have hri:i ∈ Region.ready .any ops.toArray listed:=by rw[hr];simp
   refine⟨fun h0=>(by rw[hr] at h0;cases h0),fun j hj=>?_⟩
   rw[hr] at hj
   have hji:j=i:=by simpa using hj
   subst hji
   unfold wpOp
   rw[ho']
   dsimp only
   rcases wantK_sound (o:=o) hS.sim h with⟨hw,s1,h,hS1⟩|⟨hw,s1,h,hS1⟩
   . rw[if_pos hw]
     obtain⟨h,hst⟩:=clearK_step hS1.mem hps h
     refine .inl (dopM_sound hT (hS.of hS1) h _ _ fun d v s2 V2 μ2 ω2 M2 w2 hk hr2 hS2 hstep=>?_)
     obtain⟨h1,h2⟩:=hst _ _ _ _ hstep
     obtain⟨s3,h,hS3⟩:=putK_sound hS2.sim hr2 hk
     replace hS3:=hS2.of hS3
     exact⟨h1,dopsTM_sound hT hns hA hQ r false 0 _ _ _ s3 _ _ _ _ w2 M2 K hB (hcl.set hri) hS3 h2 h hq⟩
   . rw[if_neg (by rw[hw];simp)]
     obtain⟨s3,h,hS3⟩:=putK_sound hS1 (v:=undef) (d:=.tup []) (RS.tup [] #[] rfl (fun j v d h=>by simp at h)) h
     replace hS3:=hS.of hS3
     exact⟨fun x hx _=>let ⟨y,hy⟩:=hps.left x hx;hy.mono_,dopsTM_sound hT hns hA hQ r false 0 _ _ _ s3 _ _ _ _ w M K hB (hcl.set hri) hS3 (hps.filter fun _ _ h=>h.1) h hq⟩
 | .alt i b r,f,n,listed,ps,sps,s,V,μ,ω,a,w,M,K,hB,hcl,hS,hps,h,hq=>by
  simp only[planT,Bool.and_eq_true] at hB
  obtain⟨⟨⟨hf,hri⟩,hBa⟩,hBr⟩:=hB
  have hri:i ∈ Region.ready .any ops.toArray listed:=by simpa using hri
  simp only[dopsTM] at h
  obtain⟨h,hrest⟩:=h
  have hone:wpOp P ops.toArray Q i (fun a' w'=>(∀ x ∈ ps,befW A x.1 i=false->x.2 w')/\wpAnyP P ops.toArray (befW A) Q b.depth (ps.filter fun x=>!befW A x.1 i) (listed.setIfInBounds i true) a' w') a w:=by
   cases ho:ops[i]? with
   | none=>rw[ho] at h;exact h.elim
   | some o=>
    rw[ho] at h
    dsimp only at h
    have ho':ops.toArray[i]? = some o:=by simpa using ho
    unfold wpOp
    rw[ho']
    dsimp only
    rcases wantK_sound (o:=o) hS.sim h with⟨hw,s1,h,hS1⟩|⟨hw,s1,h,hS1⟩
    . rw[if_pos hw]
      obtain⟨h,hst⟩:=clearK_step hS1.mem hps h
      refine .inl (dopM_sound hT (hS.of hS1) h _ _ fun d v s2 V2 μ2 ω2 M2 w2 hk hr2 hS2 hstep=>?_)
      obtain⟨h1,h2⟩:=hst _ _ _ _ hstep
      obtain⟨s3,h,hS3⟩:=putK_sound hS2.sim hr2 hk
      replace hS3:=hS2.of hS3
      exact⟨h1,dopsTM_sound hT hns hA hQ b false 0 _ _ _ s3 _ _ _ _ w2 M2 K hBa (hcl.set hri) hS3 h2 h hq⟩
    . rw[if_neg (by rw[hw];simp)]
      obtain⟨s3,h,hS3⟩:=putK_sound hS1 (v:=undef) (d:=.tup []) (RS.tup [] #[] rfl (fun j v d h=>by simp at h)) h
      replace hS3:=hS.of hS3
      exact⟨fun x hx _=>let ⟨y,hy⟩:=hps.left x hx;hy.mono_,dopsTM_sound hT hns hA hQ b false 0 _ _ _ s3 _ _ _ _ w M K hBa (hcl.set hri) hS3 (hps.filter fun _ _ h=>h.1) h hq⟩
  have hmore:=dopsTM_sound hT hns hA hQ r true b.depth listed ps sps s V μ ω a w M K hBr hcl hS hps hrest hq
  dsimp only at hmore
  cases f with
  | true=>
   intro j hj
   have hn:b.depth=n:=Nat.eq_of_beq_eq_true hf
   subst hn
   rcases List.mem_cons.1 hj with rfl|hj
   . exact hone
   . exact hmore j hj
  | false=>
   have hr:Region.ready .any ops.toArray listed=i :: r.heads:=by simpa using hf
   refine⟨fun h0=>(by rw[hr] at h0;cases h0),fun j hj=>?_⟩
   rw[hr] at hj
   rcases List.mem_cons.1 hj with rfl|hj
   . exact hone
   . exact hmore j hj
theorem OkM.region_tree(hT:TOk P T)(hm:P.follows .mixedOrders=true){s:St}{M:Objs}{Q:Exit->St->Objs->Prop}{id:Nat}{l:List Oper}(A:Waits)(p:Pl)(hB:planTok l.toArray A p=true)(h:dopsTM P T H l A p false [] s M (Q .normal)) :
    OkM P T H (.region id l.toArray true) Q s M:=by
 refine⟨fun w0 F V μ ω a w hS=>?_⟩
 simp only[planTok,Bool.and_eq_true,beq_iff_eq] at hB
 obtain⟨⟨⟨hns,hA⟩,hlen⟩,hB⟩:=hB
 have hd:Ext w { w with drawn:=w.drawn+1 }:=(Below.refl w.heap.size w).drew
 refine wp_mono (Q:=fun e a' w'=>e = .normal/\∃ s' V' μ' ω' M',Q .normal s' M'/\SimM (szOf T) w0 F V' μ' ω' s' a' w' H M') (wp_region_any hm ?_) ?_
 . refine wpAny_of_P (bef:=befW A) _ [] _ _ _ ?_
   have hz:∀ m j:Nat,(Array.replicate m false).getD j false=false:=fun m j=>by
    rcases Nat.lt_or_ge j m with h|h<;>simp[h]
   have hw:=dopsTM_sound hT hns hA (Q:=fun e a' w'=>e = .normal/\∃ s' V' μ' ω' M',Q .normal s' M'/\SimM (szOf T) w0 F V' μ' ω' s' a' w' H M') (fun c a w h=>by cases h.1) p false 0 _ [] [] s V μ ω a _ M _ hB
    (fun j o _ hl=>by rw[hz] at hl;cases hl) (hS.ext hd) .nil h fun s' M' V' μ' ω' a' w' hk hS'=>⟨rfl,s',V',μ',ω',M',hk,hS'⟩
   rw[hlen] at hw
   exact hw
 . rintro e a' w' ⟨rfl,s',V',μ',ω',M',hk,hS'⟩
   exact⟨s',V',μ',ω',M',hk,hS'⟩
end
end Go.Vx
namespace Go.Vx
open Go.RowKit Go.ChangeShapes Go.WideShapes
open Go.Proofs.YtcglkonooeddfaaGreatDoor (Rows.uptoBulk Rows.uptoBulkAll)
inductive Shp where
 | bool|int (k:IntKind)|str|slice (e:TypeId) (cells:List Shp)
def shpFs(F:TypeId->Option (List Shp)):Nat->List (Nat × TypeId)->Option (List Shp)
 | _,[]=>some []
 | k,(o,t) :: r=>match Nat.beq o k,F t with
  | true,some l=>(match shpFs F (k+l.length) r with|some m=>some (l++m)|none=>none)
  | _,_=>none
def lenIs(s:Nat)(o:Option (List Shp)):Option (List Shp):=match o with|some l=>(match Nat.beq s l.length with|true=>some l|false=>none)|none=>none
def shpC(T:Tab):Nat->TypeId->Option (List Shp)
 | 0,_=>none
 | f+1,t=>match T t with
  | some ⟨s,_,.bool,_⟩=>lenIs s (some [.bool])
  | some ⟨s,_,.int k,_⟩=>lenIs s (some [.int k])
  | some ⟨s,_,.str,_⟩=>lenIs s (some [.str])
  | some ⟨s,_,.slice e,_⟩=>lenIs s (match shpC T f e with|some l=>some [.slice e l]|none=>none)
  | some ⟨s,_,.struct fs,_⟩=>lenIs s (shpFs (shpC T f) 0 fs)
  | _=>none
mutual
/-- A cell of such a type; lists and texts of at most B. -/
def TyS (B : Nat) : Shp → D → Prop
  | .bool, d => ∃ p, d = .b p
  | .int k, d => ∃ n, d = .i k n ∧ (Lit.int k n).wf = true
  | .str, d => ∃ l, d = .s l ∧ l.length ≤ B
  | .slice e l, d => ∃ rows room, d = .lst e rows room ∧ rows.length + room.length ≤ B ∧ ∀ r, r ∈ rows ++ room → TySs B l r
/-- .. a row of cells. -/
def TySs (B : Nat) : List Shp → List D → Prop
  | [], [] => True
  | s :: ss, d :: ds => TyS B s d ∧ TySs B ss ds
  | [], _ :: _ => False
  | _ :: _, [] => False
end
def TyA(T:Tab)(B:Nat)(t:TypeId)(l:List Shp)(x:D):Prop:=
 match T t with
 | some ⟨_,_,.struct _,_⟩=>∃ row,x = .agg row/\TySs B l row
 | _=>TySs B l [x]
theorem TySs.append{B:Nat}:∀ {ts us:List Shp} {ds es:List D},TySs B ts ds->TySs B us es->TySs B (ts++us) (ds++es)
 | [],_,[],_,_,h=>h
 | _ :: _,_,_ :: _,_,h,h'=>by
  simp only[TySs,List.cons_append] at h ⊢
  exact⟨h.1,TySs.append h.2 h'⟩
 | [],_,_ :: _,_,h,_=>by simp[TySs] at h
 | _ :: _,_,[],_,h,_=>by simp[TySs] at h
theorem lenIs_some{s:Nat}{o:Option (List Shp)}{l:List Shp}(h:lenIs s o=some l):o=some l/\s=l.length:=by
 unfold lenIs at h
 split at h
 . split at h
   . rename_i hb
     cases h
     exact⟨rfl,Nat.eq_of_beq_eq_true hb⟩
   . cases h
 . cases h
theorem shpC_len{T:Tab}{f:Nat}{t:TypeId}{l:List Shp}(h:shpC T f t=some l):szOf T t=l.length/\∃ ti,T t=some ti:=by
 cases f with
 | zero=>simp[shpC] at h
 | succ f=>
  simp only[shpC] at h
  split at h
  all_goals first
   | (cases h)
   | (rename_i ht;have:=lenIs_some h;rw[szOf_eq ht];exact⟨this.2,_,ht⟩)
section
variable {H : Type} {enc : TypeId × Value → H} {P : Program} {T : Tab} {w : World} {held : Bool}
theorem bulk_mem{d:DataW H}:∀ {l:List (DataW H)},d ∈ l->Rows.uptoBulk d<=Rows.uptoBulkAll l
 | [],h=>by cases h
 | x :: r,h=>by
  simp only[Rows.uptoBulkAll]
  rcases List.mem_cons.1 h with rfl|h
  . omega
  . have:=bulk_mem h;omega
theorem bulk_one(d:DataW H):1<=Rows.uptoBulk d:=by
 cases d with
 | lit l=>cases l<;>simp[Rows.uptoBulk]
 | _=>simp[Rows.uptoBulk]
theorem bulk_length:∀ (l:List (DataW H)),l.length<=Rows.uptoBulkAll l
 | []=>by simp[Rows.uptoBulkAll]
 | x :: r=>by have:=bulk_one x;have:=bulk_length r;simp only[Rows.uptoBulkAll,List.length_cons];omega
def CellsR(T:Tab)(w:World)(cs:List Value)(row:List D):Prop:=
 cs.length=row.length/\∀ (j:Nat) v d,cs[j]? = some v->row[j]? = some d->RI (szOf T) (heapV w) v d/\v.oneCell'=true
theorem CellsR.append{cs cs':List Value}{row row':List D}(h:CellsR T w cs row)(h':CellsR T w cs' row'):CellsR T w (cs++cs') (row++row'):=by
 refine⟨by simp[h.1,h'.1],fun j v d h1 h2=>?_⟩
 by_cases hj:j<cs.length
 . rw[List.getElem?_append_left hj] at h1
   rw[List.getElem?_append_left (by rw[<- h.1];exact hj)] at h2
   exact h.2 j v d h1 h2
 . rw[List.getElem?_append_right (by omega)] at h1
   rw[List.getElem?_append_right (by rw[<- h.1];omega),<- h.1] at h2
   exact h'.2 _ v d h1 h2
theorem CellsR.one{v:Value}{d:D}(h:RI (szOf T) (heapV w) v d)(h1:v.oneCell'=true):CellsR T w [v] [d]:=by
 refine⟨rfl,fun j v' d' h2 h3=>?_⟩
 cases j with
 | zero=>simp at h2 h3;subst h2 h3;exact⟨h,h1⟩
 | succ j=>simp at h2
theorem cells_of(hT:TOk P T){t:TypeId}(h:∃ ti,T t=some ti):szOf T t=P.cellsOf t:=by
 obtain⟨ti,ht⟩:=h
 obtain⟨i,z,h1,h2,_⟩:=(hT t ti ht).info
 rw[szOf_eq ht]
 simp[Program.cellsOf,h1,h2]
theorem fields_ri{f B:Nat}{k:Nat}(ih:∀ t cs x l,shpC T f t=some l->(B=maxLen\/Rows.uptoBulk x.1<=B)->DataW.trod enc P w 0 (fun _=>true) held k t cs=some x->∃ row,TySs B l row/\CellsR T w cs row)
    (hT:TOk P T)(cs:List Value) :
    ∀ (fs:List (Nat × TypeId)) (o:Nat) (xs:List (DataW H × List MemPlace)) (l:List Shp),shpFs (shpC T f) o fs=some l ->
     (B=maxLen\/Rows.uptoBulkAll (xs.map (·.1))<=B)->xs.length=fs.length ->
     (∀ (i:Nat) p,fs[i]? = some p->DataW.trod enc P w 0 (fun _=>true) held k p.2 ((cs.drop p.1).take (P.cellsOf p.2))=xs[i]?) ->
     cs.length=o+l.length->∃ row,TySs B l row/\CellsR T w (cs.drop o) row
 | [],o,xs,l,h1,_,_,_,hl=>⟨[],by simp[shpFs] at h1;subst h1;simp[TySs],by
     simp[shpFs] at h1
     subst h1
     have:cs.drop o=[]:=List.drop_of_length_le (by rw[hl];simp)
     rw[this]
     exact⟨rfl,fun j v d h=>by simp at h⟩⟩
 | (o',t) :: r,o,xs,l,h1,hB,hxl,hx,hl=>by
  simp only[shpFs] at h1
  split at h1
  case h_2=>cases h1
  rename_i l0 hb ht
  split at h1
  case h_2=>cases h1
  rename_i m hm
  cases h1
  have ho:o'=o:=Nat.eq_of_beq_eq_true hb
  obtain⟨hs,hti⟩:=shpC_len ht
  subst ho
  cases xs with
  | nil=>simp at hxl
  | cons x0 xs=>
   have h0:=hx 0 _ rfl
   simp only[List.getElem?_cons_zero] at h0
   have hb0:B=maxLen\/Rows.uptoBulk x0.1<=B:=by
    rcases hB with hB|hB
    . exact .inl hB
    . right;simp only[List.map_cons,Rows.uptoBulkAll] at hB;omega
   have hb1:B=maxLen\/Rows.uptoBulkAll (xs.map (·.1))<=B:=by
    rcases hB with hB|hB
    . exact .inl hB
    . right;simp only[List.map_cons,Rows.uptoBulkAll] at hB;omega
   simp only[List.length_append] at hl
   obtain⟨row0,a0,r0⟩:=ih _ _ _ _ ht hb0 h0
   obtain⟨row1,a1,r1⟩:=fields_ri ih hT cs r (o' + l0.length) xs m hm hb1 (by simpa using hxl) (fun i p hp=>by
    have:=hx (i+1) p (by simpa using hp)
    simpa using this) (by omega)
   refine⟨row0++row1,a0.append a1,?_⟩
   have hc:cs.drop o'=(cs.drop o').take (P.cellsOf t)++cs.drop (o' + l0.length):=by
    rw[<- cells_of hT hti,hs,<- List.drop_drop,List.take_append_drop]
   rw[hc]
   exact r0.append r1
theorem trod_ri(hT:TOk P T)(B:Nat)(hBm:B<=maxLen):∀ (f k:Nat) (t:TypeId) (cs:List Value) (x:DataW H × List MemPlace) (l:List Shp),shpC T f t=some l->(B=maxLen\/Rows.uptoBulk x.1<=B) ->
    DataW.trod enc P w 0 (fun _=>true) held k t cs=some x->∃ row,TySs B l row/\CellsR T w cs row
 | 0,_,_,_,_,_,h,_,_=>by simp[shpC] at h
 | f+1,k,t,cs,x,l,hok,hB,h=>by
  cases ht:T t with
  | none=>simp[shpC,ht] at hok
  | some ti=>
   obtain⟨s,b,kd,z⟩:=ti
   have hG:=(hT t _ ht).kind
   cases kd with
   | bool=>
    obtain⟨v,rfl,rfl⟩:=DataW.trod_bool hG h
    simp only[shpC,ht] at hok
    obtain⟨hok,_⟩:=lenIs_some hok
    cases hok
    refine⟨[.b (v=true)],?_,.one (.b _ _ Iff.rfl) rfl⟩
    simp only[TySs,TyS,and_true]
    exact⟨_,rfl⟩
   | int kk=>
    obtain⟨n,rfl,rfl,hw⟩:=DataW.trod_int hG h
    simp only[shpC,ht] at hok
    obtain⟨hok,_⟩:=lenIs_some hok
    cases hok
    refine⟨[.i kk n],?_,.one (.i _ _) rfl⟩
    simp[TySs,TyS,hw]
   | str=>
    obtain⟨v,rfl,rfl,hl⟩:=DataW.trod_string hG h
    simp only[shpC,ht] at hok
    obtain⟨hok,_⟩:=lenIs_some hok
    cases hok
    refine⟨[.s v.data.toList],?_,.one (by have:=RI.s (sz:=szOf T) (V:=heapV w) v.data.toList;rwa [bstr_data] at this) rfl⟩
    simp only[TySs,TyS,and_true]
    refine⟨_,rfl,?_⟩
    have hl':v.data.toList.length<=maxLen:=by rw[Array.length_toList];exact hl
    rcases hB with rfl|hB
    . exact hl'
    . simp only[Rows.uptoBulk] at hB;omega
   | slice e=>
    simp only[shpC,ht] at hok
    obtain⟨hok,_⟩:=lenIs_some hok
    split at hok
    case h_2=>cases hok
    rename_i le hle
    cases hok
    obtain⟨hse,hti⟩:=shpC_len hle
    have hce:=cells_of hT hti
    rcases Go.Deep.open_slice hG h with⟨rfl,rfl⟩|⟨a,len,cap,m,n,Df,Pl,rfl,_,hlc,hcm,hm,rfl,hx⟩
    . refine⟨[.lst e [] []],?_,.one (RI.lst e [] [] none ⟨0,0,none⟩ 0 (fun _ _=>undef) (by simp) (by unfold maxLen;omega) (by simp) (by simp) (by simp) (by simp) (by simp)) rfl⟩
      simp only[TySs,TyS,and_true]
      exact⟨[],[],rfl,Nat.zero_le _,fun r hr=>by cases hr⟩
    . simp only[if_true] at hm
      subst hm
      have hbi:∀ i,i<m->(B=maxLen\/Rows.uptoBulk (Df i)<=B):=by
       intro i hi
       rcases hB with hB|hB
       . exact .inl hB
       . right
         simp only[Rows.uptoBulk] at hB
         by_cases hil:i<len
         . have:=bulk_mem (d:=Df i) (l:=(List.range len).map Df) (List.mem_map.2 ⟨i,by simpa using hil,rfl⟩)
           omega
         . have:=bulk_mem (d:=Df i) (l:=(List.range (m - len)).map fun j=>Df (len+j)) (List.mem_map.2 ⟨i - len,by simp;omega,by rw[show len+(i - len)=i by omega]⟩)
           omega
      have hmB:m<=B:=by
       rcases hB with rfl|hB
       . exact hcm
       . simp only[Rows.uptoBulk] at hB
         have h1:=bulk_length ((List.range len).map Df)
         have h2:=bulk_length ((List.range (m - len)).map fun j=>Df (len+j))
         simp at h1 h2
         omega
      have key:∀ i,i<m->∃ p:List Value × List D,w.cells? 0 (a.add (i*szOf T e)) (szOf T e)=some p.1/\TySs B le p.2/\CellsR T w p.1 p.2:=by
       intro i hi
       obtain⟨cs',h1,h2⟩:=hx i hi
       obtain⟨row,h3,h4⟩:=trod_ri hT B hBm f n e cs' _ le hle (hbi i hi) h2
       exact⟨(cs',row),by rw[hce];exact h1,h3,h4⟩
      obtain⟨g,hg⟩:=Go.Deep.choose_lt key
      have hat:∀ (i:Nat) row,(((List.range len).map fun i=>(g i).2)++((List.range (m - len)).map fun j=>(g (len+j)).2))[i]? = some row->i<m/\row=(g i).2:=by
       intro i row hr
       by_cases hil:i<len
       . rw[List.getElem?_append_left (by simpa using hil)] at hr
         simp[hil] at hr
         exact⟨by omega,hr.symm⟩
       . rw[List.getElem?_append_right (by simp;omega)] at hr
         simp only[List.length_map,List.length_range,List.getElem?_map,Option.map_eq_some_iff] at hr
         obtain⟨j,hj,rfl⟩:=hr
         have hj2:=List.getElem?_eq_some_iff.1 hj
         obtain⟨hj3,hj4⟩:=hj2
         simp at hj3 hj4
         refine⟨by omega,by rw[<- hj4,show len+(i - len)=i by omega]⟩
      have hcell:∀ i,i<m->(g i).1.length=szOf T e/\∀ j,j<szOf T e->w.cell? ((a.add (i*szOf T e)).add j)=(g i).1[j]?:=by
       intro i hi
       obtain⟨_,h2,h3⟩:=World.cells?_some (hg i hi).1
       exact⟨h2,h3⟩
      refine⟨[.lst e ((List.range len).map fun i=>(g i).2) ((List.range (m - len)).map fun j=>(g (len+j)).2)],?_,.one ?_ rfl⟩
      . simp only[TySs,TyS,and_true]
        refine⟨_,_,rfl,by simp;omega,fun r hr=>?_⟩
        obtain⟨i,hi⟩:=List.getElem?_of_mem hr
        obtain⟨h1,rfl⟩:=hat i r hi
        exact (hg i h1).2.1
      . have hres:=RI.lst (sz:=szOf T) (V:=heapV w) e ((List.range len).map fun i=>(g i).2) ((List.range (m - len)).map fun j=>(g (len+j)).2) (some a) a m (fun i j=>(g i).1.getD j undef)
          (by simp;omega) hcm (fun _=>rfl) (fun hno=>by cases hno)
          (fun i row hr=>by
           obtain⟨h1,rfl⟩:=hat i row hr
           rw[<- (hg i h1).2.2.1,(hcell i h1).1])
          (fun i row j d hr hd=>by
           obtain⟨h1,rfl⟩:=hat i row hr
           have hj:j<(g i).1.length:=by rw[(hg i h1).2.2.1];exact (List.getElem?_eq_some_iff.1 hd).1
           have h2:=(hcell i h1).2 j (by rw[<- (hcell i h1).1];exact hj)
           have hv:(g i).1[j]? = some ((g i).1.getD j undef):=by simp[List.getD,List.getElem?_eq_getElem hj]
           refine⟨?_,((hg i h1).2.2.2 j _ d hv hd).2⟩
           show w.cell? _=_
           rw[<- add_add,h2,hv])
          (fun i row j d hr hd=>by
           obtain⟨h1,rfl⟩:=hat i row hr
           have hj:j<(g i).1.length:=by rw[(hg i h1).2.2.1];exact (List.getElem?_eq_some_iff.1 hd).1
           have hv:(g i).1[j]? = some ((g i).1.getD j undef):=by simp[List.getD,List.getElem?_eq_getElem hj]
           exact ((hg i h1).2.2.2 j _ d hv hd).1)
        simpa using hres
   | struct fs=>
    simp only[shpC,ht] at hok
    obtain⟨hok,hs⟩:=lenIs_some hok
    obtain⟨fa,hu,hfa⟩:=hG
    obtain⟨xs,n,_,rfl,hl,hxl,hx⟩:=DataW.trod_struct hu h
    have hc:P.cellsOf t=s:=by
     obtain⟨i,z',h1,h2,_⟩:=(hT t _ ht).info
     simp[Program.cellsOf,h1,h2]
    have hfl:fs.length=fa.size:=by rw[<- hfa];simp
    obtain⟨row,h1,h2⟩:=fields_ri (fun t cs x l a b c=>trod_ri hT B hBm f n t cs x l a b c) hT cs fs 0 xs l hok (by
        rcases hB with hB|hB
        . exact .inl hB
        . right;simp only[Rows.uptoBulk] at hB;omega) (by rw[hxl,hfl]) (fun i p hp=>by
        rw[<- hfa] at hp
        simp only[List.getElem?_map,Option.map_eq_some_iff] at hp
        obtain⟨fd,h3,rfl⟩:=hp
        exact hx i fd (by simpa using h3)) (by rw[hl,hc,hs,Nat.zero_add])
    exact⟨row,h1,by simpa using h2⟩
   | array n e=>simp[shpC,ht] at hok
   | ptr e=>simp[shpC,ht] at hok
   | other=>simp[shpC,ht] at hok
end
end Go.Vx
namespace Go.Vx
open Go.RowKit Go.ChangeShapes Go.WideShapes
open Go.Proofs.YtcglkonooeddfaaGreatDoor (Rows.uptoBulk Rows.uptoBulkAll)
def shapes(T:Tab)(f:Nat):List TypeId->Option (List (List Shp))
 | []=>some []
 | t :: ts=>match shpC T f t,shapes T f ts with|some l,some r=>some (l :: r)|_,_=>none
def TyAs(T:Tab)(B:Nat):List TypeId->List (List Shp)->List D->Prop
 | [],[],[]=>True
 | t :: ts,l :: ls,x :: xs=>TyA T B t l x/\TyAs T B ts ls xs
 | _,_,_=>False
section
variable {H : Type} {enc : TypeId × Value → H} {P : Program} {T : Tab} {w : World}
theorem arg_ri(hT:TOk P T){B:Nat}(hBm:B<=maxLen){f base:Nat}{r:Reach}{t:TypeId}{v:Value}{d:DataW H}{ps:List MemPlace}{l:List Shp}(hs:shpC T f t=some l)(hB:B=maxLen\/Rows.uptoBulk d<=B)
    (hv:Value.okWide P w r base t v)(h:DataW.Trod enc P w 0 (fun _=>true) true t v d ps):∃ x,TyA T B t l x/\RI (szOf T) (heapV w) v x:=by
 obtain⟨k,hk⟩:=h
 obtain⟨row,h1,h2⟩:=trod_ri hT B hBm f k t _ _ l hs hB hk
 obtain⟨hz,ti,ht⟩:=shpC_len hs
 obtain⟨s,b,kd,z⟩:=ti
 have hG:=(hT t _ ht).kind
 have one:∀ u,v=u->u.cells=#[u]->TyA T B t l=(fun x=>TySs B l [x])->∃ x,TyA T B t l x/\RI (szOf T) (heapV w) v x:=by
  rintro u rfl hu he
  rw[hu] at h2
  obtain⟨h3,h4⟩:=h2
  match row,h3 with
  | [x],_=>exact⟨x,by rw[he];exact h1,(h4 0 v x rfl rfl).1⟩
 cases kd with
 | bool=>obtain⟨u,rfl⟩:=okWide_bool hG hv;exact one _ rfl rfl (by funext x;simp[TyA,ht])
 | int kk=>obtain⟨u,rfl⟩:=okWide_int hG hv;exact one _ rfl rfl (by funext x;simp[TyA,ht])
 | str=>obtain⟨u,rfl⟩:=okWide_string hG hv;exact one _ rfl rfl (by funext x;simp[TyA,ht])
 | slice e=>obtain⟨a,m,n,rfl⟩:=okWide_slice hG hv;exact one _ rfl rfl (by funext x;simp[TyA,ht])
 | struct fs=>
  obtain⟨fa,hu,_⟩:=hG
  obtain⟨cs,rfl,_⟩:=okWide_struct hu hv
  refine⟨.agg row,by simp only[TyA,ht];exact⟨row,rfl,h1⟩,?_⟩
  simp only[Value.cells] at h2
  refine RI.agg row cs (by simpa using h2.1) (fun u hu=>?_) (fun j u d a b=>(h2.2 j u d (by simpa using a) b).1)
  obtain⟨j,hj⟩:=List.getElem?_of_mem hu
  have hl:j<row.length:=by rw[<- h2.1];exact (List.getElem?_eq_some_iff.1 hj).1
  exact (h2.2 j u _ hj (List.getElem?_eq_getElem hl)).2
 | array n e=>cases f with|zero=>simp[shpC] at hs|succ f=>simp[shpC,ht] at hs
 | ptr e=>cases f with|zero=>simp[shpC] at hs|succ f=>simp[shpC,ht] at hs
 | other=>cases f with|zero=>simp[shpC] at hs|succ f=>simp[shpC,ht] at hs
theorem args_ri(hT:TOk P T){B:Nat}(hBm:B<=maxLen){f base:Nat}{r:Reach}:∀ (ts:List TypeId) (ls:List (List Shp)) (vs:List Value) (ds:List (DataW H)) (ps:List MemPlace),shapes T f ts=some ls ->
    (B=maxLen\/Rows.uptoBulkAll ds<=B)->(∀ (j:Nat) t v,ts[j]? = some t->vs[j]? = some v->Value.okWide P w r base t v)->DataW.TrodAll enc P w 0 (fun _=>true) true ts vs ds ps ->
    ∃ xs,TyAs T B ts ls xs/\vs.length=xs.length/\∀ (j:Nat) v x,vs[j]? = some v->xs[j]? = some x->RI (szOf T) (heapV w) v x
 | [],ls,vs,ds,ps,hs,_,_,h=>by
  obtain⟨rfl,rfl,rfl⟩:=trodAll_nil h
  cases hs
  exact⟨[],trivial,rfl,fun j v x h=>by simp at h⟩
 | t :: ts,ls,vs,ds,ps,hs,hB,hv,h=>by
  obtain⟨v,vs',d,ds',p,q,rfl,rfl,rfl,h1,h2⟩:=trodAll_cons h
  simp only[shapes] at hs
  split at hs
  case h_2=>cases hs
  rename_i l r h3 h4
  cases hs
  obtain⟨x,hx1,hx2⟩:=arg_ri hT hBm h3 (by
   rcases hB with hB|hB
   . exact .inl hB
   . right;simp only[Rows.uptoBulkAll] at hB;omega) (hv 0 t v rfl rfl) h1
  obtain⟨xs,hy1,hy2,hy3⟩:=args_ri hT hBm ts r vs' ds' q h4 (by
   rcases hB with hB|hB
   . exact .inl hB
   . right;simp only[Rows.uptoBulkAll] at hB;omega) (fun j t' v' a b=>hv (j+1) t' v' (by simpa using a) (by simpa using b)) h2
  refine⟨x :: xs,⟨hx1,hy1⟩,by simp[hy2],fun j v' x' a b=>?_⟩
  cases j with
  | zero=>simp at a b;subst a b;exact hx2
  | succ j=>exact hy3 j v' x' (by simpa using a) (by simpa using b)
theorem stays(hl:laidOutB P=true){W W':World}(hb:Below W.heap.size W W'){sp:Nat->Bool}:∀ (ts:List TypeId) (vs:List Value) (ds:List (DataW H)) (ps:List MemPlace),(∀ t ∈ ts,P.readableRec t=true/\t<P.types.size) ->
    (∀ p ∈ ps,p.block<W.heap.size)->(∀ p ∈ ps,sp p.block=true)->DataW.TrodAll enc P W 0 (fun _=>true) true ts vs ds ps->DataW.TrodAll enc P W' 0 sp true ts vs ds ps
 | [],vs,ds,ps,_,_,_,h=>by
  obtain⟨rfl,rfl,rfl⟩:=trodAll_nil h
  exact trodAll_mk0
 | t :: ts,vs,ds,ps,ht,h1,h2,h=>by
  obtain⟨v,vs',d,ds',p,q,rfl,rfl,rfl,h3,h4⟩:=trodAll_cons h
  refine⟨p,q,WideElems.Trod_stays hl (ht t (by simp)).1 (ht t (by simp)).2 h3 (fun x hx=>hb.same (h1 x (by simp[hx]))) (fun x hx=>h2 x (by simp[hx])),
   stays hl hb ts vs' ds' q (fun t' hm=>ht t' (by simp[hm])) (fun x hx=>h1 x (by simp[hx])) (fun x hx=>h2 x (by simp[hx])) h4,rfl⟩
theorem trod_len:∀ {ts:List TypeId} {vs:List Value} {ds:List (DataW H)} {ps:List MemPlace},DataW.TrodAll enc P w 0 (fun _=>true) true ts vs ds ps->ds.length=ts.length
 | [],_,_,_,h=>by obtain⟨rfl,rfl,rfl⟩:=trodAll_nil h;rfl
 | _ :: _,_,_,_,h=>by
  obtain⟨v,vs',d,ds',p,q,rfl,rfl,rfl,_,h4⟩:=trodAll_cons h
  simp[trod_len h4]
theorem law_calls(hT:TOk P T){B:Nat}(hBm:B<=maxLen){f:FuncId}{fn:Func}{s:ChangeSpec}{ls:List (List Shp)}{n:Nat}{tb:TypeId}{ts:List TypeId}(hp:fn.params.toList=ts)(hr:fn.resultTypes=#[tb])(htb:P.underlying tb=some .bool)
    (hsv:s.vars=[])(hs:∀ (ds:List (DataW H)),ds.length=ts.length->s.fn H ds={ results:=[.lit (.bool true)],args:=ds })
    (hl:laidOutB P=true)(hts:∀ t ∈ ts,P.readableRec t=true/\t<P.types.size)(hsh:shapes T n ts=some ls)
    (hlaw:∀ xs,TyAs T B ts ls xs->FSpec P T f xs (fun d _=>d = .b True))
    (W:World)(base:Nat)(args:Array Value)(ds gs:List (DataW H))(before:List MemPlace)
    (hval:∀ (j:Nat) t v,fn.params[j]? = some t->args[j]? = some v->Value.okWide P W .any base t v)
    (hW:DataW.Whole enc P fn.params.toList s.vars false W args.toList ds gs before)(hB:B=maxLen\/Rows.uptoBulkAll (ds++gs)<=B)
    (hgl:GlOk W:=by exact⟨by intro p v hp;unfold glV glD at hp;split at hp<;>(cases hp),by intro g cs hg;unfold glD at hg;split at hg<;>(cases hg)⟩) :
    Calls P f args W fun e W'=>∃ v,e = .returned v/\s.post enc P fn false true false false W args v W':=by
 have hlt:=hW.lt
 obtain⟨p,q,hA,hV,rfl,hfz,hnd⟩:=id hW
 rw[hsv] at hV
 obtain⟨rfl,rfl⟩:=trodVars_none hV
 simp only[List.append_nil] at hlt hB hfz
 rw[hp] at hA
 obtain⟨xs,h1,h2,h3⟩:=args_ri hT hBm ts ls args.toList ds p hsh hB (fun j t v a b=>hval j t v (by rw[<- hp] at a;simpa using a) (by simpa using b)) hA
 have hdl:ds.length=ts.length:=trod_len hA
 refine ((hlaw xs h1).run (heapV W) W args ⟨hgl,fun _ _ h=>h⟩ (by simpa using h2) (fun j v d a b=>h3 j v d (by simpa using a) b)).mono fun e W' hx=>?_
 obtain⟨V',ω,row,v,d,rfl,hd,hRS,hres⟩:=hx
 subst hd
 obtain⟨b,rfl,hbt⟩:=hRS.bool
 have hbt:b=true:=hbt.2 trivial
 subst hbt
 refine⟨_,rfl,?_⟩
 have hb:=hres.below
 have hargs:∀ sp:Nat->Bool,(∀ x ∈ p,sp x.block=true)->DataW.TrodAll enc P W' 0 sp true fn.params.toList args.toList ds p:=fun sp hsp=>by
  rw[hp];exact stays hl hb ts args.toList ds p hts hlt hsp hA
 have hrs:∀ (b:Nat) (sp:Nat->Bool) (hd:Bool),DataW.TrodAll enc P W' b sp hd fn.resultTypes.toList ((Value.bool true).resultList fn.resultTypes.size) [.lit (.bool true)] []:=fun b sp hd=>by
  rw[hr]
  exact trodAll_mk1 (shut_bool htb _)
 have hsf:=hs ds hdl
 refine⟨ds,[],p,[],p,[],by simpa using hW,?_,?_,?_,?_,?_⟩
 . rw[List.append_nil,hsf];exact hrs _ _ _
 . rw[List.append_nil,hsf];exact hargs _ fun x hx=>by simpa using hlt x hx
 . rw[hsv,List.append_nil,hsf];exact rfl
 . exact World.keptBut_mono (fun x hx=>⟨hx,by simpa using hx⟩) (hb.frame (· ∈ p))
 . intro _
   refine⟨?_,?_⟩
   . exact ok_one hr rfl (okWide_bool_mk htb _)
   . refine⟨_,[],([]++p)++[],⟨[]++p,[],trodAll_append (hargs _ (fun _ _=>rfl)) (hrs 0 _ _),?_,rfl,?_,fun h=>by cases h⟩,fun x hx _=>by simpa using hx⟩
     . rw[hsv];rfl
     . intro b off hx
       have hin:MemPlace.cell b off ∈ p:=by simpa using hx
       rw[hb.frozen (hlt _ hin)]
       exact hfz b off hin
end
end Go.Vx
namespace Go.Vx
open Go.RowKit
theorem ss_cons{B:Nat}{s:Shp}{ss:List Shp}{r:List D}(h:TySs B (s :: ss) r):∃ d ds,r=d :: ds/\TySs B [s] [d]/\TySs B ss ds:=by
 cases r with
 | nil=>simp[TySs] at h
 | cons d ds=>simp only[TySs] at h;exact⟨d,ds,rfl,by simpa only[TySs,and_true] using h.1,h.2⟩
theorem ss_nil{B:Nat}{r:List D}(h:TySs B [] r):r=[]:=by
 cases r with
 | nil=>rfl
 | cons d ds=>simp[TySs] at h
theorem as_cons{T:Tab}{B:Nat}{t:TypeId}{ts:List TypeId}{l:List Shp}{ls:List (List Shp)}{xs:List D}(h:TyAs T B (t :: ts) (l :: ls) xs):∃ x r,xs=x :: r/\TyA T B t l x/\TyAs T B ts ls r:=by
 cases xs with
 | nil=>exact h.elim
 | cons x r=>exact⟨x,r,rfl,h.1,h.2⟩
theorem as_nil{T:Tab}{B:Nat}{xs:List D}(h:TyAs T B [] [] xs):xs=[]:=by
 cases xs with
 | nil=>rfl
 | cons x r=>exact h.elim
def isSt:Option TI->Bool|some ⟨_,_,.struct _,_⟩=>true|_=>false
theorem leaf{T:Tab}{B:Nat}{t:TypeId}{l:List Shp}{x:D}(h:TyA T B t l x)(ht:isSt (T t)=false):TySs B l [x]:=by
 unfold TyA at h
 split at h
 . rename_i h1;rw[h1] at ht;cases ht
 . exact h
theorem agg_of{T:Tab}{B:Nat}{t:TypeId}{l:List Shp}{x:D}(h:TyA T B t l x)(ht:isSt (T t)=true):∃ row,x = .agg row/\TySs B l row:=by
 unfold TyA at h
 split at h
 . exact h
 . rename_i h1
   exfalso
   unfold isSt at ht
   split at ht
   . rename_i h2;exact h1 _ _ _ _ h2
   . cases ht
theorem bool_of{B:Nat}{x:D}(h:TySs B [.bool] [x]):∃ p,x = .b p:=by
 simpa only[TySs,TyS,and_true] using h
theorem list_of{α:Type}{f:α->List D}{p:α->Prop}:∀ {rows:List (List D)},(∀ r ∈ rows,∃ a,r=f a/\p a)->∃ l:List α,rows=l.map f/\∀ a ∈ l,p a
 | [],_=>⟨[],rfl,by simp⟩
 | r :: rows,h=>by
  obtain⟨a,rfl,ha⟩:=h r (by simp)
  obtain⟨l,rfl,hl⟩:=list_of (rows:=rows) fun r hr=>h r (by simp[hr])
  exact⟨a :: l,rfl,by simpa using ⟨ha,hl⟩⟩
theorem lst_of{B:Nat}{α:Type}{f:α->List D}{p:α->Prop}{e:TypeId}{l:List Shp}{x:D}(h:TySs B [.slice e l] [x])(hf:∀ r,TySs B l r->∃ a,r=f a/\p a) :
    ∃ (us:List α) (room:List α),x = .lst e (us.map f) (room.map f)/\us.length+room.length<=B/\(∀ a ∈ us,p a)/\∀ a ∈ room,p a:=by
 simp only[TySs,TyS,and_true] at h
 obtain⟨rows,room,rfl,hl,hr⟩:=h
 obtain⟨us,rfl,h1⟩:=list_of (f:=f) (p:=p) (rows:=rows) fun r h=>hf r (hr r (by simp[h]))
 obtain⟨bs,rfl,h2⟩:=list_of (f:=f) (p:=p) (rows:=room) fun r h=>hf r (hr r (by simp[h]))
 exact⟨us,bs,rfl,by simpa using hl,h1,h2⟩
theorem int_of{B:Nat}{k:IntKind}{x:D}(h:TySs B [.int k] [x]):∃ n,x = .i k n/\(Lit.int k n).wf=true:=by
 simpa only[TySs,TyS,and_true] using h
theorem str_of{B:Nat}{x:D}(h:TySs B [.str] [x]):∃ l,x = .s l/\l.length<=B:=by
 simpa only[TySs,TyS,and_true] using h
theorem wf64{n:Int}(h:(Lit.int .i64 n).wf=true):-9223372036854775808<=n/\n<=9223372036854775807:=by
 simpa[Lit.wf,IntKind.min,IntKind.max,IntKind.signed,IntKind.bits] using h
end Go.Vx
namespace Go.Proofs.YtcglkonooeddfaaGreatDoor
open Go
abbrev Str:=List UInt8
def meet1(a b:UInt8):Option UInt8:=if a=120 then some b else if b=120\/b=a then some a else none
def meetL:Str->Str->Option Str
 | [],[]=>some []
 | a :: c,b :: d=>match meet1 a b,meetL c d with
  | some x,some r=>some (x :: r)
  | _,_=>none
 | _,_=>none
def meetT(c d:Str):Option Str:=if c=[] then none else meetL c d
theorem meetL_len:∀ {c d m:Str},meetL c d=some m->c.length=m.length/\d.length=m.length
 | [],[],m,h=>by cases h;exact⟨rfl,rfl⟩
 | [],_ :: _,_,h=>by cases h
 | _ :: _,[],_,h=>by cases h
 | a :: c,b :: d,m,h=>by
  unfold meetL at h
  cases h1:meet1 a b with
  | none=>rw[h1] at h;cases h
  | some x=>cases h2:meetL c d with
   | none=>rw[h1,h2] at h;cases h
   | some r=>
    rw[h1,h2] at h
    cases h
    have:=meetL_len h2
    simp[this.1,this.2]
end Go.Proofs.YtcglkonooeddfaaGreatDoor
namespace Go.Proofs.YtcglkonooeddfaaGreatDoor
open Go Go.Vx
def wof(f:Nat->Bool)(k:Nat):BitVec 64:=(BitVec.ofBoolListLE ((List.range 64).map fun i=>f (64*k+i))).setWidth 64
theorem wof_get(f:Nat->Bool)(k i:Nat)(h:i<64):(wof f k).getLsbD i=f (64*k+i):=by
 unfold wof
 rw[BitVec.getLsbD_setWidth,BitVec.getLsbD_ofBoolListLE]
 simp[h,List.getD]
theorem wof_ext{f g:Nat->Bool}{k:Nat}(h:∀ i,i<64->f (64*k+i)=g (64*k+i)):wof f k=wof g k:=
 BitVec.eq_of_getLsbD_eq fun i hi=>by rw[wof_get _ _ _ hi,wof_get _ _ _ hi];exact h i hi
theorem bv_id(x:BitVec 64):BitVec.ofInt IntKind.u64.bits (x.toNat:Int)=x:=by
 show BitVec.ofInt 64 (x.toNat:Int)=x
 simp
theorem wrap_id(x:BitVec 64):IntKind.u64.wrap (x.toNat:Int)=(x.toNat:Int):=by
 have:=x.isLt
 simp[IntKind.wrap,IntKind.bits,IntKind.signed]
 omega
section
variable {p : Int → Prop} {x y : BitVec 64}
theorem nAnd(h:p ((x &&& y).toNat:Int)):∃ n,n=IntKind.u64.wrap ((BitVec.ofInt IntKind.u64.bits (x.toNat:Int) &&& BitVec.ofInt IntKind.u64.bits (y.toNat:Int)).toNat:Int)/\p n:=⟨_,rfl,by
 have key:∀ (a b:BitVec 64),a=x->b=y->IntKind.u64.wrap ((a &&& b).toNat:Int)=(((x &&& y):BitVec 64).toNat:Int):=by
  rintro _ _ rfl rfl
  exact wrap_id _
 exact (congrArg p (key _ _ (bv_id x) (bv_id y))).mpr h⟩
theorem nOr(h:p ((x ||| y).toNat:Int)):∃ n,n=IntKind.u64.wrap ((BitVec.ofInt IntKind.u64.bits (x.toNat:Int) ||| BitVec.ofInt IntKind.u64.bits (y.toNat:Int)).toNat:Int)/\p n:=⟨_,rfl,by
 have key:∀ (a b:BitVec 64),a=x->b=y->IntKind.u64.wrap ((a ||| b).toNat:Int)=(((x ||| y):BitVec 64).toNat:Int):=by
  rintro _ _ rfl rfl
  exact wrap_id _
 exact (congrArg p (key _ _ (bv_id x) (bv_id y))).mpr h⟩
theorem nXor(h:p ((x ^^^ y).toNat:Int)):∃ n,n=IntKind.u64.wrap ((BitVec.ofInt IntKind.u64.bits (x.toNat:Int) ^^^ BitVec.ofInt IntKind.u64.bits (y.toNat:Int)).toNat:Int)/\p n:=⟨_,rfl,by
 have key:∀ (a b:BitVec 64),a=x->b=y->IntKind.u64.wrap ((a ^^^ b).toNat:Int)=(((x ^^^ y):BitVec 64).toNat:Int):=by
  rintro _ _ rfl rfl
  exact wrap_id _
 exact (congrArg p (key _ _ (bv_id x) (bv_id y))).mpr h⟩
theorem nAnd1(h:p ((x &&& 1#64).toNat:Int)):∃ n,n=IntKind.u64.wrap ((BitVec.ofInt IntKind.u64.bits (x.toNat:Int) &&& BitVec.ofInt IntKind.u64.bits 1).toNat:Int)/\p n:=by
 have:((1#64:BitVec 64).toNat:Int)=1:=rfl
 have h2:=nAnd (p:=p) (x:=x) (y:=1#64) h
 rwa [this] at h2
theorem nShr{r:Int}{k:Nat}(hr:r=(k:Int)/\k<64)(h:p ((x >>> k).toNat:Int)):∃ n,n=(x.toNat:Int).fdiv (2 ^ (min r.toNat IntKind.u64.bits))/\p n:=by
 refine⟨_,rfl,?_⟩
 obtain⟨rfl,hk⟩:=hr
 have e1:min ((k:Int).toNat) IntKind.u64.bits=k:=by
  show min k 64=k
  omega
 rw[e1]
 have e2:((x.toNat:Int).fdiv (2 ^ k))=((x >>> k).toNat:Int):=by
  rw[BitVec.toNat_ushiftRight,Nat.shiftRight_eq_div_pow,Int.fdiv_eq_ediv_of_nonneg _ (Int.pow_nonneg (by omega))]
  push_cast
  rfl
 rw[e2]
 exact h
theorem nShl1{r:Int}{k:Nat}(hr:r=(k:Int)/\k<64)(h:p ((1#64 <<< k).toNat:Int)):∃ n,n=IntKind.u64.wrap (1*2 ^ (min r.toNat IntKind.u64.bits))/\p n:=by
 refine⟨_,rfl,?_⟩
 obtain⟨rfl,hk⟩:=hr
 have e1:min ((k:Int).toNat) IntKind.u64.bits=k:=by
  show min k 64=k
  omega
 rw[e1]
 have hlt:2 ^ k<2 ^ 64:=Nat.pow_lt_pow_right (by omega) hk
 have e2:(1*2 ^ k:Int)=((1#64 <<< k).toNat:Int):=by
  rw[BitVec.toNat_shiftLeft,Nat.shiftLeft_eq]
  simp only[BitVec.toNat_ofNat]
  rw[show (1 % 2 ^ 64*2 ^ k) % 2 ^ 64=2 ^ k by rw[Nat.mod_eq_of_lt (a:=1) (by decide),Nat.one_mul,Nat.mod_eq_of_lt hlt]]
  push_cast
  omega
 rw[e2,wrap_id]
 exact h
end
theorem nAnd1'{p:Int->Prop}{x:BitVec 64}{c:Int}(hc:c=1)(h:p ((x &&& 1#64).toNat:Int)):∃ n,n=IntKind.u64.wrap ((BitVec.ofInt IntKind.u64.bits (x.toNat:Int) &&& BitVec.ofInt IntKind.u64.bits c).toNat:Int)/\p n:=by
 subst hc;exact nAnd1 h
theorem nShl1'{p:Int->Prop}{r c:Int}{k:Nat}(hc:c=1)(hr:r=(k:Int)/\k<64)(h:p ((1#64 <<< k).toNat:Int)):∃ n,n=IntKind.u64.wrap (c*2 ^ (min r.toNat IntKind.u64.bits))/\p n:=by
 subst hc;exact nShl1 hr h
theorem bit_at(x:BitVec 64)(k:Nat):(((x >>> k) &&& 1#64).toNat:Int)=1 ↔ x.getLsbD k=true:=by
 have h1:((x >>> k) &&& 1#64).toNat=(x.getLsbD k).toNat:=by
  rw[BitVec.toNat_and,BitVec.toNat_ushiftRight]
  simp only[BitVec.toNat_ofNat]
  rw[show 1 % 2 ^ 64=1 from rfl,Nat.and_one_is_mod,BitVec.getLsbD,Nat.testBit]
  simp
  have:=Nat.mod_two_eq_zero_or_one (x.toNat >>> k)
  rcases this with h|h<;>simp[h]
 rw[h1]
 cases x.getLsbD k<;>simp
theorem quo64{i q r:Nat}(h:i=64*q+r)(hr:r<64)(hi:i<1000):(q:Int)=IntKind.i64.wrap ((i:Int).tdiv 64):=by
 subst h
 have e:((64*q+r:Nat):Int).tdiv 64=(q:Int):=by
  rw[Int.tdiv_eq_ediv_of_nonneg (by omega)]
  omega
 rw[e,IntKind.wrap_i64]
 omega
theorem rem64{i q r:Nat}(h:i=64*q+r)(hr:r<64):(r:Int)=((i:Int).tmod 64):=by
 subst h
 rw[Int.tmod_eq_emod_of_nonneg (by omega)]
 omega
theorem word_nz{x:BitVec 64}:((x.toNat:Int) ≠ 0) ↔ ∃ i,i<64/\x.getLsbD i=true:=by
 constructor
 . intro h
   apply Classical.byContradiction
   intro hn
   apply h
   have:x=0#64:=BitVec.eq_of_getLsbD_eq fun i hi=>by
    cases hx:x.getLsbD i
    . simp
    . exact absurd ⟨i,hi,hx⟩ hn
   rw[this]
   rfl
 . rintro⟨i,hi,h⟩ h0
   have:x=0#64:=BitVec.eq_of_toNat_eq (by simpa using h0)
   rw[this] at h
   simp at h
def dig(b:UInt8):Bool:=b == 48 || b == 49
def car(t:Str)(i:Nat):Bool:=match t[i]? with|some b=>dig b|none=>false
def one(t:Str)(i:Nat):Bool:=match t[i]? with|some b=>b == 49|none=>false
@[reducible] def cells9(n:Nat)(c o:Nat->Bool):List D:=[.i .i64 (n:Int),.i .u64 ((wof c 0).toNat:Int),.i .u64 ((wof c 1).toNat:Int),.i .u64 ((wof c 2).toNat:Int),.i .u64 ((wof c 3).toNat:Int),.i .u64 ((wof o 0).toNat:Int),.i .u64 ((wof o 1).toNat:Int),.i .u64 ((wof o 2).toNat:Int),.i .u64 ((wof o 3).toNat:Int)]
@[reducible] def crow(t:Str):List D:=cells9 t.length (car t) (one t)
structure CT(t:Str):Prop where
 len:t.length<=256
 cub:∀ b ∈ t,b=48\/b=49\/b=120
theorem crow_nil:crow []=[.i .i64 0,.i .u64 0,.i .u64 0,.i .u64 0,.i .u64 0,.i .u64 0,.i .u64 0,.i .u64 0,.i .u64 0]:=by
 have h:∀ k,wof (car []) k=0#64:=fun k=>BitVec.eq_of_getLsbD_eq fun i hi=>by rw[wof_get _ _ _ hi];simp[car]
 have h2:∀ k,wof (one []) k=0#64:=fun k=>BitVec.eq_of_getLsbD_eq fun i hi=>by rw[wof_get _ _ _ hi];simp[one]
 simp[h,h2]
theorem car_lt{t:Str}{i:Nat}(h:car t i=true):i<t.length:=by
 unfold car at h
 split at h
 . rename_i b hb;exact (List.getElem?_eq_some_iff.1 hb).1
 . cases h
theorem put_word{f g:Nat->Bool}{i q r:Nat}(hi:i=64*q+r)(hr:r<64)(hg:∀ j,g j=(f j || decide (j=i)))(k:Nat):wof g k=if k=q then wof f k ||| 1#64 <<< r else wof f k:=by
 refine BitVec.eq_of_getLsbD_eq fun j hj=>?_
 rw[wof_get _ _ _ hj,hg]
 split
 . rename_i hk
   subst hk
   rw[BitVec.getLsbD_or,wof_get _ _ _ hj,BitVec.getLsbD_shiftLeft,BitVec.getLsbD_one]
   congr 1
   by_cases hjr:j=r
   . subst hjr;simp[hi,hj]
   . have h1:¬ 64*k+j=i:=by omega
     have h2:¬ (j - r=0/\¬ j<r):=by omega
     simp[h1,hj]
     omega
 . rename_i hk
   rw[wof_get _ _ _ hj]
   have h1:¬ 64*k+j=i:=by omega
   simp[h1]
theorem take_get{t:Str}{i:Nat}{b:UInt8}(h:t[i]? = some b)(j:Nat):(t.take (i+1))[j]? = if j=i then some b else (t.take i)[j]?:=by
 rw[List.getElem?_take,List.getElem?_take]
 by_cases hj:j=i
 . subst hj;simp[h]
 . by_cases h2:j<i
   . simp[hj,h2,show j<i+1 by omega]
   . simp[hj,h2,show ¬ j<i+1 by omega]
theorem car_at_end(t:Str)(i:Nat):car (t.take i) i=false:=by
 unfold car
 rw[List.getElem?_take]
 simp
theorem one_at_end(t:Str)(i:Nat):one (t.take i) i=false:=by
 unfold one
 rw[List.getElem?_take]
 simp
theorem car_put{t:Str}{i:Nat}{b:UInt8}(h:t[i]? = some b)(hd:dig b=true)(j:Nat):car (t.take (i+1)) j=(car (t.take i) j || decide (j=i)):=by
 by_cases hj:j=i
 . subst hj
   rw[car_at_end]
   unfold car
   rw[take_get h]
   simp[hd]
 . unfold car
   rw[take_get h]
   simp[hj]
theorem one_put{t:Str}{i:Nat}(h:t[i]? = some 49)(j:Nat):one (t.take (i+1)) j=(one (t.take i) j || decide (j=i)):=by
 by_cases hj:j=i
 . subst hj
   rw[one_at_end]
   unfold one
   rw[take_get h]
   simp
 . unfold one
   rw[take_get h]
   simp[hj]
theorem car_same{t:Str}{i:Nat}{b:UInt8}(h:t[i]? = some b)(hd:dig b=false)(k:Nat):wof (car (t.take (i+1))) k=wof (car (t.take i)) k:=by
 refine wof_ext fun j _=>?_
 generalize 64*k+j=m
 by_cases hj:m=i
 . subst hj
   rw[car_at_end]
   unfold car
   rw[take_get h]
   simp[hd]
 . unfold car
   rw[take_get h]
   simp[hj]
theorem one_same{t:Str}{i:Nat}{b:UInt8}(h:t[i]? = some b)(hd:b ≠ 49)(k:Nat):wof (one (t.take (i+1))) k=wof (one (t.take i)) k:=by
 refine wof_ext fun j _=>?_
 generalize 64*k+j=m
 by_cases hj:m=i
 . subst hj
   rw[one_at_end]
   unfold one
   rw[take_get h]
   simp[hd]
 . unfold one
   rw[take_get h]
   simp[hj]
theorem at_word{f:Nat->Bool}{i q r:Nat}(hi:i=64*q+r)(hr:r<64):((((wof f q) >>> r) &&& 1#64).toNat:Int)=1 ↔ f i=true:=by
 rw[bit_at,wof_get _ _ _ hr,hi]
theorem split64(i:Nat)(h:i<256):∃ q r,i=64*q+r/\r<64/\(q=0\/q=1\/q=2\/q=3):=⟨i / 64,i % 64,by omega,by omega,by omega⟩
end Go.Proofs.YtcglkonooeddfaaGreatDoor
namespace Go.Proofs.YtcglkonooeddfaaGreatDoor
open Go Go.Vx
theorem meetL_get:∀ {c d m:Str},meetL c d=some m->∀ (i:Nat) a b,c[i]? = some a->d[i]? = some b->∃ x,m[i]? = some x/\meet1 a b=some x
 | [],[],_,_,i,a,b,ha,_=>by simp at ha
 | [],_ :: _,_,h,_,_,_,_,_=>by cases h
 | _ :: _,[],_,h,_,_,_,_,_=>by cases h
 | a0 :: c,b0 :: d,m,h,i,a,b,ha,hb=>by
  unfold meetL at h
  cases h1:meet1 a0 b0 with
  | none=>rw[h1] at h;cases h
  | some x=>cases h2:meetL c d with
   | none=>rw[h1,h2] at h;cases h
   | some r=>
    rw[h1,h2] at h
    cases h
    cases i with
    | zero=>simp at ha hb;subst ha hb;exact⟨x,rfl,h1⟩
    | succ i=>exact meetL_get h2 i a b (by simpa using ha) (by simpa using hb)
theorem meetL_ex:∀ {c d:Str},c.length=d.length->(∀ (i:Nat) a b,c[i]? = some a->d[i]? = some b->meet1 a b ≠ none)->∃ m,meetL c d=some m
 | [],[],_,_=>⟨[],rfl⟩
 | [],_ :: _,h,_=>by simp at h
 | _ :: _,[],h,_=>by simp at h
 | a :: c,b :: d,h,hh=>by
  obtain⟨m,hm⟩:=meetL_ex (c:=c) (d:=d) (by simpa using h) fun i a b ha hb=>hh (i+1) a b (by simpa using ha) (by simpa using hb)
  have:=hh 0 a b rfl rfl
  cases h1:meet1 a b with
  | none=>exact absurd h1 this
  | some x=>exact⟨x :: m,by unfold meetL;rw[h1,hm]⟩
theorem meetL_ct:∀ {c d m:Str},meetL c d=some m->(∀ b ∈ c,b=48\/b=49\/b=120)->(∀ b ∈ d,b=48\/b=49\/b=120)->∀ b ∈ m,b=48\/b=49\/b=120
 | [],[],m,h,_,_=>by cases h;simp
 | [],_ :: _,_,h,_,_=>by cases h
 | _ :: _,[],_,h,_,_=>by cases h
 | a0 :: c,b0 :: d,m,h,hc,hd=>by
  unfold meetL at h
  cases h1:meet1 a0 b0 with
  | none=>rw[h1] at h;cases h
  | some x=>cases h2:meetL c d with
   | none=>rw[h1,h2] at h;cases h
   | some r=>
    rw[h1,h2] at h
    cases h
    intro b hb
    rcases List.mem_cons.1 hb with rfl|hb
    . unfold meet1 at h1
      split at h1
      . cases h1;exact hd _ (by simp)
      . split at h1
        . cases h1;exact hc _ (by simp)
        . cases h1
    . exact meetL_ct h2 (fun b hb=>hc b (by simp[hb])) (fun b hb=>hd b (by simp[hb])) b hb
theorem meetT_ct{c d m:Str}(h:meetT c d=some m)(hc:CT c)(hd:CT d):CT m/\m.length=c.length/\c ≠ []:=by
 unfold meetT at h
 split at h
 . cases h
 . rename_i hne
   have hl:=meetL_len h
   exact⟨⟨by rw[<- hl.1];exact hc.len,meetL_ct h hc.cub hd.cub⟩,hl.1.symm,hne⟩
theorem meetT_eq{c d:Str}(h:c ≠ []):meetT c d=meetL c d:=by unfold meetT;rw[if_neg h]
def cfl(c d:Str)(i:Nat):Bool:=(xor (one c i) (one d i) && car c i) && car d i
theorem word_cfl(c d:Str)(k:Nat):(((wof (one c) k ^^^ wof (one d) k) &&& wof (car c) k) &&& wof (car d) k)=wof (cfl c d) k:=by
 refine BitVec.eq_of_getLsbD_eq fun i hi=>?_
 rw[BitVec.getLsbD_and,BitVec.getLsbD_and,BitVec.getLsbD_xor,wof_get _ _ _ hi,wof_get _ _ _ hi,wof_get _ _ _ hi,wof_get _ _ _ hi,wof_get _ _ _ hi]
 rfl
theorem at_b{t:Str}{i:Nat}{b:UInt8}(h:t[i]? = some b):car t i=dig b/\one t i=(b == 49):=by
 unfold car one
 rw[h]
 exact⟨rfl,rfl⟩
theorem at_out{t:Str}{i:Nat}(h:t.length<=i):car t i=false/\one t i=false:=by
 unfold car one
 rw[List.getElem?_eq_none h]
 exact⟨rfl,rfl⟩
theorem meet1_cfl{a b:UInt8}(ha:a=48\/a=49\/a=120)(hb:b=48\/b=49\/b=120):meet1 a b=none ↔ ((xor (a == 49) (b == 49) && dig a) && dig b)=true:=by
 rcases ha with rfl|rfl|rfl<;>rcases hb with rfl|rfl|rfl<;>simp[meet1,dig]
theorem meet1_bits{a b x:UInt8}(ha:a=48\/a=49\/a=120)(hb:b=48\/b=49\/b=120)(h:meet1 a b=some x):dig x=(dig a || dig b)/\(x == 49)=((a == 49) || (b == 49)):=by
 rcases ha with rfl|rfl|rfl<;>rcases hb with rfl|rfl|rfl<;>simp[meet1] at h<;>subst h<;>simp[dig]
theorem cfl_none{c d:Str}(hc:CT c)(hd:CT d){i:Nat}(h:cfl c d i=true):meetT c d=none:=by
 unfold meetT
 split
 . rfl
 . cases hm:meetL c d with
   | none=>rfl
   | some m=>
    exfalso
    unfold cfl at h
    simp only[Bool.and_eq_true] at h
    have h1:=car_lt h.1.2
    have h2:=car_lt h.2
    have e1:=List.getElem?_eq_getElem h1
    have e2:=List.getElem?_eq_getElem h2
    obtain⟨x,_,hx⟩:=meetL_get hm i _ _ e1 e2
    have:=(meet1_cfl (hc.cub _ (List.getElem_mem h1)) (hd.cub _ (List.getElem_mem h2))).2 (by
     rw[(at_b e1).2,(at_b e2).2,(at_b e1).1,(at_b e2).1] at h
     simp[h.1.1,h.1.2,h.2])
    rw[this] at hx
    cases hx
theorem cfl_some{c d:Str}(hc:CT c)(hd:CT d)(hl:c.length=d.length)(hne:c ≠ [])(h:∀ i,cfl c d i=false):∃ m,meetT c d=some m/\(∀ i,car m i=(car c i || car d i))/\∀ i,one m i=(one c i || one d i):=by
 obtain⟨m,hm⟩:=meetL_ex hl fun i a b ha hb hn=>by
  have h1:=(meet1_cfl (hc.cub _ (List.mem_of_getElem? ha)) (hd.cub _ (List.mem_of_getElem? hb))).1 hn
  have h2:=h i
  unfold cfl at h2
  rw[(at_b ha).2,(at_b hb).2,(at_b ha).1,(at_b hb).1,h1] at h2
  cases h2
 have key:∀ i,car m i=(car c i || car d i)/\one m i=(one c i || one d i):=fun i=>by
  have hlm:=meetL_len hm
  by_cases hi:i<c.length
  . have e1:=List.getElem?_eq_getElem hi
    have e2:=List.getElem?_eq_getElem (show i<d.length by omega)
    obtain⟨x,hx,hxx⟩:=meetL_get hm i _ _ e1 e2
    have:=meet1_bits (hc.cub _ (List.getElem_mem hi)) (hd.cub _ (List.getElem_mem (show i<d.length by omega))) hxx
    rw[(at_b e1).1,(at_b e2).1,(at_b e1).2,(at_b e2).2,(at_b hx).1,(at_b hx).2]
    exact this
  . have h1:=at_out (t:=c) (i:=i) (by omega)
    have h2:=at_out (t:=d) (i:=i) (by omega)
    have h3:=at_out (t:=m) (i:=i) (by omega)
    rw[h1.1,h1.2,h2.1,h2.2,h3.1,h3.2]
    exact⟨rfl,rfl⟩
 exact⟨m,by rw[meetT_eq hne,hm],fun i=>(key i).1,fun i=>(key i).2⟩
theorem wof_or{f g h:Nat->Bool}(e:∀ i,h i=(f i || g i))(k:Nat):wof h k=wof f k ||| wof g k:=by
 refine BitVec.eq_of_getLsbD_eq fun i hi=>?_
 rw[BitVec.getLsbD_or,wof_get _ _ _ hi,wof_get _ _ _ hi,wof_get _ _ _ hi,e]
theorem wof_zero{f:Nat->Bool}{k:Nat}(h:((wof f k).toNat:Int)=0)(i:Nat)(hi:i<64):f (64*k+i)=false:=by
 rw[<- wof_get f k i hi]
 cases hb:(wof f k).getLsbD i
 . rfl
 . exact absurd h (word_nz.2 ⟨i,hi,hb⟩)
theorem wof_nz{f:Nat->Bool}{k:Nat}(h:¬ ((wof f k).toNat:Int)=0):∃ i,f i=true:=by
 obtain⟨i,hi,hb⟩:=word_nz.1 h
 exact⟨_,by rw[wof_get _ _ _ hi] at hb;exact hb⟩
theorem no_cfl{c d:Str}(hc:CT c)(h:∀ k,k<4->((wof (cfl c d) k).toNat:Int)=0)(i:Nat):cfl c d i=false:=by
 by_cases hi:i<256
 . obtain⟨q,r,rfl,hr,hq⟩:=split64 i hi
   exact wof_zero (h q (by omega)) r hr
 . unfold cfl
   have:=(at_out (t:=c) (i:=i) (by have:=hc.len;omega)).1
   rw[this]
   simp
def mw(w:Nat)(f g:Nat->Bool)(k:Nat):BitVec 64:=if k<w then wof f k ||| wof g k else wof f k
@[reducible] def mcells(n w:Nat)(c d:Str):List D:=[.i .i64 (n:Int),.i .u64 ((mw w (car c) (car d) 0).toNat:Int),.i .u64 ((mw w (car c) (car d) 1).toNat:Int),.i .u64 ((mw w (car c) (car d) 2).toNat:Int),.i .u64 ((mw w (car c) (car d) 3).toNat:Int),.i .u64 ((mw w (one c) (one d) 0).toNat:Int),.i .u64 ((mw w (one c) (one d) 1).toNat:Int),.i .u64 ((mw w (one c) (one d) 2).toNat:Int),.i .u64 ((mw w (one c) (one d) 3).toNat:Int)]
theorem mcells_end{c d m:Str}(hl:m.length=c.length)(h1:∀ i,car m i=(car c i || car d i))(h2:∀ i,one m i=(one c i || one d i)):mcells c.length 4 c d=crow m:=by
 simp only[mcells,crow,cells9,mw,wof_or h1,wof_or h2,hl]
 rfl
end Go.Proofs.YtcglkonooeddfaaGreatDoor
namespace Go.Proofs.YtcglkonooeddfaaGreatDoor
open Go Go.Vx
section
variable {α : Type} {R : α → α → Prop}
open Classical in
/-- Those of the first j that are not below x. -/
noncomputable def leftOf(R:α->α->Prop)(k:List α)(x:α)(j:Nat):List α:=(k.take j).filter (fun y=>decide (¬ R y x))
end
end Go.Proofs.YtcglkonooeddfaaGreatDoor
namespace Go.Proofs.YtcglkonooeddfaaGreatDoor
open Go Go.Vx
theorem take_snoc{α:Type}{l:List α}{i:Nat}{x:α}(h:l[i]? = some x):l.take (i+1)=l.take i++[x]:=by
 rw[List.take_add_one,h];rfl
end Go.Proofs.YtcglkonooeddfaaGreatDoor
namespace Go.Proofs.YtcglkonooeddfaaGreatDoor
open Go Go.Vx
open Classical in
noncomputable def nb{α:Type}(R:α->α->Prop)(c:α)(l:List α):List α:=l.filter fun x=>decide (¬ R x c)
end Go.Proofs.YtcglkonooeddfaaGreatDoor
namespace Go.Proofs.YtcglkonooeddfaaGreatDoor
open Go Go.Vx
def T:Tab:=fun t=>match t with
 | 3=>some ⟨1,8,.int .i64,[.i .i64 0]⟩
 | 4=>some ⟨1,1,.bool,[.ff]⟩
 | 5=>some ⟨1,1,.int .u8,[.i .u8 0]⟩
 | 9=>some ⟨1,16,.str,[.s []]⟩
 | 20=>some ⟨1,16,.other,[.nilI]⟩
 | 22=>some ⟨1,24,.slice 127,[.nilS]⟩
 | 23=>some ⟨1,24,.slice 87,[.nilS]⟩
 | 24=>some ⟨1,24,.slice 91,[.nilS]⟩
 | 25=>some ⟨1,24,.slice 54,[.nilS]⟩
 | 27=>some ⟨7,136,.struct [(0,9),(1,22),(2,9),(3,4),(4,23),(5,24),(6,25)],[.s [],.nilS,.s [],.ff,.nilS,.nilS,.nilS]⟩
 | 30=>some ⟨1,24,.slice 41,[.nilS]⟩
 | 31=>some ⟨1,24,.slice 36,[.nilS]⟩
 | 32=>some ⟨1,24,.slice 89,[.nilS]⟩
 | 33=>some ⟨1,24,.slice 97,[.nilS]⟩
 | 34=>some ⟨1,24,.slice 3,[.nilS]⟩
 | 36=>some ⟨3,72,.struct [(0,32),(1,33),(2,34)],[.nilS,.nilS,.nilS]⟩
 | 41=>some ⟨7,152,.struct [(0,36),(3,36),(6,3)],[.nilS,.nilS,.nilS,.nilS,.nilS,.nilS,.i .i64 0]⟩
 | 51=>some ⟨1,24,.slice 9,[.nilS]⟩
 | 52=>some ⟨1,24,.slice 219,[.nilS]⟩
 | 54=>some ⟨3,64,.struct [(0,9),(1,51),(2,52)],[.s [],.nilS,.nilS]⟩
 | 56=>some ⟨2,40,.struct [(0,34),(1,9)],[.nilS,.s []]⟩
 | 57=>some ⟨1,8,.int .i64,[.i .i64 0]⟩
 | 64=>some ⟨1,24,.slice 142,[.nilS]⟩
 | 66=>some ⟨2,32,.struct [(0,3),(1,64)],[.i .i64 0,.nilS]⟩
 | 76=>some ⟨1,8,.other,[.nilF]⟩
 | 83=>some ⟨1,24,.slice 112,[.nilS]⟩
 | 84=>some ⟨1,24,.slice 115,[.nilS]⟩
 | 85=>some ⟨1,24,.slice 246,[.nilS]⟩
 | 87=>some ⟨7,160,.struct [(0,9),(1,51),(2,51),(3,83),(4,84),(5,85),(6,85)],[.s [],.nilS,.nilS,.nilS,.nilS,.nilS,.nilS]⟩
 | 89=>some ⟨4,40,.struct [(0,9),(1,3),(2,4),(3,3)],[.s [],.i .i64 0,.ff,.i .i64 0]⟩
 | 91=>some ⟨3,40,.struct [(0,9),(1,9),(2,3)],[.s [],.s [],.i .i64 0]⟩
 | 97=>some ⟨4,32,.struct [(0,3),(1,3),(2,3),(3,3)],[.i .i64 0,.i .i64 0,.i .i64 0,.i .i64 0]⟩
 | 100=>some ⟨1,8,.ptr 27,[.nilP]⟩
 | 112=>some ⟨3,48,.struct [(0,9),(1,4),(2,52)],[.s [],.ff,.nilS]⟩
 | 113=>some ⟨1,24,.slice 243,[.nilS]⟩
 | 115=>some ⟨5,104,.struct [(0,3),(1,51),(2,52),(3,113),(4,51)],[.i .i64 0,.nilS,.nilS,.nilS,.nilS]⟩
 | 119=>some ⟨1,24,.slice 160,[.nilS]⟩
 | 120=>some ⟨1,8,.other,[.u]⟩
 | 127=>some ⟨2,24,.struct [(0,9),(1,3)],[.s [],.i .i64 0]⟩
 | 128=>some ⟨1,24,.slice 5,[.nilS]⟩
 | 131=>some ⟨1,24,.slice 133,[.nilS]⟩
 | 133=>some ⟨1,24,.slice 138,[.nilS]⟩
 | 134=>some ⟨1,8,.int .u64,[.i .u64 0]⟩
 | 136=>some ⟨4,32,.array 4 134,[.i .u64 0,.i .u64 0,.i .u64 0,.i .u64 0]⟩
 | 138=>some ⟨9,72,.struct [(0,3),(1,136),(5,136)],[.i .i64 0,.i .u64 0,.i .u64 0,.i .u64 0,.i .u64 0,.i .u64 0,.i .u64 0,.i .u64 0,.i .u64 0]⟩
 | 142=>some ⟨11,112,.struct [(0,138),(9,133),(10,9)],[.i .i64 0,.i .u64 0,.i .u64 0,.i .u64 0,.i .u64 0,.i .u64 0,.i .u64 0,.i .u64 0,.i .u64 0,.nilS,.s []]⟩
 | 147=>some ⟨1,16,.other,[.nilI]⟩
 | 154=>some ⟨2,48,.struct [(0,22),(1,34)],[.nilS,.nilS]⟩
 | 156=>some ⟨1,24,.slice 76,[.nilS]⟩
 | 160=>some ⟨2,16,.struct [(0,3),(1,4)],[.i .i64 0,.ff]⟩
 | 161=>some ⟨1,8,.other,[.u]⟩
 | 166=>some ⟨1,8,.ptr 87,[.nilP]⟩
 | 170=>some ⟨1,24,.slice 252,[.nilS]⟩
 | 172=>some ⟨2,32,.struct [(0,3),(1,170)],[.i .i64 0,.nilS]⟩
 | 187=>some ⟨1,8,.ptr 189,[.nilP]⟩
 | 189=>some ⟨2,32,.struct [(0,187),(1,128)],[.nilP,.nilS]⟩
 | 196=>some ⟨0,0,.struct [],[]⟩
 | 203=>some ⟨1,8,.other,[.nilF]⟩
 | 204=>some ⟨1,24,.slice 206,[.nilS]⟩
 | 206=>some ⟨10,88,.struct [(0,138),(9,9)],[.i .i64 0,.i .u64 0,.i .u64 0,.i .u64 0,.i .u64 0,.i .u64 0,.i .u64 0,.i .u64 0,.i .u64 0,.s []]⟩
 | 208=>some ⟨1,8,.other,[.nilF]⟩
 | 210=>some ⟨1,8,.other,[.nilF]⟩
 | 217=>some ⟨7,72,.struct [(0,9),(1,3),(2,3),(3,3),(4,3),(5,3),(6,9)],[.s [],.i .i64 0,.i .i64 0,.i .i64 0,.i .i64 0,.i .i64 0,.s []]⟩
 | 219=>some ⟨8,80,.struct [(0,3),(1,217)],[.i .i64 0,.s [],.i .i64 0,.i .i64 0,.i .i64 0,.i .i64 0,.i .i64 0,.s []]⟩
 | 234=>some ⟨3,32,.struct [(0,3),(1,3),(2,9)],[.i .i64 0,.i .i64 0,.s []]⟩
 | 235=>some ⟨1,24,.slice 234,[.nilS]⟩
 | 238=>some ⟨9,176,.struct [(0,100),(1,87),(8,120)],[.nilP,.s [],.nilS,.nilS,.nilS,.nilS,.nilS,.nilS,.u]⟩
 | 243=>some ⟨2,24,.struct [(0,9),(1,3)],[.s [],.i .i64 0]⟩
 | 246=>some ⟨3,32,.struct [(0,3),(1,3),(2,9)],[.i .i64 0,.i .i64 0,.s []]⟩
 | 247=>some ⟨1,24,.slice 172,[.nilS]⟩
 | 252=>some ⟨2,40,.struct [(0,9),(1,51)],[.s [],.nilS]⟩
 | 265=>some ⟨1,8,.ptr 136,[.nilP]⟩
 | 280=>some ⟨1,24,.slice 147,[.nilS]⟩
 | 282=>some ⟨1,1,.struct [(0,4)],[.ff]⟩
 | 284=>some ⟨7,72,.struct [(0,217)],[.s [],.i .i64 0,.i .i64 0,.i .i64 0,.i .i64 0,.i .i64 0,.s []]⟩
 | 286=>some ⟨1,16,.struct [(0,147)],[.nilI]⟩
 | 288=>some ⟨2,32,.struct [(0,147),(1,147)],[.nilI,.nilI]⟩
 | 290=>some ⟨2,32,.struct [(0,288)],[.nilI,.nilI]⟩
 | 291=>some ⟨2,32,.struct [(0,288)],[.nilI,.nilI]⟩
 | 301=>some ⟨26,416,.array 26 9,[.s [],.s [],.s [],.s [],.s [],.s [],.s [],.s [],.s [],.s [],.s [],.s [],.s [],.s [],.s [],.s [],.s [],.s [],.s [],.s [],.s [],.s [],.s [],.s [],.s [],.s []]⟩
 | 303=>some ⟨3,32,.struct [(0,9),(1,3),(2,3)],[.s [],.i .i64 0,.i .i64 0]⟩
 | 347=>some ⟨4,4,.struct [(0,4),(1,4),(2,4),(3,4)],[.ff,.ff,.ff,.ff]⟩
 | 348=>some ⟨20,20,.array 5 347,[.ff,.ff,.ff,.ff,.ff,.ff,.ff,.ff,.ff,.ff,.ff,.ff,.ff,.ff,.ff,.ff,.ff,.ff,.ff,.ff]⟩
 | 356=>some ⟨1,24,.slice 303,[.nilS]⟩
 | _=>none
theorem good3:Vx.Good Tryz.prog 3 ⟨1,8,.int .i64,[.i .i64 0]⟩:=
 ⟨⟨Tryz.t3,.int .i64 0,by kernel_rfl,rfl,rfl,rfl,rfl,rfl,by simp[Value.cells,Value.oneCell']⟩,Tryz.underlying3,fun w=>Tryz.isAgg3 w,by decide⟩
theorem good4:Vx.Good Tryz.prog 4 ⟨1,1,.bool,[.ff]⟩:=
 ⟨⟨Tryz.t4,.bool false,by kernel_rfl,rfl,rfl,rfl,rfl,rfl,by simp[Value.cells,Value.oneCell']⟩,Tryz.underlying4,fun w=>Tryz.isAgg4 w,by decide⟩
theorem good5:Vx.Good Tryz.prog 5 ⟨1,1,.int .u8,[.i .u8 0]⟩:=
 ⟨⟨Tryz.t5,.int .u8 0,by kernel_rfl,rfl,rfl,rfl,rfl,rfl,by simp[Value.cells,Value.oneCell']⟩,Tryz.underlying5,fun w=>Tryz.isAgg5 w,by decide⟩
theorem good9:Vx.Good Tryz.prog 9 ⟨1,16,.str,[.s []]⟩:=
 ⟨⟨Tryz.t9,.string ⟨#[]⟩,by kernel_rfl,rfl,rfl,rfl,rfl,rfl,by simp[Value.cells,Value.oneCell']⟩,Tryz.underlying9,fun w=>Tryz.isAgg9 w,by decide⟩
theorem good20:Vx.Good Tryz.prog 20 ⟨1,16,.other,[.nilI]⟩:=
 ⟨⟨Tryz.t20,.nilIface,by kernel_rfl,rfl,rfl,rfl,rfl,rfl,by simp[Value.cells,Value.oneCell']⟩,trivial,fun w=>Tryz.isAgg20 w,by decide⟩
theorem good22:Vx.Good Tryz.prog 22 ⟨1,24,.slice 127,[.nilS]⟩:=
 ⟨⟨Tryz.t22,.slice none 0 0,by kernel_rfl,rfl,rfl,rfl,rfl,rfl,by simp[Value.cells,Value.oneCell']⟩,Tryz.underlying22,fun w=>Tryz.isAgg22 w,by decide⟩
theorem good23:Vx.Good Tryz.prog 23 ⟨1,24,.slice 87,[.nilS]⟩:=
 ⟨⟨Tryz.t23,.slice none 0 0,by kernel_rfl,rfl,rfl,rfl,rfl,rfl,by simp[Value.cells,Value.oneCell']⟩,Tryz.underlying23,fun w=>Tryz.isAgg23 w,by decide⟩
theorem good24:Vx.Good Tryz.prog 24 ⟨1,24,.slice 91,[.nilS]⟩:=
 ⟨⟨Tryz.t24,.slice none 0 0,by kernel_rfl,rfl,rfl,rfl,rfl,rfl,by simp[Value.cells,Value.oneCell']⟩,Tryz.underlying24,fun w=>Tryz.isAgg24 w,by decide⟩
theorem good25:Vx.Good Tryz.prog 25 ⟨1,24,.slice 54,[.nilS]⟩:=
 ⟨⟨Tryz.t25,.slice none 0 0,by kernel_rfl,rfl,rfl,rfl,rfl,rfl,by simp[Value.cells,Value.oneCell']⟩,Tryz.underlying25,fun w=>Tryz.isAgg25 w,by decide⟩
theorem good27:Vx.Good Tryz.prog 27 ⟨7,136,.struct [(0,9),(1,22),(2,9),(3,4),(4,23),(5,24),(6,25)],[.s [],.nilS,.s [],.ff,.nilS,.nilS,.nilS]⟩:=
 ⟨⟨Tryz.t27,.agg #[.string ⟨#[]⟩,.slice none 0 0,.string ⟨#[]⟩,.bool false,.slice none 0 0,.slice none 0 0,.slice none 0 0],by kernel_rfl,rfl,rfl,rfl,rfl,rfl,by simp[Value.cells,Value.oneCell']⟩,⟨_,Tryz.underlying27,rfl⟩,fun w=>Tryz.isAgg27 w,by decide⟩
theorem good30:Vx.Good Tryz.prog 30 ⟨1,24,.slice 41,[.nilS]⟩:=
 ⟨⟨Tryz.t30,.slice none 0 0,by kernel_rfl,rfl,rfl,rfl,rfl,rfl,by simp[Value.cells,Value.oneCell']⟩,Tryz.underlying30,fun w=>Tryz.isAgg30 w,by decide⟩
theorem good31:Vx.Good Tryz.prog 31 ⟨1,24,.slice 36,[.nilS]⟩:=
 ⟨⟨Tryz.t31,.slice none 0 0,by kernel_rfl,rfl,rfl,rfl,rfl,rfl,by simp[Value.cells,Value.oneCell']⟩,Tryz.underlying31,fun w=>Tryz.isAgg31 w,by decide⟩
theorem good32:Vx.Good Tryz.prog 32 ⟨1,24,.slice 89,[.nilS]⟩:=
 ⟨⟨Tryz.t32,.slice none 0 0,by kernel_rfl,rfl,rfl,rfl,rfl,rfl,by simp[Value.cells,Value.oneCell']⟩,Tryz.underlying32,fun w=>Tryz.isAgg32 w,by decide⟩
theorem good33:Vx.Good Tryz.prog 33 ⟨1,24,.slice 97,[.nilS]⟩:=
 ⟨⟨Tryz.t33,.slice none 0 0,by kernel_rfl,rfl,rfl,rfl,rfl,rfl,by simp[Value.cells,Value.oneCell']⟩,Tryz.underlying33,fun w=>Tryz.isAgg33 w,by decide⟩
theorem good34:Vx.Good Tryz.prog 34 ⟨1,24,.slice 3,[.nilS]⟩:=
 ⟨⟨Tryz.t34,.slice none 0 0,by kernel_rfl,rfl,rfl,rfl,rfl,rfl,by simp[Value.cells,Value.oneCell']⟩,Tryz.underlying34,fun w=>Tryz.isAgg34 w,by decide⟩
theorem good36:Vx.Good Tryz.prog 36 ⟨3,72,.struct [(0,32),(1,33),(2,34)],[.nilS,.nilS,.nilS]⟩:=
 ⟨⟨Tryz.t36,.agg #[.slice none 0 0,.slice none 0 0,.slice none 0 0],by kernel_rfl,rfl,rfl,rfl,rfl,rfl,by simp[Value.cells,Value.oneCell']⟩,⟨_,Tryz.underlying36,rfl⟩,fun w=>Tryz.isAgg36 w,by decide⟩
theorem good41:Vx.Good Tryz.prog 41 ⟨7,152,.struct [(0,36),(3,36),(6,3)],[.nilS,.nilS,.nilS,.nilS,.nilS,.nilS,.i .i64 0]⟩:=
 ⟨⟨Tryz.t41,.agg #[.slice none 0 0,.slice none 0 0,.slice none 0 0,.slice none 0 0,.slice none 0 0,.slice none 0 0,.int .i64 0],by kernel_rfl,rfl,rfl,rfl,rfl,rfl,by simp[Value.cells,Value.oneCell']⟩,⟨_,Tryz.underlying41,rfl⟩,fun w=>Tryz.isAgg41 w,by decide⟩
theorem good51:Vx.Good Tryz.prog 51 ⟨1,24,.slice 9,[.nilS]⟩:=
 ⟨⟨Tryz.t51,.slice none 0 0,by kernel_rfl,rfl,rfl,rfl,rfl,rfl,by simp[Value.cells,Value.oneCell']⟩,Tryz.underlying51,fun w=>Tryz.isAgg51 w,by decide⟩
theorem good52:Vx.Good Tryz.prog 52 ⟨1,24,.slice 219,[.nilS]⟩:=
 ⟨⟨Tryz.t52,.slice none 0 0,by kernel_rfl,rfl,rfl,rfl,rfl,rfl,by simp[Value.cells,Value.oneCell']⟩,Tryz.underlying52,fun w=>Tryz.isAgg52 w,by decide⟩
theorem good54:Vx.Good Tryz.prog 54 ⟨3,64,.struct [(0,9),(1,51),(2,52)],[.s [],.nilS,.nilS]⟩:=
 ⟨⟨Tryz.t54,.agg #[.string ⟨#[]⟩,.slice none 0 0,.slice none 0 0],by kernel_rfl,rfl,rfl,rfl,rfl,rfl,by simp[Value.cells,Value.oneCell']⟩,⟨_,Tryz.underlying54,rfl⟩,fun w=>Tryz.isAgg54 w,by decide⟩
theorem good56:Vx.Good Tryz.prog 56 ⟨2,40,.struct [(0,34),(1,9)],[.nilS,.s []]⟩:=
 ⟨⟨Tryz.t56,.agg #[.slice none 0 0,.string ⟨#[]⟩],by kernel_rfl,rfl,rfl,rfl,rfl,rfl,by simp[Value.cells,Value.oneCell']⟩,⟨_,Tryz.underlying56,rfl⟩,fun w=>Tryz.isAgg56 w,by decide⟩
theorem good57:Vx.Good Tryz.prog 57 ⟨1,8,.int .i64,[.i .i64 0]⟩:=
 ⟨⟨Tryz.t57,.int .i64 0,by kernel_rfl,rfl,rfl,rfl,rfl,rfl,by simp[Value.cells,Value.oneCell']⟩,Tryz.underlying57,fun w=>Tryz.isAgg57 w,by decide⟩
theorem good64:Vx.Good Tryz.prog 64 ⟨1,24,.slice 142,[.nilS]⟩:=
 ⟨⟨Tryz.t64,.slice none 0 0,by kernel_rfl,rfl,rfl,rfl,rfl,rfl,by simp[Value.cells,Value.oneCell']⟩,Tryz.underlying64,fun w=>Tryz.isAgg64 w,by decide⟩
theorem good66:Vx.Good Tryz.prog 66 ⟨2,32,.struct [(0,3),(1,64)],[.i .i64 0,.nilS]⟩:=
 ⟨⟨Tryz.t66,.agg #[.int .i64 0,.slice none 0 0],by kernel_rfl,rfl,rfl,rfl,rfl,rfl,by simp[Value.cells,Value.oneCell']⟩,⟨_,Tryz.underlying66,rfl⟩,fun w=>Tryz.isAgg66 w,by decide⟩
theorem good76:Vx.Good Tryz.prog 76 ⟨1,8,.other,[.nilF]⟩:=
 ⟨⟨Tryz.t76,.nilFunc,by kernel_rfl,rfl,rfl,rfl,rfl,rfl,by simp[Value.cells,Value.oneCell']⟩,trivial,fun w=>Tryz.isAgg76 w,by decide⟩
theorem good83:Vx.Good Tryz.prog 83 ⟨1,24,.slice 112,[.nilS]⟩:=
 ⟨⟨Tryz.t83,.slice none 0 0,by kernel_rfl,rfl,rfl,rfl,rfl,rfl,by simp[Value.cells,Value.oneCell']⟩,Tryz.underlying83,fun w=>Tryz.isAgg83 w,by decide⟩
theorem good84:Vx.Good Tryz.prog 84 ⟨1,24,.slice 115,[.nilS]⟩:=
 ⟨⟨Tryz.t84,.slice none 0 0,by kernel_rfl,rfl,rfl,rfl,rfl,rfl,by simp[Value.cells,Value.oneCell']⟩,Tryz.underlying84,fun w=>Tryz.isAgg84 w,by decide⟩
theorem good85:Vx.Good Tryz.prog 85 ⟨1,24,.slice 246,[.nilS]⟩:=
 ⟨⟨Tryz.t85,.slice none 0 0,by kernel_rfl,rfl,rfl,rfl,rfl,rfl,by simp[Value.cells,Value.oneCell']⟩,Tryz.underlying85,fun w=>Tryz.isAgg85 w,by decide⟩
theorem good87:Vx.Good Tryz.prog 87 ⟨7,160,.struct [(0,9),(1,51),(2,51),(3,83),(4,84),(5,85),(6,85)],[.s [],.nilS,.nilS,.nilS,.nilS,.nilS,.nilS]⟩:=
 ⟨⟨Tryz.t87,.agg #[.string ⟨#[]⟩,.slice none 0 0,.slice none 0 0,.slice none 0 0,.slice none 0 0,.slice none 0 0,.slice none 0 0],by kernel_rfl,rfl,rfl,rfl,rfl,rfl,by simp[Value.cells,Value.oneCell']⟩,⟨_,Tryz.underlying87,rfl⟩,fun w=>Tryz.isAgg87 w,by decide⟩
theorem good89:Vx.Good Tryz.prog 89 ⟨4,40,.struct [(0,9),(1,3),(2,4),(3,3)],[.s [],.i .i64 0,.ff,.i .i64 0]⟩:=
 ⟨⟨Tryz.t89,.agg #[.string ⟨#[]⟩,.int .i64 0,.bool false,.int .i64 0],by kernel_rfl,rfl,rfl,rfl,rfl,rfl,by simp[Value.cells,Value.oneCell']⟩,⟨_,Tryz.underlying89,rfl⟩,fun w=>Tryz.isAgg89 w,by decide⟩
theorem good91:Vx.Good Tryz.prog 91 ⟨3,40,.struct [(0,9),(1,9),(2,3)],[.s [],.s [],.i .i64 0]⟩:=
 ⟨⟨Tryz.t91,.agg #[.string ⟨#[]⟩,.string ⟨#[]⟩,.int .i64 0],by kernel_rfl,rfl,rfl,rfl,rfl,rfl,by simp[Value.cells,Value.oneCell']⟩,⟨_,Tryz.underlying91,rfl⟩,fun w=>Tryz.isAgg91 w,by decide⟩
theorem good97:Vx.Good Tryz.prog 97 ⟨4,32,.struct [(0,3),(1,3),(2,3),(3,3)],[.i .i64 0,.i .i64 0,.i .i64 0,.i .i64 0]⟩:=
 ⟨⟨Tryz.t97,.agg #[.int .i64 0,.int .i64 0,.int .i64 0,.int .i64 0],by kernel_rfl,rfl,rfl,rfl,rfl,rfl,by simp[Value.cells,Value.oneCell']⟩,⟨_,Tryz.underlying97,rfl⟩,fun w=>Tryz.isAgg97 w,by decide⟩
theorem good100:Vx.Good Tryz.prog 100 ⟨1,8,.ptr 27,[.nilP]⟩:=
 ⟨⟨Tryz.t100,.pointer none,by kernel_rfl,rfl,rfl,rfl,rfl,rfl,by simp[Value.cells,Value.oneCell']⟩,Tryz.underlying100,fun w=>Tryz.isAgg100 w,by decide⟩
theorem good112:Vx.Good Tryz.prog 112 ⟨3,48,.struct [(0,9),(1,4),(2,52)],[.s [],.ff,.nilS]⟩:=
 ⟨⟨Tryz.t112,.agg #[.string ⟨#[]⟩,.bool false,.slice none 0 0],by kernel_rfl,rfl,rfl,rfl,rfl,rfl,by simp[Value.cells,Value.oneCell']⟩,⟨_,Tryz.underlying112,rfl⟩,fun w=>Tryz.isAgg112 w,by decide⟩
theorem good113:Vx.Good Tryz.prog 113 ⟨1,24,.slice 243,[.nilS]⟩:=
 ⟨⟨Tryz.t113,.slice none 0 0,by kernel_rfl,rfl,rfl,rfl,rfl,rfl,by simp[Value.cells,Value.oneCell']⟩,Tryz.underlying113,fun w=>Tryz.isAgg113 w,by decide⟩
theorem good115:Vx.Good Tryz.prog 115 ⟨5,104,.struct [(0,3),(1,51),(2,52),(3,113),(4,51)],[.i .i64 0,.nilS,.nilS,.nilS,.nilS]⟩:=
 ⟨⟨Tryz.t115,.agg #[.int .i64 0,.slice none 0 0,.slice none 0 0,.slice none 0 0,.slice none 0 0],by kernel_rfl,rfl,rfl,rfl,rfl,rfl,by simp[Value.cells,Value.oneCell']⟩,⟨_,Tryz.underlying115,rfl⟩,fun w=>Tryz.isAgg115 w,by decide⟩
theorem good119:Vx.Good Tryz.prog 119 ⟨1,24,.slice 160,[.nilS]⟩:=
 ⟨⟨Tryz.t119,.slice none 0 0,by kernel_rfl,rfl,rfl,rfl,rfl,rfl,by simp[Value.cells,Value.oneCell']⟩,Tryz.underlying119,fun w=>Tryz.isAgg119 w,by decide⟩
theorem good120:Vx.Good Tryz.prog 120 ⟨1,8,.other,[.u]⟩:=
 ⟨⟨Tryz.t120,.map none,by kernel_rfl,rfl,rfl,rfl,rfl,rfl,by simp[Value.cells,Value.oneCell']⟩,trivial,fun w=>Tryz.isAgg120 w,by decide⟩
theorem good127:Vx.Good Tryz.prog 127 ⟨2,24,.struct [(0,9),(1,3)],[.s [],.i .i64 0]⟩:=
 ⟨⟨Tryz.t127,.agg #[.string ⟨#[]⟩,.int .i64 0],by kernel_rfl,rfl,rfl,rfl,rfl,rfl,by simp[Value.cells,Value.oneCell']⟩,⟨_,Tryz.underlying127,rfl⟩,fun w=>Tryz.isAgg127 w,by decide⟩
theorem good128:Vx.Good Tryz.prog 128 ⟨1,24,.slice 5,[.nilS]⟩:=
 ⟨⟨Tryz.t128,.slice none 0 0,by kernel_rfl,rfl,rfl,rfl,rfl,rfl,by simp[Value.cells,Value.oneCell']⟩,Tryz.underlying128,fun w=>Tryz.isAgg128 w,by decide⟩
theorem good131:Vx.Good Tryz.prog 131 ⟨1,24,.slice 133,[.nilS]⟩:=
 ⟨⟨Tryz.t131,.slice none 0 0,by kernel_rfl,rfl,rfl,rfl,rfl,rfl,by simp[Value.cells,Value.oneCell']⟩,Tryz.underlying131,fun w=>Tryz.isAgg131 w,by decide⟩
theorem good133:Vx.Good Tryz.prog 133 ⟨1,24,.slice 138,[.nilS]⟩:=
 ⟨⟨Tryz.t133,.slice none 0 0,by kernel_rfl,rfl,rfl,rfl,rfl,rfl,by simp[Value.cells,Value.oneCell']⟩,Tryz.underlying133,fun w=>Tryz.isAgg133 w,by decide⟩
theorem good134:Vx.Good Tryz.prog 134 ⟨1,8,.int .u64,[.i .u64 0]⟩:=
 ⟨⟨Tryz.t134,.int .u64 0,by kernel_rfl,rfl,rfl,rfl,rfl,rfl,by simp[Value.cells,Value.oneCell']⟩,Tryz.underlying134,fun w=>Tryz.isAgg134 w,by decide⟩
theorem good136:Vx.Good Tryz.prog 136 ⟨4,32,.array 4 134,[.i .u64 0,.i .u64 0,.i .u64 0,.i .u64 0]⟩:=
 ⟨⟨Tryz.t136,.agg #[.int .u64 0,.int .u64 0,.int .u64 0,.int .u64 0],by kernel_rfl,rfl,rfl,rfl,rfl,rfl,by simp[Value.cells,Value.oneCell']⟩,Tryz.underlying136,fun w=>Tryz.isAgg136 w,by decide⟩
theorem good138:Vx.Good Tryz.prog 138 ⟨9,72,.struct [(0,3),(1,136),(5,136)],[.i .i64 0,.i .u64 0,.i .u64 0,.i .u64 0,.i .u64 0,.i .u64 0,.i .u64 0,.i .u64 0,.i .u64 0]⟩:=
 ⟨⟨Tryz.t138,.agg #[.int .i64 0,.int .u64 0,.int .u64 0,.int .u64 0,.int .u64 0,.int .u64 0,.int .u64 0,.int .u64 0,.int .u64 0],by kernel_rfl,rfl,rfl,rfl,rfl,rfl,by simp[Value.cells,Value.oneCell']⟩,⟨_,Tryz.underlying138,rfl⟩,fun w=>Tryz.isAgg138 w,by decide⟩
theorem good142:Vx.Good Tryz.prog 142 ⟨11,112,.struct [(0,138),(9,133),(10,9)],[.i .i64 0,.i .u64 0,.i .u64 0,.i .u64 0,.i .u64 0,.i .u64 0,.i .u64 0,.i .u64 0,.i .u64 0,.nilS,.s []]⟩:=
 ⟨⟨Tryz.t142,.agg #[.int .i64 0,.int .u64 0,.int .u64 0,.int .u64 0,.int .u64 0,.int .u64 0,.int .u64 0,.int .u64 0,.int .u64 0,.slice none 0 0,.string ⟨#[]⟩],by kernel_rfl,rfl,rfl,rfl,rfl,rfl,by simp[Value.cells,Value.oneCell']⟩,⟨_,Tryz.underlying142,rfl⟩,fun w=>Tryz.isAgg142 w,by decide⟩
theorem good147:Vx.Good Tryz.prog 147 ⟨1,16,.other,[.nilI]⟩:=
 ⟨⟨Tryz.t147,.nilIface,by kernel_rfl,rfl,rfl,rfl,rfl,rfl,by simp[Value.cells,Value.oneCell']⟩,trivial,fun w=>Tryz.isAgg147 w,by decide⟩
theorem good154:Vx.Good Tryz.prog 154 ⟨2,48,.struct [(0,22),(1,34)],[.nilS,.nilS]⟩:=
 ⟨⟨Tryz.t154,.agg #[.slice none 0 0,.slice none 0 0],by kernel_rfl,rfl,rfl,rfl,rfl,rfl,by simp[Value.cells,Value.oneCell']⟩,⟨_,Tryz.underlying154,rfl⟩,fun w=>Tryz.isAgg154 w,by decide⟩
theorem good156:Vx.Good Tryz.prog 156 ⟨1,24,.slice 76,[.nilS]⟩:=
 ⟨⟨Tryz.t156,.slice none 0 0,by kernel_rfl,rfl,rfl,rfl,rfl,rfl,by simp[Value.cells,Value.oneCell']⟩,Tryz.underlying156,fun w=>Tryz.isAgg156 w,by decide⟩
theorem good160:Vx.Good Tryz.prog 160 ⟨2,16,.struct [(0,3),(1,4)],[.i .i64 0,.ff]⟩:=
 ⟨⟨Tryz.t160,.agg #[.int .i64 0,.bool false],by kernel_rfl,rfl,rfl,rfl,rfl,rfl,by simp[Value.cells,Value.oneCell']⟩,⟨_,Tryz.underlying160,rfl⟩,fun w=>Tryz.isAgg160 w,by decide⟩
theorem good161:Vx.Good Tryz.prog 161 ⟨1,8,.other,[.u]⟩:=
 ⟨⟨Tryz.t161,.map none,by kernel_rfl,rfl,rfl,rfl,rfl,rfl,by simp[Value.cells,Value.oneCell']⟩,trivial,fun w=>Tryz.isAgg161 w,by decide⟩
theorem good166:Vx.Good Tryz.prog 166 ⟨1,8,.ptr 87,[.nilP]⟩:=
 ⟨⟨Tryz.t166,.pointer none,by kernel_rfl,rfl,rfl,rfl,rfl,rfl,by simp[Value.cells,Value.oneCell']⟩,Tryz.underlying166,fun w=>Tryz.isAgg166 w,by decide⟩
theorem good170:Vx.Good Tryz.prog 170 ⟨1,24,.slice 252,[.nilS]⟩:=
 ⟨⟨Tryz.t170,.slice none 0 0,by kernel_rfl,rfl,rfl,rfl,rfl,rfl,by simp[Value.cells,Value.oneCell']⟩,Tryz.underlying170,fun w=>Tryz.isAgg170 w,by decide⟩
theorem good172:Vx.Good Tryz.prog 172 ⟨2,32,.struct [(0,3),(1,170)],[.i .i64 0,.nilS]⟩:=
 ⟨⟨Tryz.t172,.agg #[.int .i64 0,.slice none 0 0],by kernel_rfl,rfl,rfl,rfl,rfl,rfl,by simp[Value.cells,Value.oneCell']⟩,⟨_,Tryz.underlying172,rfl⟩,fun w=>Tryz.isAgg172 w,by decide⟩
theorem good187:Vx.Good Tryz.prog 187 ⟨1,8,.ptr 189,[.nilP]⟩:=
 ⟨⟨Tryz.t187,.pointer none,by kernel_rfl,rfl,rfl,rfl,rfl,rfl,by simp[Value.cells,Value.oneCell']⟩,Tryz.underlying187,fun w=>Tryz.isAgg187 w,by decide⟩
theorem good189:Vx.Good Tryz.prog 189 ⟨2,32,.struct [(0,187),(1,128)],[.nilP,.nilS]⟩:=
 ⟨⟨Tryz.t189,.agg #[.pointer none,.slice none 0 0],by kernel_rfl,rfl,rfl,rfl,rfl,rfl,by simp[Value.cells,Value.oneCell']⟩,⟨_,Tryz.underlying189,rfl⟩,fun w=>Tryz.isAgg189 w,by decide⟩
theorem good196:Vx.Good Tryz.prog 196 ⟨0,0,.struct [],[]⟩:=
 ⟨⟨Tryz.t196,.agg #[],by kernel_rfl,rfl,rfl,rfl,rfl,rfl,by simp[Value.cells,Value.oneCell']⟩,⟨_,Tryz.underlying196,rfl⟩,fun w=>Tryz.isAgg196 w,by decide⟩
theorem good203:Vx.Good Tryz.prog 203 ⟨1,8,.other,[.nilF]⟩:=
 ⟨⟨Tryz.t203,.nilFunc,by kernel_rfl,rfl,rfl,rfl,rfl,rfl,by simp[Value.cells,Value.oneCell']⟩,trivial,fun w=>Tryz.isAgg203 w,by decide⟩
theorem good204:Vx.Good Tryz.prog 204 ⟨1,24,.slice 206,[.nilS]⟩:=
 ⟨⟨Tryz.t204,.slice none 0 0,by kernel_rfl,rfl,rfl,rfl,rfl,rfl,by simp[Value.cells,Value.oneCell']⟩,Tryz.underlying204,fun w=>Tryz.isAgg204 w,by decide⟩
theorem good206:Vx.Good Tryz.prog 206 ⟨10,88,.struct [(0,138),(9,9)],[.i .i64 0,.i .u64 0,.i .u64 0,.i .u64 0,.i .u64 0,.i .u64 0,.i .u64 0,.i .u64 0,.i .u64 0,.s []]⟩:=
 ⟨⟨Tryz.t206,.agg #[.int .i64 0,.int .u64 0,.int .u64 0,.int .u64 0,.int .u64 0,.int .u64 0,.int .u64 0,.int .u64 0,.int .u64 0,.string ⟨#[]⟩],by kernel_rfl,rfl,rfl,rfl,rfl,rfl,by simp[Value.cells,Value.oneCell']⟩,⟨_,Tryz.underlying206,rfl⟩,fun w=>Tryz.isAgg206 w,by decide⟩
theorem good208:Vx.Good Tryz.prog 208 ⟨1,8,.other,[.nilF]⟩:=
 ⟨⟨Tryz.t208,.nilFunc,by kernel_rfl,rfl,rfl,rfl,rfl,rfl,by simp[Value.cells,Value.oneCell']⟩,trivial,fun w=>Tryz.isAgg208 w,by decide⟩
theorem good210:Vx.Good Tryz.prog 210 ⟨1,8,.other,[.nilF]⟩:=
 ⟨⟨Tryz.t210,.nilFunc,by kernel_rfl,rfl,rfl,rfl,rfl,rfl,by simp[Value.cells,Value.oneCell']⟩,trivial,fun w=>Tryz.isAgg210 w,by decide⟩
theorem good217:Vx.Good Tryz.prog 217 ⟨7,72,.struct [(0,9),(1,3),(2,3),(3,3),(4,3),(5,3),(6,9)],[.s [],.i .i64 0,.i .i64 0,.i .i64 0,.i .i64 0,.i .i64 0,.s []]⟩:=
 ⟨⟨Tryz.t217,.agg #[.string ⟨#[]⟩,.int .i64 0,.int .i64 0,.int .i64 0,.int .i64 0,.int .i64 0,.string ⟨#[]⟩],by kernel_rfl,rfl,rfl,rfl,rfl,rfl,by simp[Value.cells,Value.oneCell']⟩,⟨_,Tryz.underlying217,rfl⟩,fun w=>Tryz.isAgg217 w,by decide⟩
theorem good219:Vx.Good Tryz.prog 219 ⟨8,80,.struct [(0,3),(1,217)],[.i .i64 0,.s [],.i .i64 0,.i .i64 0,.i .i64 0,.i .i64 0,.i .i64 0,.s []]⟩:=
 ⟨⟨Tryz.t219,.agg #[.int .i64 0,.string ⟨#[]⟩,.int .i64 0,.int .i64 0,.int .i64 0,.int .i64 0,.int .i64 0,.string ⟨#[]⟩],by kernel_rfl,rfl,rfl,rfl,rfl,rfl,by simp[Value.cells,Value.oneCell']⟩,⟨_,Tryz.underlying219,rfl⟩,fun w=>Tryz.isAgg219 w,by decide⟩
theorem good234:Vx.Good Tryz.prog 234 ⟨3,32,.struct [(0,3),(1,3),(2,9)],[.i .i64 0,.i .i64 0,.s []]⟩:=
 ⟨⟨Tryz.t234,.agg #[.int .i64 0,.int .i64 0,.string ⟨#[]⟩],by kernel_rfl,rfl,rfl,rfl,rfl,rfl,by simp[Value.cells,Value.oneCell']⟩,⟨_,Tryz.underlying234,rfl⟩,fun w=>Tryz.isAgg234 w,by decide⟩
theorem good235:Vx.Good Tryz.prog 235 ⟨1,24,.slice 234,[.nilS]⟩:=
 ⟨⟨Tryz.t235,.slice none 0 0,by kernel_rfl,rfl,rfl,rfl,rfl,rfl,by simp[Value.cells,Value.oneCell']⟩,Tryz.underlying235,fun w=>Tryz.isAgg235 w,by decide⟩
theorem good238:Vx.Good Tryz.prog 238 ⟨9,176,.struct [(0,100),(1,87),(8,120)],[.nilP,.s [],.nilS,.nilS,.nilS,.nilS,.nilS,.nilS,.u]⟩:=
 ⟨⟨Tryz.t238,.agg #[.pointer none,.string ⟨#[]⟩,.slice none 0 0,.slice none 0 0,.slice none 0 0,.slice none 0 0,.slice none 0 0,.slice none 0 0,.map none],by kernel_rfl,rfl,rfl,rfl,rfl,rfl,by simp[Value.cells,Value.oneCell']⟩,⟨_,Tryz.underlying238,rfl⟩,fun w=>Tryz.isAgg238 w,by decide⟩
theorem good243:Vx.Good Tryz.prog 243 ⟨2,24,.struct [(0,9),(1,3)],[.s [],.i .i64 0]⟩:=
 ⟨⟨Tryz.t243,.agg #[.string ⟨#[]⟩,.int .i64 0],by kernel_rfl,rfl,rfl,rfl,rfl,rfl,by simp[Value.cells,Value.oneCell']⟩,⟨_,Tryz.underlying243,rfl⟩,fun w=>Tryz.isAgg243 w,by decide⟩
theorem good246:Vx.Good Tryz.prog 246 ⟨3,32,.struct [(0,3),(1,3),(2,9)],[.i .i64 0,.i .i64 0,.s []]⟩:=
 ⟨⟨Tryz.t246,.agg #[.int .i64 0,.int .i64 0,.string ⟨#[]⟩],by kernel_rfl,rfl,rfl,rfl,rfl,rfl,by simp[Value.cells,Value.oneCell']⟩,⟨_,Tryz.underlying246,rfl⟩,fun w=>Tryz.isAgg246 w,by decide⟩
theorem good247:Vx.Good Tryz.prog 247 ⟨1,24,.slice 172,[.nilS]⟩:=
 ⟨⟨Tryz.t247,.slice none 0 0,by kernel_rfl,rfl,rfl,rfl,rfl,rfl,by simp[Value.cells,Value.oneCell']⟩,Tryz.underlying247,fun w=>Tryz.isAgg247 w,by decide⟩
theorem good252:Vx.Good Tryz.prog 252 ⟨2,40,.struct [(0,9),(1,51)],[.s [],.nilS]⟩:=
 ⟨⟨Tryz.t252,.agg #[.string ⟨#[]⟩,.slice none 0 0],by kernel_rfl,rfl,rfl,rfl,rfl,rfl,by simp[Value.cells,Value.oneCell']⟩,⟨_,Tryz.underlying252,rfl⟩,fun w=>Tryz.isAgg252 w,by decide⟩
theorem good265:Vx.Good Tryz.prog 265 ⟨1,8,.ptr 136,[.nilP]⟩:=
 ⟨⟨Tryz.t265,.pointer none,by kernel_rfl,rfl,rfl,rfl,rfl,rfl,by simp[Value.cells,Value.oneCell']⟩,Tryz.underlying265,fun w=>Tryz.isAgg265 w,by decide⟩
theorem good280:Vx.Good Tryz.prog 280 ⟨1,24,.slice 147,[.nilS]⟩:=
 ⟨⟨Tryz.t280,.slice none 0 0,by kernel_rfl,rfl,rfl,rfl,rfl,rfl,by simp[Value.cells,Value.oneCell']⟩,Tryz.underlying280,fun w=>Tryz.isAgg280 w,by decide⟩
theorem good282:Vx.Good Tryz.prog 282 ⟨1,1,.struct [(0,4)],[.ff]⟩:=
 ⟨⟨Tryz.t282,.agg #[.bool false],by kernel_rfl,rfl,rfl,rfl,rfl,rfl,by simp[Value.cells,Value.oneCell']⟩,⟨_,Tryz.underlying282,rfl⟩,fun w=>Tryz.isAgg282 w,by decide⟩
theorem good284:Vx.Good Tryz.prog 284 ⟨7,72,.struct [(0,217)],[.s [],.i .i64 0,.i .i64 0,.i .i64 0,.i .i64 0,.i .i64 0,.s []]⟩:=
 ⟨⟨Tryz.t284,.agg #[.string ⟨#[]⟩,.int .i64 0,.int .i64 0,.int .i64 0,.int .i64 0,.int .i64 0,.string ⟨#[]⟩],by kernel_rfl,rfl,rfl,rfl,rfl,rfl,by simp[Value.cells,Value.oneCell']⟩,⟨_,Tryz.underlying284,rfl⟩,fun w=>Tryz.isAgg284 w,by decide⟩
theorem good286:Vx.Good Tryz.prog 286 ⟨1,16,.struct [(0,147)],[.nilI]⟩:=
 ⟨⟨Tryz.t286,.agg #[.nilIface],by kernel_rfl,rfl,rfl,rfl,rfl,rfl,by simp[Value.cells,Value.oneCell']⟩,⟨_,Tryz.underlying286,rfl⟩,fun w=>Tryz.isAgg286 w,by decide⟩
theorem good288:Vx.Good Tryz.prog 288 ⟨2,32,.struct [(0,147),(1,147)],[.nilI,.nilI]⟩:=
 ⟨⟨Tryz.t288,.agg #[.nilIface,.nilIface],by kernel_rfl,rfl,rfl,rfl,rfl,rfl,by simp[Value.cells,Value.oneCell']⟩,⟨_,Tryz.underlying288,rfl⟩,fun w=>Tryz.isAgg288 w,by decide⟩
theorem good290:Vx.Good Tryz.prog 290 ⟨2,32,.struct [(0,288)],[.nilI,.nilI]⟩:=
 ⟨⟨Tryz.t290,.agg #[.nilIface,.nilIface],by kernel_rfl,rfl,rfl,rfl,rfl,rfl,by simp[Value.cells,Value.oneCell']⟩,⟨_,Tryz.underlying290,rfl⟩,fun w=>Tryz.isAgg290 w,by decide⟩
theorem good291:Vx.Good Tryz.prog 291 ⟨2,32,.struct [(0,288)],[.nilI,.nilI]⟩:=
 ⟨⟨Tryz.t291,.agg #[.nilIface,.nilIface],by kernel_rfl,rfl,rfl,rfl,rfl,rfl,by simp[Value.cells,Value.oneCell']⟩,⟨_,Tryz.underlying291,rfl⟩,fun w=>Tryz.isAgg291 w,by decide⟩
theorem good301:Vx.Good Tryz.prog 301 ⟨26,416,.array 26 9,[.s [],.s [],.s [],.s [],.s [],.s [],.s [],.s [],.s [],.s [],.s [],.s [],.s [],.s [],.s [],.s [],.s [],.s [],.s [],.s [],.s [],.s [],.s [],.s [],.s [],.s []]⟩:=
 ⟨⟨Tryz.t301,.agg #[.string ⟨#[]⟩,.string ⟨#[]⟩,.string ⟨#[]⟩,.string ⟨#[]⟩,.string ⟨#[]⟩,.string ⟨#[]⟩,.string ⟨#[]⟩,.string ⟨#[]⟩,.string ⟨#[]⟩,.string ⟨#[]⟩,.string ⟨#[]⟩,.string ⟨#[]⟩,.string ⟨#[]⟩,.string ⟨#[]⟩,.string ⟨#[]⟩,.string ⟨#[]⟩,.string ⟨#[]⟩,.string ⟨#[]⟩,.string ⟨#[]⟩,.string ⟨#[]⟩,.string ⟨#[]⟩,.string ⟨#[]⟩,.string ⟨#[]⟩,.string ⟨#[]⟩,.string ⟨#[]⟩,.string ⟨#[]⟩],by kernel_rfl,rfl,rfl,rfl,rfl,rfl,by simp[Value.cells,Value.oneCell']⟩,Tryz.underlying301,fun w=>Tryz.isAgg301 w,by decide⟩
theorem good303:Vx.Good Tryz.prog 303 ⟨3,32,.struct [(0,9),(1,3),(2,3)],[.s [],.i .i64 0,.i .i64 0]⟩:=
 ⟨⟨Tryz.t303,.agg #[.string ⟨#[]⟩,.int .i64 0,.int .i64 0],by kernel_rfl,rfl,rfl,rfl,rfl,rfl,by simp[Value.cells,Value.oneCell']⟩,⟨_,Tryz.underlying303,rfl⟩,fun w=>Tryz.isAgg303 w,by decide⟩
theorem good347:Vx.Good Tryz.prog 347 ⟨4,4,.struct [(0,4),(1,4),(2,4),(3,4)],[.ff,.ff,.ff,.ff]⟩:=
 ⟨⟨Tryz.t347,.agg #[.bool false,.bool false,.bool false,.bool false],by kernel_rfl,rfl,rfl,rfl,rfl,rfl,by simp[Value.cells,Value.oneCell']⟩,⟨_,Tryz.underlying347,rfl⟩,fun w=>Tryz.isAgg347 w,by decide⟩
theorem good348:Vx.Good Tryz.prog 348 ⟨20,20,.array 5 347,[.ff,.ff,.ff,.ff,.ff,.ff,.ff,.ff,.ff,.ff,.ff,.ff,.ff,.ff,.ff,.ff,.ff,.ff,.ff,.ff]⟩:=
 ⟨⟨Tryz.t348,.agg #[.bool false,.bool false,.bool false,.bool false,.bool false,.bool false,.bool false,.bool false,.bool false,.bool false,.bool false,.bool false,.bool false,.bool false,.bool false,.bool false,.bool false,.bool false,.bool false,.bool false],by kernel_rfl,rfl,rfl,rfl,rfl,rfl,by simp[Value.cells,Value.oneCell']⟩,Tryz.underlying348,fun w=>Tryz.isAgg348 w,by decide⟩
theorem good356:Vx.Good Tryz.prog 356 ⟨1,24,.slice 303,[.nilS]⟩:=
 ⟨⟨Tryz.t356,.slice none 0 0,by kernel_rfl,rfl,rfl,rfl,rfl,rfl,by simp[Value.cells,Value.oneCell']⟩,Tryz.underlying356,fun w=>Tryz.isAgg356 w,by decide⟩
set_option maxRecDepth 10000 in
theorem tok:TOk Tryz.prog T:=by
 intro t ti h
 unfold T at h
 split at h
 . cases h;exact good3
 . cases h;exact good4
 . cases h;exact good5
 . cases h;exact good9
 . cases h;exact good20
 . cases h;exact good22
 . cases h;exact good23
 . cases h;exact good24
 . cases h;exact good25
 . cases h;exact good27
 . cases h;exact good30
 . cases h;exact good31
 . cases h;exact good32
 . cases h;exact good33
 . cases h;exact good34
 . cases h;exact good36
 . cases h;exact good41
 . cases h;exact good51
 . cases h;exact good52
 . cases h;exact good54
 . cases h;exact good56
 . cases h;exact good57
 . cases h;exact good64
 . cases h;exact good66
 . cases h;exact good76
 . cases h;exact good83
 . cases h;exact good84
 . cases h;exact good85
 . cases h;exact good87
 . cases h;exact good89
 . cases h;exact good91
 . cases h;exact good97
 . cases h;exact good100
 . cases h;exact good112
 . cases h;exact good113
 . cases h;exact good115
 . cases h;exact good119
 . cases h;exact good120
 . cases h;exact good127
 . cases h;exact good128
 . cases h;exact good131
 . cases h;exact good133
 . cases h;exact good134
 . cases h;exact good136
 . cases h;exact good138
 . cases h;exact good142
 . cases h;exact good147
 . cases h;exact good154
 . cases h;exact good156
 . cases h;exact good160
 . cases h;exact good161
 . cases h;exact good166
 . cases h;exact good170
 . cases h;exact good172
 . cases h;exact good187
 . cases h;exact good189
 . cases h;exact good196
 . cases h;exact good203
 . cases h;exact good204
 . cases h;exact good206
 . cases h;exact good208
 . cases h;exact good210
 . cases h;exact good217
 . cases h;exact good219
 . cases h;exact good234
 . cases h;exact good235
 . cases h;exact good238
 . cases h;exact good243
 . cases h;exact good246
 . cases h;exact good247
 . cases h;exact good252
 . cases h;exact good265
 . cases h;exact good280
 . cases h;exact good282
 . cases h;exact good284
 . cases h;exact good286
 . cases h;exact good288
 . cases h;exact good290
 . cases h;exact good291
 . cases h;exact good301
 . cases h;exact good303
 . cases h;exact good347
 . cases h;exact good348
 . cases h;exact good356
 . cases h
theorem follows:Tryz.prog.follows .mixedOrders=true:=by kernel_rfl
end Go.Proofs.YtcglkonooeddfaaGreatDoor
namespace Go.Proofs
open Go.Shelf
def Tryz.vxRep_ren:Go.Shelf.Ren:=⟨fun|105=>176|212=>237|99=>238|165=>239|166=>104|170=>240|169=>105|263=>278|264=>279|206=>280|240=>161|241=>281|276=>212|277=>301|n=>n,fun|9=>9|3=>3|4=>4|20=>20|0=>0|46=>276|109=>350|5=>5|72=>189|76=>193|51=>337|146=>379|53=>134|148=>381|70=>187|37=>128|75=>191|127=>262|164=>268|80=>124|n=>n,fun|n=>n⟩
theorem Tryz.vxRep:Go.Proofs.Lays.n105 Tryz.prog Tryz.vxRep_ren:={
 mixed:=by kernel_rfl
 f99:=Tryz.func238.trans (congrArg some (by kernel_rfl))
 f105:=Tryz.func176.trans (congrArg some (by kernel_rfl))
 f165:=Tryz.func239.trans (congrArg some (by kernel_rfl))
 f166:=Tryz.func104.trans (congrArg some (by kernel_rfl))
 f169:=Tryz.func105.trans (congrArg some (by kernel_rfl))
 f170:=Tryz.func240.trans (congrArg some (by kernel_rfl))
 f206:=Tryz.func280.trans (congrArg some (by kernel_rfl))
 f212:=Tryz.func237.trans (congrArg some (by kernel_rfl))
 f240:=Tryz.func161.trans (congrArg some (by kernel_rfl))
 f241:=Tryz.func281.trans (congrArg some (by kernel_rfl))
 f263:=Tryz.func278.trans (congrArg some (by kernel_rfl))
 f264:=Tryz.func279.trans (congrArg some (by kernel_rfl))
 f276:=Tryz.func212.trans (congrArg some (by kernel_rfl))
 f277:=Tryz.func301.trans (congrArg some (by kernel_rfl))
 t0:=Tryz.underlying0
 a0:=Tryz.isAgg0
 z0:=Tryz.sizeOf0
 v0:=Tryz.zeroValue0
 t3:=Tryz.underlying3
 a3:=Tryz.isAgg3
 z3:=Tryz.sizeOf3
 v3:=Tryz.zeroValue3
 t4:=Tryz.underlying4
 a4:=Tryz.isAgg4
 z4:=Tryz.sizeOf4
 v4:=Tryz.zeroValue4
 t5:=Tryz.underlying5
 a5:=Tryz.isAgg5
 z5:=Tryz.sizeOf5
 v5:=Tryz.zeroValue5
 t9:=Tryz.underlying9
 a9:=Tryz.isAgg9
 z9:=Tryz.sizeOf9
 v9:=Tryz.zeroValue9
 t20:=Tryz.underlying20
 a20:=Tryz.isAgg20
 z20:=Tryz.sizeOf20
 v20:=Tryz.zeroValue20
 t37:=Tryz.underlying128
 a37:=Tryz.isAgg128
 z37:=Tryz.sizeOf128
 v37:=Tryz.zeroValue128
 t46:=Tryz.underlying276
 a46:=Tryz.isAgg276
 z46:=Tryz.sizeOf276
 v46:=Tryz.zeroValue276
 t51:=Tryz.underlying337
 a51:=Tryz.isAgg337
 z51:=Tryz.sizeOf337
 v51:=Tryz.zeroValue337
 t53:=Tryz.underlying134
 a53:=Tryz.isAgg134
 z53:=Tryz.sizeOf134
 v53:=Tryz.zeroValue134
 t70:=Tryz.underlying187
 a70:=Tryz.isAgg187
 z70:=Tryz.sizeOf187
 v70:=Tryz.zeroValue187
 t72:=Tryz.underlying189
 a72:=Tryz.isAgg189
 z72:=Tryz.sizeOf189
 v72:=Tryz.zeroValue189
 t75:=Tryz.underlying191
 a75:=Tryz.isAgg191
 z75:=Tryz.sizeOf191
 v75:=Tryz.zeroValue191
 t76:=Tryz.underlying193
 a76:=Tryz.isAgg193
 z76:=Tryz.sizeOf193
 v76:=Tryz.zeroValue193
 t109:=Tryz.underlying350
 a109:=Tryz.isAgg350
 z109:=Tryz.sizeOf350
 v109:=Tryz.zeroValue350
 t127:=Tryz.underlying262
 a127:=Tryz.isAgg262
 z127:=Tryz.sizeOf262
 v127:=Tryz.zeroValue262
 t146:=Tryz.underlying379
 a146:=Tryz.isAgg379
 z146:=Tryz.sizeOf379
 v146:=Tryz.zeroValue379
 t148:=Tryz.underlying381
 a148:=Tryz.isAgg381
 z148:=Tryz.sizeOf381
 v148:=Tryz.zeroValue381
 t164:=Tryz.underlying268
 a164:=Tryz.isAgg268
 z164:=Tryz.sizeOf268
 v164:=Tryz.zeroValue268 }
def Tryz.vxTrim_ren:Go.Shelf.Ren:=⟨fun|160=>122|232=>179|231=>178|227=>180|234=>182|233=>181|236=>184|235=>183|228=>243|271=>245|151=>244|197=>214|120=>287|152=>286|260=>268|137=>302|119=>303|224=>271|225=>270|217=>269|266=>298|n=>n,fun|9=>9|4=>4|3=>3|5=>5|117=>297|116=>296|0=>0|124=>300|21=>21|105=>330|46=>276|119=>393|139=>396|138=>395|n=>n,fun|3=>3|4=>4|n=>n⟩
theorem Tryz.vxTrim:Go.Proofs.Lays.n160 Tryz.prog Tryz.vxTrim_ren:={
 mixed:=by kernel_rfl
 f119:=Tryz.func303.trans (congrArg some (by kernel_rfl))
 f120:=Tryz.func287.trans (congrArg some (by kernel_rfl))
 f137:=Tryz.func302.trans (congrArg some (by kernel_rfl))
 f151:=Tryz.func244.trans (congrArg some (by kernel_rfl))
 f152:=Tryz.func286.trans (congrArg some (by kernel_rfl))
 f160:=Tryz.func122.trans (congrArg some (by kernel_rfl))
 f197:=Tryz.func214.trans (congrArg some (by kernel_rfl))
 f217:=Tryz.func269.trans (congrArg some (by kernel_rfl))
 f224:=Tryz.func271.trans (congrArg some (by kernel_rfl))
 f225:=Tryz.func270.trans (congrArg some (by kernel_rfl))
 f227:=Tryz.func180.trans (congrArg some (by kernel_rfl))
 f228:=Tryz.func243.trans (congrArg some (by kernel_rfl))
 f231:=Tryz.func178.trans (congrArg some (by kernel_rfl))
 f232:=Tryz.func179.trans (congrArg some (by kernel_rfl))
 f233:=Tryz.func181.trans (congrArg some (by kernel_rfl))
 f234:=Tryz.func182.trans (congrArg some (by kernel_rfl))
 f235:=Tryz.func183.trans (congrArg some (by kernel_rfl))
 f236:=Tryz.func184.trans (congrArg some (by kernel_rfl))
 f260:=Tryz.func268.trans (congrArg some (by kernel_rfl))
 f266:=Tryz.func298.trans (congrArg some (by kernel_rfl))
 f271:=Tryz.func245.trans (congrArg some (by kernel_rfl))
 t0:=Tryz.underlying0
 a0:=Tryz.isAgg0
 z0:=Tryz.sizeOf0
 v0:=Tryz.zeroValue0
 t3:=Tryz.underlying3
 a3:=Tryz.isAgg3
 z3:=Tryz.sizeOf3
 v3:=Tryz.zeroValue3
 t4:=Tryz.underlying4
 a4:=Tryz.isAgg4
 z4:=Tryz.sizeOf4
 v4:=Tryz.zeroValue4
 t5:=Tryz.underlying5
 a5:=Tryz.isAgg5
 z5:=Tryz.sizeOf5
 v5:=Tryz.zeroValue5
 t9:=Tryz.underlying9
 a9:=Tryz.isAgg9
 z9:=Tryz.sizeOf9
 v9:=Tryz.zeroValue9
 t21:=Tryz.underlying21
 a21:=Tryz.isAgg21
 z21:=Tryz.sizeOf21
 v21:=Tryz.zeroValue21
 t46:=Tryz.underlying276
 a46:=Tryz.isAgg276
 z46:=Tryz.sizeOf276
 v46:=Tryz.zeroValue276
 t105:=Tryz.underlying330
 a105:=Tryz.isAgg330
 z105:=Tryz.sizeOf330
 v105:=Tryz.zeroValue330
 t116:=Tryz.underlying296
 a116:=Tryz.isAgg296
 z116:=Tryz.sizeOf296
 t117:=Tryz.underlying297
 a117:=Tryz.isAgg297
 z117:=Tryz.sizeOf297
 v117:=Tryz.zeroValue297
 t119:=Tryz.underlying393
 a119:=Tryz.isAgg393
 z119:=Tryz.sizeOf393
 t124:=Tryz.underlying300
 a124:=Tryz.isAgg300
 z124:=Tryz.sizeOf300
 v124:=Tryz.zeroValue300
 t138:=Tryz.underlying395
 a138:=Tryz.isAgg395
 z138:=Tryz.sizeOf395
 v138:=Tryz.zeroValue395
 t139:=Tryz.underlying396
 a139:=Tryz.isAgg396
 z139:=Tryz.sizeOf396
 v139:=Tryz.zeroValue396
 g3:=by kernel_rfl
 g4:=by kernel_rfl }
end Go.Proofs
namespace Go.Proofs
open Go.Shelf
def Tryz.vxItoa_ren:Go.Shelf.Ren:=⟨fun|171=>193|243=>258|246=>294|283=>307|284=>308|285=>309|286=>310|129=>227|317=>313|318=>314|319=>315|320=>316|337=>318|338=>319|n=>n,fun|3=>3|9=>9|2=>2|4=>4|171=>404|0=>0|53=>134|37=>128|5=>5|173=>406|212=>410|51=>337|20=>20|213=>411|46=>276|232=>412|233=>413|n=>n,fun|17=>5|18=>6|19=>7|n=>n⟩
theorem Tryz.vxItoa:Go.Proofs.LaysM.n171 Tryz.prog Tryz.vxItoa_ren:={
 mixed:=by kernel_rfl
 f129:=Tryz.func227.trans (congrArg some (by kernel_rfl))
 f171:=Tryz.func193.trans (congrArg some (by kernel_rfl))
 f243:=Tryz.func258.trans (congrArg some (by kernel_rfl))
 f246:=Tryz.func294.trans (congrArg some (by kernel_rfl))
 f283:=Tryz.func307.trans (congrArg some (by kernel_rfl))
 f284:=Tryz.func308.trans (congrArg some (by kernel_rfl))
 f285:=Tryz.func309.trans (congrArg some (by kernel_rfl))
 f286:=Tryz.func310.trans (congrArg some (by kernel_rfl))
 f317:=Tryz.func313.trans (congrArg some (by kernel_rfl))
 f318:=Tryz.func314.trans (congrArg some (by kernel_rfl))
 f319:=Tryz.func315.trans (congrArg some (by kernel_rfl))
 f320:=Tryz.func316.trans (congrArg some (by kernel_rfl))
 f337:=Tryz.func318.trans (congrArg some (by kernel_rfl))
 f338:=Tryz.func319.trans (congrArg some (by kernel_rfl))
 t0:=Tryz.underlying0
 a0:=Tryz.isAgg0
 z0:=Tryz.sizeOf0
 v0:=Tryz.zeroValue0
 t2:=Tryz.underlying2
 a2:=Tryz.isAgg2
 z2:=Tryz.sizeOf2
 v2:=Tryz.zeroValue2
 t3:=Tryz.underlying3
 a3:=Tryz.isAgg3
 z3:=Tryz.sizeOf3
 v3:=Tryz.zeroValue3
 t4:=Tryz.underlying4
 a4:=Tryz.isAgg4
 z4:=Tryz.sizeOf4
 v4:=Tryz.zeroValue4
 t5:=Tryz.underlying5
 a5:=Tryz.isAgg5
 z5:=Tryz.sizeOf5
 v5:=Tryz.zeroValue5
 t9:=Tryz.underlying9
 a9:=Tryz.isAgg9
 z9:=Tryz.sizeOf9
 v9:=Tryz.zeroValue9
 t20:=Tryz.underlying20
 a20:=Tryz.isAgg20
 z20:=Tryz.sizeOf20
 v20:=Tryz.zeroValue20
 t37:=Tryz.underlying128
 a37:=Tryz.isAgg128
 z37:=Tryz.sizeOf128
 v37:=Tryz.zeroValue128
 t46:=Tryz.underlying276
 a46:=Tryz.isAgg276
 z46:=Tryz.sizeOf276
 v46:=Tryz.zeroValue276
 t51:=Tryz.underlying337
 a51:=Tryz.isAgg337
 z51:=Tryz.sizeOf337
 v51:=Tryz.zeroValue337
 t53:=Tryz.underlying134
 a53:=Tryz.isAgg134
 z53:=Tryz.sizeOf134
 v53:=Tryz.zeroValue134
 t171:=Tryz.underlying404
 a171:=Tryz.isAgg404
 z171:=Tryz.sizeOf404
 v171:=Tryz.zeroValue404
 t173:=Tryz.underlying406
 a173:=Tryz.isAgg406
 z173:=Tryz.sizeOf406
 v173:=Tryz.zeroValue406
 t212:=Tryz.underlying410
 a212:=Tryz.isAgg410
 z212:=Tryz.sizeOf410
 v212:=Tryz.zeroValue410
 t213:=Tryz.underlying411
 a213:=Tryz.isAgg411
 z213:=Tryz.sizeOf411
 t232:=Tryz.underlying412
 a232:=Tryz.isAgg412
 z232:=Tryz.sizeOf412
 v232:=Tryz.zeroValue412
 t233:=Tryz.underlying413
 a233:=Tryz.isAgg413
 z233:=Tryz.sizeOf413
 v233:=Tryz.zeroValue413
 g17:=by kernel_rfl
 g18:=by kernel_rfl
 g19:=by kernel_rfl
 i0:=by kernel_rfl
 i2:=by kernel_rfl
 i3:=by kernel_rfl
 i4:=by kernel_rfl
 i5:=by kernel_rfl
 i9:=by kernel_rfl
 i20:=by kernel_rfl
 i37:=by kernel_rfl
 i46:=by kernel_rfl
 i51:=by kernel_rfl
 i53:=by kernel_rfl
 i171:=by kernel_rfl
 i173:=by kernel_rfl
 i212:=by kernel_rfl
 i232:=by kernel_rfl
 i233:=by kernel_rfl
 m17:=by kernel_rfl
 m18:=by kernel_rfl
 m19:=by kernel_rfl }
end Go.Proofs
namespace Go.Vx
open Go.RowKit Go.Shelf Go.Proofs
theorem FSpec.of_text{P:Program}{T:Tab}{f:FuncId}{ds:List D}{l:List UInt8}(hcall:∀ args w,(callFunc f args).run P w = .ok (.enter f args) w)
    (h:∀ (V:Vw) (w:World) (args:Array Value),args.size=ds.length->(∀ (j:Nat) v d,args[j]? = some v->ds[j]? = some d->RI (szOf T) V v d)->Calls P f args w fun q w'=>
     q = .returned (.string ⟨l.toArray⟩)/\Below w.heap.size w w') :
    FSpec P T f ds fun d _=>d = .s l:=by
 refine⟨hcall,fun V w args hV hl hR=>(h V w args hl hR).mono ?_⟩
 rintro q w' ⟨rfl,hb⟩
 exact⟨V,[],[],_,_,rfl,rfl,.imm _ _ (.s l),hb,fun _ _ h=>h,hV.ext hb,fun _ _=>rfl,rfl,by simp,by simp,by simp⟩
theorem str_arg{sz:TypeId->Nat}{V:Vw}{v:Value}{l:List UInt8}(h:RI sz V v (.s l)):v = .string ⟨l.toArray⟩:=by cases h;rfl
theorem int_arg{sz:TypeId->Nat}{V:Vw}{v:Value}{k:IntKind}{n:Int}(h:RI sz V v (.i k n)):v = .int k n:=by cases h;rfl
theorem args2{args:Array Value}{x y:Value}(h:args.size=2)(h0:args[0]? = some x)(h1:args[1]? = some y):args=#[x,y]:=by
 apply Array.ext' 
 apply List.ext_getElem?
 intro i
 match i with
 | 0=>simpa using h0
 | 1=>simpa using h1
 | i+2=>simp;omega
theorem args_two{sz:TypeId->Nat}{V:Vw}{args:Array Value}{a b:D}(hl:args.size=2)(hR:∀ (j:Nat) v d,args[j]? = some v->[a,b][j]? = some d->RI sz V v d):∃ x y,args=#[x,y]/\RI sz V x a/\RI sz V y b:=by
 have h0:args[0]? = some args[0]:=Array.getElem?_eq_getElem (by omega)
 have h1:args[1]? = some args[1]:=Array.getElem?_eq_getElem (by omega)
 exact⟨_,_,args2 hl h0 h1,hR 0 _ _ h0 rfl,hR 1 _ _ h1 rfl⟩
theorem repeat_at{P:Program}{T:Tab}{ρ:Ren}(L:Lays.n105 P ρ)(X:Builder.Extra P ρ)(hc:∀ args w,(callFunc (ρ.f 105) args).run P w = .ok (.enter (ρ.f 105) args) w)(s:List UInt8)(c:Nat)(h:s.length*c<=140737488355328)(hcc:c<=9223372036854775807) :
    FSpec P T (ρ.f 105) [.s s,.i .i64 (c:Nat)] fun d _=>d = .s (Lib.repeatL s c):=by
 refine .of_text hc fun V w args hl hR=>?_
 obtain⟨x,y,rfl,hx,hy⟩:=args_two hl hR
 rw[str_arg hx,int_arg hy]
 exact Any.strings_Repeat L X ⟨s.toArray⟩ c w hcc (by simpa[ByteArray.size] using h)
theorem trim_at{P:Program}{T:Tab}{ρ:Ren}(L:Lays.n160 P ρ)(h116:(P.info? (ρ.t 116)).map (fun i=>(i.zero,i.size))=some (some (.agg (Array.replicate 256 (.bool false))),256))(hc:∀ args w,(callFunc (ρ.f 160) args).run P w = .ok (.enter (ρ.f 160) args) w)(s cs:List UInt8)
    (hs:s.length<=9223372036854775807)(hcs:cs.length<4294967281)(ha:cs.all (fun b=>decide (b.toNat<128))=true):FSpec P T (ρ.f 160) [.s s,.s cs] fun d _=>d = .s (Lib.trimS s cs):=by
 refine .of_text hc fun V w args hl hR=>?_
 obtain⟨x,y,rfl,hx,hy⟩:=args_two hl hR
 rw[str_arg hx,str_arg hy]
 exact Any.strings_Trim_laid L h116 ⟨s.toArray⟩ ⟨cs.toArray⟩ w (by simpa[ByteArray.size] using hs) (by simpa[ByteArray.size] using hcs) (ascii_of_all ha)
end Go.Vx
namespace Go.Vx
open Go.RowKit Go.Instr
def structB(T:Tab)(t:TypeId):Bool:=match T t with|some ⟨_,_,.struct _,_⟩=>true|_=>false
def methB(P:Program)(t:TypeId)(m:String)(f:FuncId):Bool:=match P.info? t with
 | some i=>(match i.methods.find? (fun x=>x.name == m) with
  | some mm=>mm.path.isEmpty && (match mm.func with|some (g,false)=>Nat.beq g f|_=>false)
  | none=>false)
 | none=>false
theorem MethC.of{P:Program}{T:Tab}(hT:TOk P T){t:TypeId}{f:FuncId}{m:String}(hs:structB T t=true)(hm:methB P t m f=true)(hc:∀ args w,(callFunc f args).run P w = .ok (.enter f args) w):MethC P m t f:=by
 unfold structB at hs
 split at hs
 case h_2=>cases hs
 rename_i fs z hti
 obtain⟨fa,hu,-⟩:=(hT _ _ hti).kind
 unfold methB at hm
 split at hm
 case h_2=>cases hm
 rename_i i hi
 split at hm
 case h_2=>cases hm
 rename_i mm hfind
 simp only[Bool.and_eq_true] at hm
 obtain⟨hp,hm⟩:=hm
 split at hm
 case h_2=>cases hm
 rename_i g hg
 have hgf:g=f:=Nat.eq_of_beq_eq_true hm
 subst hgf
 have hpath:mm.path=#[]:=by simpa using hp
 refine⟨fun x args w=>?_⟩
 have hr:∀ w,(method (P.types.size+Made.depth) t x m).run P w = .ok (g,x) w:=by
  intro w
  obtain⟨n,hn⟩:∃ n,P.types.size+Made.depth=n+1:=⟨P.types.size+99,rfl⟩
  rw[hn]
  simp[method,typeInfo,hi,hfind,hpath,hg,follow,receiverAt,run_under hu,Place.get]
 have hprog:(program:Sem Program).run P w = .ok P w:=by simp
 simp only[callMethod,Sem.run_bind,hprog,Result.andThen_ok,hr,hc]
end Go.Vx
namespace Go.Proofs.YtcglkonooeddfaaGreatDoor
open Go Go.Vx
def okC(t:Str):Prop:=CT t/\t ≠ []
open Classical in
noncomputable def zer(t:Str):Str:=if okC t then t else []
open Classical in
noncomputable def perr(t:Str):Int:=if 256<t.length then 2 else if okC t then 0 else 10
theorem zer_of{t:Str}(h:okC t):zer t=t:=by unfold zer;rw[if_pos h]
theorem zer_not{t:Str}(h:¬ okC t):zer t=[]:=by unfold zer;rw[if_neg h]
@[simp] theorem wof_car_nil(k:Nat):wof (car []) k=0#64:=BitVec.eq_of_getLsbD_eq fun i hi=>by rw[wof_get _ _ _ hi];simp[car]
@[simp] theorem wof_one_nil(k:Nat):wof (one []) k=0#64:=BitVec.eq_of_getLsbD_eq fun i hi=>by rw[wof_get _ _ _ hi];simp[one]
def cubOk(t:Str):Prop:=∀ b ∈ t,b=48\/b=49\/b=120
theorem cubOk_step{t:Str}{i:Nat}{b:UInt8}(h:cubOk (t.take i))(hb:t[i]? = some b)(hd:b=48\/b=49\/b=120):cubOk (t.take (i+1)):=by
 intro x hx
 rw[List.take_add_one,hb] at hx
 rcases List.mem_append.1 hx with hx|hx
 . exact h x hx
 . simp at hx;rw[hx];exact hd
theorem u8_ne{b c:UInt8}(h:b ≠ c):¬ ((b.toNat:Nat):Int)=((c.toNat:Nat):Int):=fun e=>h (UInt8.toNat_inj.1 (by omega))
set_option maxHeartbeats 4000000 in
theorem parse_at(t:Str):FSpec Tryz.prog T 62 [.s t] (fun d rows=>d = .tup [.agg (crow (zer t)),.i .i64 (perr t)]/\rows=[]):=by
 refine FSpec.of_ok tok Tryz.func62 rfl Tryz.call62 (by simp) ?_
 (try (conv=>whnf));repeat' (first|refine Ok.seq ?_|((first|refine Ok.region tok ?_|refine Ok.cond ?_);conv=>whnf)|refine Ok.block ?_|((first|refine Ok.skip ?_|refine Ok.ret ?_);conv=>whnf)|(refine bI ?_ ?_<;>intro<;>(conv=>whnf)<;>(try (exfalso;omega)))|fail)
 . rename_i h
   refine Or.inl ?_;(conv=>whnf)
   refine⟨?_,rfl⟩
   rw[zer_not (fun h2=>by have:=h2.1.len;omega),crow_nil]
   unfold perr
   rw[if_pos (by omega)]
   rfl
 . rename_i h0 h
   refine Or.inl ?_;(conv=>whnf)
   refine⟨?_,rfl⟩
   rw[zer_not (fun h2=>h2.2 h),crow_nil]
   unfold perr
   rw[if_neg (by omega),if_neg (fun h2=>h2.2 h)]
   rfl
 . rename_i h0 h1
   have hlen:t.length<=256:=by omega
   have hne:t ≠ []:=h1
   refine Ok.loopU [0,2,4,17] [18] 0 2 (fun (i:Nat)=>[.i .i64 (i:Nat)]) (fun (i:Nat) (_:List (List D))=>[[.i .i64 0,.i .u64 0,.i .u64 0,.i .u64 0,.i .u64 0,.i .u64 0,.i .u64 0,.i .u64 0,.i .u64 0],cells9 t.length (car (t.take i)) (one (t.take i))]) (fun _ r=>r) (fun (i:Nat)=>i<=t.length/\cubOk (t.take i)) (fun (i:Nat)=>t.length - i) (0) (⟨Nat.zero_le _,by simp[cubOk]⟩) ?_;(conv=>whnf);refine⟨by ((conv=>whnf);first|rfl|(simp[envCat,List.take_of_length_le,cells9];done)|(simp[envCat,List.take_of_length_le,cells9];rw[IntKind.wrap_i64];omega)),?_⟩
   rintro i ⟨hi,hok⟩
   (conv=>whnf)
   by_cases hit:i<t.length
   . obtain⟨b,hb⟩:∃ b,t[i]? = some b:=⟨_,List.getElem?_eq_getElem hit⟩
     have hbI:t[((i:Nat):Int).toNat]? = some b:=hb
     obtain⟨q,r,hqr,hr,hq⟩:=split64 i (by omega)
     have hrem:=rem64 hqr hr
     have hquo:=quo64 hqr hr (by omega)
     have hrr:((r:Nat):Int)=((r:Nat):Int)/\r<64:=⟨rfl,hr⟩
     by_cases h49:b=49
     . subst h49
       have hn:(((49:UInt8).toNat:Nat):Int)=49:=rfl
       rcases hq with rfl|rfl|rfl|rfl
       all_goals
        (try (conv=>whnf));repeat' (first|refine Ok.seq ?_|((first|refine Ok.region tok ?_|refine Ok.cond ?_);conv=>whnf)|refine Ok.block ?_|((first|refine Ok.skip ?_|refine⟨_,by assumption,?_⟩);conv=>whnf)|(refine bI ?_ ?_<;>intro<;>(conv=>whnf)<;>(try (exfalso;omega)))|(refine aJ ?_;conv=>whnf)|fail)
        refine Or.inr (Or.inr (Or.inl ?_));(conv=>whnf);refine⟨_,_,Tryz.func107,rfl,Tryz.call107,?_⟩;(conv=>whnf)
        (try (conv=>whnf));repeat' (first|((first|(with_reducible_and_instances (first|refine nShl1' rfl (by assumption) ?_|refine nOr ?_))|refine Ok.region tok ?_|refine Ok.region_plan (id:=0) tok follows [(5,12,[])] [.q 0,.q 1,.q 2,.q 3,.q 4,.q 5,.q 6,.q 7,.q 8,.q 9,.q 10,.q 11,.l 12] (by kernel_rfl) ?_|refine⟨_,(hquo.symm).symm,?_⟩|refine⟨_,(hrem.symm).symm,?_⟩|refine aJ ?_|refine⟨_,rfl,?_⟩);conv=>whnf)|fail)
        refine Or.inr (Or.inr (Or.inl ?_));(conv=>whnf);refine⟨_,_,Tryz.func107,rfl,Tryz.call107,?_⟩;(conv=>whnf)
        (try (conv=>whnf));repeat' (first|((first|(with_reducible_and_instances (first|refine nShl1' rfl (by assumption) ?_|refine nOr ?_))|refine Ok.region tok ?_|refine Ok.region_plan (id:=0) tok follows [(5,12,[])] [.q 0,.q 1,.q 2,.q 3,.q 4,.q 5,.q 6,.q 7,.q 8,.q 9,.q 10,.q 11,.l 12] (by kernel_rfl) ?_|refine⟨_,(hquo.symm).symm,?_⟩|refine⟨_,(hrem.symm).symm,?_⟩|refine nI ?_|refine aJ ?_|refine⟨_,rfl,?_⟩);conv=>whnf)|fail)
        refine⟨i+1,by omega,⟨by omega,cubOk_step hok hb (by simp)⟩,?_⟩
        have c0:=(put_word (f:=car (t.take i)) (g:=car (t.take (i+1))) hqr hr (car_put hb rfl) 0).trans (by first|exact if_pos rfl|exact if_neg (by decide))
        have c1:=(put_word (f:=car (t.take i)) (g:=car (t.take (i+1))) hqr hr (car_put hb rfl) 1).trans (by first|exact if_pos rfl|exact if_neg (by decide))
        have c2:=(put_word (f:=car (t.take i)) (g:=car (t.take (i+1))) hqr hr (car_put hb rfl) 2).trans (by first|exact if_pos rfl|exact if_neg (by decide))
        have c3:=(put_word (f:=car (t.take i)) (g:=car (t.take (i+1))) hqr hr (car_put hb rfl) 3).trans (by first|exact if_pos rfl|exact if_neg (by decide))
        have o0:=(put_word (f:=one (t.take i)) (g:=one (t.take (i+1))) hqr hr (one_put hb) 0).trans (by first|exact if_pos rfl|exact if_neg (by decide))
        have o1:=(put_word (f:=one (t.take i)) (g:=one (t.take (i+1))) hqr hr (one_put hb) 1).trans (by first|exact if_pos rfl|exact if_neg (by decide))
        have o2:=(put_word (f:=one (t.take i)) (g:=one (t.take (i+1))) hqr hr (one_put hb) 2).trans (by first|exact if_pos rfl|exact if_neg (by decide))
        have o3:=(put_word (f:=one (t.take i)) (g:=one (t.take (i+1))) hqr hr (one_put hb) 3).trans (by first|exact if_pos rfl|exact if_neg (by decide))
        (conv=>whnf)
        simp only[envCat,cells9,c0,c1,c2,c3,o0,o1,o2,o3]
        rfl
     by_cases h48:b=48
     . subst h48
       have hn:(((48:UInt8).toNat:Nat):Int)=48:=rfl
       rcases hq with rfl|rfl|rfl|rfl
       all_goals
        (try (conv=>whnf));repeat' (first|refine Ok.seq ?_|((first|refine Ok.region tok ?_|refine Ok.cond ?_);conv=>whnf)|refine Ok.block ?_|((first|refine Ok.skip ?_|refine⟨_,by assumption,?_⟩);conv=>whnf)|(refine bI ?_ ?_<;>intro<;>(conv=>whnf)<;>(try (exfalso;omega)))|(refine aJ ?_;conv=>whnf)|fail)
        refine Or.inr (Or.inr (Or.inl ?_));(conv=>whnf);refine⟨_,_,Tryz.func107,rfl,Tryz.call107,?_⟩;(conv=>whnf)
        (try (conv=>whnf));repeat' (first|((first|(with_reducible_and_instances (first|refine nShl1' rfl (by assumption) ?_|refine nOr ?_))|refine Ok.region tok ?_|refine Ok.region_plan (id:=0) tok follows [(5,12,[])] [.q 0,.q 1,.q 2,.q 3,.q 4,.q 5,.q 6,.q 7,.q 8,.q 9,.q 10,.q 11,.l 12] (by kernel_rfl) ?_|refine⟨_,(hquo.symm).symm,?_⟩|refine⟨_,(hrem.symm).symm,?_⟩|refine nI ?_|refine aJ ?_|refine⟨_,rfl,?_⟩);conv=>whnf)|fail)
        refine⟨i+1,by omega,⟨by omega,cubOk_step hok hb (by simp)⟩,?_⟩
        have c0:=(put_word (f:=car (t.take i)) (g:=car (t.take (i+1))) hqr hr (car_put hb rfl) 0).trans (by first|exact if_pos rfl|exact if_neg (by decide))
        have c1:=(put_word (f:=car (t.take i)) (g:=car (t.take (i+1))) hqr hr (car_put hb rfl) 1).trans (by first|exact if_pos rfl|exact if_neg (by decide))
        have c2:=(put_word (f:=car (t.take i)) (g:=car (t.take (i+1))) hqr hr (car_put hb rfl) 2).trans (by first|exact if_pos rfl|exact if_neg (by decide))
        have c3:=(put_word (f:=car (t.take i)) (g:=car (t.take (i+1))) hqr hr (car_put hb rfl) 3).trans (by first|exact if_pos rfl|exact if_neg (by decide))
        have o0:=one_same hb (by decide) 0
        have o1:=one_same hb (by decide) 1
        have o2:=one_same hb (by decide) 2
        have o3:=one_same hb (by decide) 3
        (conv=>whnf)
        simp only[envCat,cells9,c0,c1,c2,c3,o0,o1,o2,o3]
        rfl
     have hn49:=u8_ne h49
     have hn48:=u8_ne h48
     have e49:(((49:UInt8).toNat:Nat):Int)=49:=rfl
     have e48:(((48:UInt8).toNat:Nat):Int)=48:=rfl
     rw[e49] at hn49
     rw[e48] at hn48
     by_cases h120:b=120
     . subst h120
       have hn:(((120:UInt8).toNat:Nat):Int)=120:=rfl
       (try (conv=>whnf));repeat' (first|refine Ok.seq ?_|((first|refine Ok.region tok ?_|refine Ok.cond ?_);conv=>whnf)|refine Ok.block ?_|((first|refine Ok.skip ?_|refine nI ?_|refine⟨_,by assumption,?_⟩);conv=>whnf)|(refine bI ?_ ?_<;>intro<;>(conv=>whnf)<;>(try (exfalso;omega)))|(refine aJ ?_;conv=>whnf)|fail)
       refine⟨i+1,by omega,⟨by omega,cubOk_step hok hb (by simp)⟩,?_⟩
       have c0:=car_same hb rfl 0
       have c1:=car_same hb rfl 1
       have c2:=car_same hb rfl 2
       have c3:=car_same hb rfl 3
       have o0:=one_same hb (by decide) 0
       have o1:=one_same hb (by decide) 1
       have o2:=one_same hb (by decide) 2
       have o3:=one_same hb (by decide) 3
       (conv=>whnf)
       simp only[envCat,cells9,c0,c1,c2,c3,o0,o1,o2,o3]
       rfl
     . have hn120:=u8_ne h120
       have e120:(((120:UInt8).toNat:Nat):Int)=120:=rfl
       rw[e120] at hn120
       (try (conv=>whnf));repeat' (first|refine Ok.seq ?_|((first|refine Ok.region tok ?_|refine Ok.cond ?_);conv=>whnf)|refine Ok.block ?_|((first|refine Ok.skip ?_|refine Ok.ret ?_|refine⟨_,by assumption,?_⟩);conv=>whnf)|(refine bI ?_ ?_<;>intro<;>(conv=>whnf)<;>(try (exfalso;omega)))|((first|refine aJ ?_|refine num_any ?_);conv=>whnf)|fail)
       refine Or.inl ?_;(conv=>whnf)
       refine⟨?_,rfl⟩
       have hno:¬ okC t:=fun h2=>by
        rcases h2.1.cub b (List.mem_of_getElem? hb) with e|e|e
        . exact h48 e
        . exact h49 e
        . exact h120 e
       rw[zer_not hno,crow_nil]
       unfold perr
       rw[if_neg (by omega),if_neg hno]
       rfl
   . have he:i=t.length:=by omega
     subst he
     rw[List.take_length] at *
     (try (conv=>whnf));repeat' (first|refine Ok.seq ?_|((first|refine Ok.region tok ?_|refine Ok.cond ?_|refine Ok.exit ?_|refine Ok.ret ?_);conv=>whnf)|(refine bI ?_ ?_<;>intro<;>(conv=>whnf)<;>(try (exfalso;omega)))|fail)
     refine Or.inl ?_;(conv=>whnf)
     refine⟨?_,rfl⟩
     have hyes:okC t:=⟨⟨hlen,hok⟩,hne⟩
     rw[zer_of hyes]
     unfold perr
     rw[if_neg (by omega),if_pos hyes]
     rfl
end Go.Proofs.YtcglkonooeddfaaGreatDoor
namespace Go.Proofs.YtcglkonooeddfaaGreatDoor
open Go Go.Vx
theorem fits_at(c d:Str):FSpec Tryz.prog T 165 [.agg (crow c),.agg (crow d)] (fun r _=>r = .b (c.length=d.length/\0<c.length)):=by
 refine FSpec.of_ok tok Tryz.func165 rfl Tryz.call165 (by simp) ?_
 (try (conv=>whnf));repeat' (first|refine Ok.seq ?_|((first|refine Ok.region tok ?_|refine Ok.ret ?_);conv=>whnf)|(refine bI ?_ ?_<;>intro<;>(conv=>whnf)<;>(try (exfalso;omega)))|fail)
 all_goals
  refine Or.inl ?_;(conv=>whnf)
  simp[oneD]
  omega
theorem mt_none{c d:Str}(h:meetT c d=none):(D.tup [.agg [.i .i64 0,.i .u64 0,.i .u64 0,.i .u64 0,.i .u64 0,.i .u64 0,.i .u64 0,.i .u64 0,.i .u64 0],.b False]) = .tup [.agg (crow ((meetT c d).getD [])),.b ((meetT c d).isSome=true)]:=by
 rw[h]
 simp[crow_nil]
set_option maxHeartbeats 4000000 in
theorem meet_at(c d:Str)(hc:CT c)(hd:CT d):FSpec Tryz.prog T 108 [.agg (crow c),.agg (crow d)] (fun r rows=>r = .tup [.agg (crow ((meetT c d).getD [])),.b ((meetT c d).isSome=true)]/\rows=[]):=by
 refine FSpec.of_ok tok Tryz.func108 rfl Tryz.call108 (by simp) ?_
 (try (conv=>whnf));repeat' (first|refine Ok.seq ?_|((first|refine Ok.region tok ?_|refine Ok.cond ?_);conv=>whnf)|refine Ok.block ?_|((first|refine Ok.skip ?_|refine Ok.ret ?_);conv=>whnf)|(refine Or.inl ?_;(conv=>whnf);(repeat (refine aI ?_;conv=>whnf));refine⟨_,fits_at c d,rfl,?_⟩;conv=>whnf)|(refine bI ?_ ?_<;>intro<;>(conv=>whnf)<;>(try (exfalso;omega)))|fail)
 . rename_i h
   refine Or.inl ?_;(conv=>whnf)
   refine⟨mt_none ?_,rfl⟩
   unfold meetT
   split
   . rfl
   . rename_i hne
     cases hm:meetL c d with
     | none=>rfl
     | some m=>exact absurd ⟨by have:=meetL_len hm;omega,List.length_pos_iff.2 hne⟩ h
 . rename_i h
   have hfit:c.length=d.length/\0<c.length:=Classical.not_not.1 h
   have hne:c ≠ []:=List.length_pos_iff.1 hfit.2
   refine Ok.loopU [2,3,4] [12] 0 3 (fun (w:Nat)=>[.i .i64 (w:Nat)]) (fun (w:Nat) (_:List (List D))=>[mcells c.length w c d,crow d,[.i .i64 0,.i .u64 0,.i .u64 0,.i .u64 0,.i .u64 0,.i .u64 0,.i .u64 0,.i .u64 0,.i .u64 0]]) (fun _ r=>r) (fun (w:Nat)=>w<=4/\∀ k,k<w->((wof (cfl c d) k).toNat:Int)=0) (fun (w:Nat)=>4 - w) (0) (⟨by omega,fun k hk=>absurd hk (by omega)⟩) ?_;(conv=>whnf);refine⟨by ((conv=>whnf);first|rfl|(simp[envCat,List.take_of_length_le,cells9,mcells];done)|(simp[envCat,List.take_of_length_le,cells9,mcells];rw[IntKind.wrap_i64];omega)),?_⟩
   rintro w ⟨hw,hz⟩
   (conv=>whnf)
   by_cases hw4:w=4
   . subst hw4
     obtain⟨m,hm,m1,m2⟩:=cfl_some hc hd hfit.1 hne (no_cfl hc hz)
     have hml:=(meetT_ct hm hc hd).2.1
     (try (conv=>whnf));repeat' (first|refine Ok.seq ?_|((first|refine Ok.region tok ?_|refine Ok.cond ?_|refine Ok.exit ?_|refine Ok.ret ?_);conv=>whnf)|(refine bI ?_ ?_<;>intro<;>(conv=>whnf)<;>(try (exfalso;omega)))|fail)
     refine Or.inl ?_;(conv=>whnf)
     refine⟨?_,rfl⟩
     have hme:=mcells_end hml m1 m2
     rw[hm]
     show D.tup [.agg (mcells c.length 4 c d),.b True]=_
     rw[hme]
     simp
   . rcases (by omega:w=0\/w=1\/w=2\/w=3) with rfl|rfl|rfl|rfl
     . (try (conv=>whnf));repeat' (first|((with_reducible_and_instances (first|refine nAnd ?_|refine nOr ?_|refine nXor ?_));conv=>whnf)|refine Ok.seq ?_|((first|refine Ok.region tok ?_|refine Ok.region_plan (id:=8) tok follows [(3,11,[]),(7,11,[])] [.q 0,.q 1,.q 2,.q 3,.q 4,.q 5,.q 6,.q 7,.q 8,.q 9,.q 10,.l 11] (by kernel_rfl) ?_|refine Ok.region_plan (id:=9) tok follows [(3,11,[]),(7,11,[])] [.q 0,.q 1,.q 2,.q 3,.q 4,.q 5,.q 6,.q 7,.q 8,.q 9,.q 10,.l 11] (by kernel_rfl) ?_|refine Ok.region_draw tok follows (by kernel_rfl) ?_|refine Ok.cond ?_);conv=>whnf)|refine Ok.block ?_|((first|refine Ok.skip ?_|refine Ok.ret ?_|refine nI ?_);conv=>whnf)|(refine bI ?_ ?_<;>intro<;>(conv=>whnf)<;>(try (exfalso;omega)))|((first|refine aJ ?_|refine⟨_,rfl,?_⟩);conv=>whnf)|fail)
       . rename_i hx
         refine Or.inl ?_;(conv=>whnf)
         have hx2:¬ ((wof (cfl c d) 0).toNat:Int)=0:=by
          rw[<- word_cfl]
          exact hx
         obtain⟨i,hi⟩:=wof_nz hx2
         exact⟨mt_none (cfl_none hc hd hi),rfl⟩
       . rename_i hx
         have hx2:((wof (cfl c d) 0).toNat:Int)=0:=by
          rw[<- word_cfl]
          exact Classical.not_not.1 hx
         refine⟨1,by omega,⟨by omega,fun k hk=>?_⟩,?_⟩
         . by_cases hk2:k=0
           . rw[hk2];exact hx2
           . exact hz k (by omega)
         . (conv=>whnf)
           rfl
     . (try (conv=>whnf));repeat' (first|((with_reducible_and_instances (first|refine nAnd ?_|refine nOr ?_|refine nXor ?_));conv=>whnf)|refine Ok.seq ?_|((first|refine Ok.region tok ?_|refine Ok.region_plan (id:=8) tok follows [(3,11,[]),(7,11,[])] [.q 0,.q 1,.q 2,.q 3,.q 4,.q 5,.q 6,.q 7,.q 8,.q 9,.q 10,.l 11] (by kernel_rfl) ?_|refine Ok.region_plan (id:=9) tok follows [(3,11,[]),(7,11,[])] [.q 0,.q 1,.q 2,.q 3,.q 4,.q 5,.q 6,.q 7,.q 8,.q 9,.q 10,.l 11] (by kernel_rfl) ?_|refine Ok.region_draw tok follows (by kernel_rfl) ?_|refine Ok.cond ?_);conv=>whnf)|refine Ok.block ?_|((first|refine Ok.skip ?_|refine Ok.ret ?_|refine nI ?_);conv=>whnf)|(refine bI ?_ ?_<;>intro<;>(conv=>whnf)<;>(try (exfalso;omega)))|((first|refine aJ ?_|refine⟨_,rfl,?_⟩);conv=>whnf)|fail)
       . rename_i hx
         refine Or.inl ?_;(conv=>whnf)
         have hx2:¬ ((wof (cfl c d) 1).toNat:Int)=0:=by
          rw[<- word_cfl]
          exact hx
         obtain⟨i,hi⟩:=wof_nz hx2
         exact⟨mt_none (cfl_none hc hd hi),rfl⟩
       . rename_i hx
         have hx2:((wof (cfl c d) 1).toNat:Int)=0:=by
          rw[<- word_cfl]
          exact Classical.not_not.1 hx
         refine⟨2,by omega,⟨by omega,fun k hk=>?_⟩,?_⟩
         . by_cases hk2:k=1
           . rw[hk2];exact hx2
           . exact hz k (by omega)
         . (conv=>whnf)
           rfl
     . (try (conv=>whnf));repeat' (first|((with_reducible_and_instances (first|refine nAnd ?_|refine nOr ?_|refine nXor ?_));conv=>whnf)|refine Ok.seq ?_|((first|refine Ok.region tok ?_|refine Ok.region_plan (id:=8) tok follows [(3,11,[]),(7,11,[])] [.q 0,.q 1,.q 2,.q 3,.q 4,.q 5,.q 6,.q 7,.q 8,.q 9,.q 10,.l 11] (by kernel_rfl) ?_|refine Ok.region_plan (id:=9) tok follows [(3,11,[]),(7,11,[])] [.q 0,.q 1,.q 2,.q 3,.q 4,.q 5,.q 6,.q 7,.q 8,.q 9,.q 10,.l 11] (by kernel_rfl) ?_|refine Ok.region_draw tok follows (by kernel_rfl) ?_|refine Ok.cond ?_);conv=>whnf)|refine Ok.block ?_|((first|refine Ok.skip ?_|refine Ok.ret ?_|refine nI ?_);conv=>whnf)|(refine bI ?_ ?_<;>intro<;>(conv=>whnf)<;>(try (exfalso;omega)))|((first|refine aJ ?_|refine⟨_,rfl,?_⟩);conv=>whnf)|fail)
       . rename_i hx
         refine Or.inl ?_;(conv=>whnf)
         have hx2:¬ ((wof (cfl c d) 2).toNat:Int)=0:=by
          rw[<- word_cfl]
          exact hx
         obtain⟨i,hi⟩:=wof_nz hx2
         exact⟨mt_none (cfl_none hc hd hi),rfl⟩
       . rename_i hx
         have hx2:((wof (cfl c d) 2).toNat:Int)=0:=by
          rw[<- word_cfl]
          exact Classical.not_not.1 hx
         refine⟨3,by omega,⟨by omega,fun k hk=>?_⟩,?_⟩
         . by_cases hk2:k=2
           . rw[hk2];exact hx2
           . exact hz k (by omega)
         . (conv=>whnf)
           rfl
     . (try (conv=>whnf));repeat' (first|((with_reducible_and_instances (first|refine nAnd ?_|refine nOr ?_|refine nXor ?_));conv=>whnf)|refine Ok.seq ?_|((first|refine Ok.region tok ?_|refine Ok.region_plan (id:=8) tok follows [(3,11,[]),(7,11,[])] [.q 0,.q 1,.q 2,.q 3,.q 4,.q 5,.q 6,.q 7,.q 8,.q 9,.q 10,.l 11] (by kernel_rfl) ?_|refine Ok.region_plan (id:=9) tok follows [(3,11,[]),(7,11,[])] [.q 0,.q 1,.q 2,.q 3,.q 4,.q 5,.q 6,.q 7,.q 8,.q 9,.q 10,.l 11] (by kernel_rfl) ?_|refine Ok.region_draw tok follows (by kernel_rfl) ?_|refine Ok.cond ?_);conv=>whnf)|refine Ok.block ?_|((first|refine Ok.skip ?_|refine Ok.ret ?_|refine nI ?_);conv=>whnf)|(refine bI ?_ ?_<;>intro<;>(conv=>whnf)<;>(try (exfalso;omega)))|((first|refine aJ ?_|refine⟨_,rfl,?_⟩);conv=>whnf)|fail)
       . rename_i hx
         refine Or.inl ?_;(conv=>whnf)
         have hx2:¬ ((wof (cfl c d) 3).toNat:Int)=0:=by
          rw[<- word_cfl]
          exact hx
         obtain⟨i,hi⟩:=wof_nz hx2
         exact⟨mt_none (cfl_none hc hd hi),rfl⟩
       . rename_i hx
         have hx2:((wof (cfl c d) 3).toNat:Int)=0:=by
          rw[<- word_cfl]
          exact Classical.not_not.1 hx
         refine⟨4,by omega,⟨by omega,fun k hk=>?_⟩,?_⟩
         . by_cases hk2:k=3
           . rw[hk2];exact hx2
           . exact hz k (by omega)
         . (conv=>whnf)
           rfl
end Go.Proofs.YtcglkonooeddfaaGreatDoor
namespace Go.Proofs.YtcglkonooeddfaaGreatDoor
open Go Go.Vx
theorem fill_at{t:Str}{i:Nat}(hi:i<t.length):(t.take i++List.replicate (t.length - i) (0:UInt8))[i]? = some 0:=by
 rw[List.getElem?_append_right (by simp;omega)]
 simp[List.getElem?_replicate]
 omega
theorem fill_set{t:Str}{i:Nat}{b:UInt8}(h:t[i]? = some b):(t.take i++List.replicate (t.length - i) (0:UInt8)).set i b=t.take (i+1)++List.replicate (t.length - (i+1)) 0:=by
 have hi:i<t.length:=(List.getElem?_eq_some_iff.1 h).1
 rw[List.set_append,if_neg (by simp;omega)]
 rw[show t.length - i=(t.length - (i+1))+1 by omega,List.replicate_succ]
 rw[show i - (t.take i).length=0 by simp;omega]
 rw[List.set_cons_zero,List.take_add_one,h]
 simp
set_option maxHeartbeats 4000000 in
theorem text_at(t:Str)(ht:CT t):FSpec Tryz.prog T 111 [.agg (crow t)] (fun r _=>r = .s t):=by
 have hlen:=ht.len
 refine FSpec.of_ok tok Tryz.func111 rfl Tryz.call111 (by simp) ?_
 (try (conv=>whnf));repeat' (first|refine Ok.seq ?_|(refine Ok.region tok ?_;conv=>whnf)|refine Ok.block ?_|((first|refine⟨_,_,rfl,rfl,?_⟩|refine aJ ?_|refine⟨_,rfl,?_⟩);conv=>whnf)|fail)
 refine Ok.loopU [1,3,9] [10] 1 1 (fun (i:Nat)=>[.i .i64 (i:Nat)]) (fun (i:Nat) (_:List (List D))=>[crow t]) (fun (i:Nat) (_:Vx.Rows)=>[some (5,(t.take i++List.replicate (t.length - i) 0).map bcell)]) (fun (i:Nat)=>i<=t.length) (fun (i:Nat)=>t.length - i) (0) (Nat.zero_le _) ?_;(conv=>whnf);refine⟨by ((conv=>whnf);first|rfl|(simp[envCat,List.take_of_length_le,cells9,bcell];done)|(simp[envCat,List.take_of_length_le,cells9,bcell];rw[IntKind.wrap_i64];omega)),?_⟩
 rintro i hi
 have hll:(t.take i++List.replicate (t.length - i) (0:UInt8)).length=t.length:=by simp;omega
 have hlm:((t.take i++List.replicate (t.length - i) (0:UInt8)).map bcell).length=t.length:=by rw[List.length_map,hll]
 (conv=>whnf)
 by_cases hit:i<t.length
 . obtain⟨b,hb⟩:∃ b,t[i]? = some b:=⟨_,List.getElem?_eq_getElem hit⟩
   obtain⟨q,r,hqr,hr,hq⟩:=split64 i (by omega)
   have hrem:=rem64 hqr hr
   have hquo:=quo64 hqr hr (by omega)
   have hrr:((r:Nat):Int)=((r:Nat):Int)/\r<64:=⟨rfl,hr⟩
   have hca:=at_word (f:=car t) hqr hr
   have hoa:=at_word (f:=one t) hqr hr
   rw[(at_b hb).1] at hca
   rw[(at_b hb).2] at hoa
   have hfa:=fill_at hit
   have hfs:=fill_set hb
   rcases ht.cub b (List.mem_of_getElem? hb) with rfl|rfl|rfl
   . have hc:=hca.2 rfl
     have ho:¬ _:=fun e=>absurd (hoa.1 e) (by decide)
     clear hca hoa
     rcases hq with rfl|rfl|rfl|rfl
     all_goals
      (try (conv=>whnf));repeat' (first|refine Ok.seq ?_|((first|refine Ok.region tok ?_|refine Ok.cond ?_);conv=>whnf)|refine Ok.block ?_|(refine Ok.skip ?_;conv=>whnf)|(refine bI ?_ ?_<;>intro<;>(conv=>whnf)<;>(try (exfalso;omega)))|fail)
      refine Or.inr (Or.inr (Or.inl ?_));(conv=>whnf);refine⟨_,_,Tryz.func167,rfl,Tryz.call167,?_⟩;(conv=>whnf)
      (try (conv=>whnf));repeat' (first|((with_reducible_and_instances (first|refine nShr (by assumption) ?_|refine nAnd1' rfl ?_));conv=>whnf)|refine Ok.seq ?_|((first|refine Ok.region tok ?_|refine⟨_,(hquo.symm).symm,?_⟩|refine⟨_,(hrem.symm).symm,?_⟩|refine Ok.cond ?_|refine Ok.ret ?_);conv=>whnf)|(refine bI ?_ ?_<;>intro<;>(conv=>whnf)<;>(try (exfalso;omega)))|((first|refine aJ ?_|refine⟨_,rfl,?_⟩);conv=>whnf)|fail)
      refine Or.inr (Or.inr (Or.inl ?_));(conv=>whnf);refine⟨_,_,Tryz.func167,rfl,Tryz.call167,?_⟩;(conv=>whnf)
      (try (conv=>whnf));repeat' (first|((with_reducible_and_instances (first|refine nShr (by assumption) ?_|refine nAnd1' rfl ?_));conv=>whnf)|refine Ok.seq ?_|((first|refine Ok.region tok ?_|refine⟨_,(hquo.symm).symm,?_⟩|refine⟨_,(hrem.symm).symm,?_⟩|refine Ok.cond ?_|refine Ok.ret ?_);conv=>whnf)|(refine bI ?_ ?_<;>intro<;>(conv=>whnf)<;>(try (exfalso;omega)))|((first|refine aJ ?_|refine⟨_,rfl,?_⟩);conv=>whnf)|fail)
      refine st 48 hfa (by simp[bcell]) (by simp[setCells,bcell]) ?_
      (try (conv=>whnf));repeat' (first|((first|refine Ok.region tok ?_|refine nI ?_);conv=>whnf)|fail)
      refine⟨i+1,by omega,by omega,?_⟩
      (conv=>whnf)
      simp only[toNat_cast,hfs,envCat]
      rfl
   . have hc:=hca.2 rfl
     have ho:=hoa.2 rfl
     clear hca hoa
     rcases hq with rfl|rfl|rfl|rfl
     all_goals
      (try (conv=>whnf));repeat' (first|refine Ok.seq ?_|((first|refine Ok.region tok ?_|refine Ok.cond ?_);conv=>whnf)|refine Ok.block ?_|(refine Ok.skip ?_;conv=>whnf)|(refine bI ?_ ?_<;>intro<;>(conv=>whnf)<;>(try (exfalso;omega)))|fail)
      refine Or.inr (Or.inr (Or.inl ?_));(conv=>whnf);refine⟨_,_,Tryz.func167,rfl,Tryz.call167,?_⟩;(conv=>whnf)
      (try (conv=>whnf));repeat' (first|((with_reducible_and_instances (first|refine nShr (by assumption) ?_|refine nAnd1' rfl ?_));conv=>whnf)|refine Ok.seq ?_|((first|refine Ok.region tok ?_|refine⟨_,(hquo.symm).symm,?_⟩|refine⟨_,(hrem.symm).symm,?_⟩|refine Ok.cond ?_|refine Ok.ret ?_);conv=>whnf)|(refine bI ?_ ?_<;>intro<;>(conv=>whnf)<;>(try (exfalso;omega)))|((first|refine aJ ?_|refine⟨_,rfl,?_⟩);conv=>whnf)|fail)
      refine Or.inr (Or.inr (Or.inl ?_));(conv=>whnf);refine⟨_,_,Tryz.func167,rfl,Tryz.call167,?_⟩;(conv=>whnf)
      (try (conv=>whnf));repeat' (first|((with_reducible_and_instances (first|refine nShr (by assumption) ?_|refine nAnd1' rfl ?_));conv=>whnf)|refine Ok.seq ?_|((first|refine Ok.region tok ?_|refine⟨_,(hquo.symm).symm,?_⟩|refine⟨_,(hrem.symm).symm,?_⟩|refine Ok.cond ?_|refine Ok.ret ?_);conv=>whnf)|(refine bI ?_ ?_<;>intro<;>(conv=>whnf)<;>(try (exfalso;omega)))|((first|refine aJ ?_|refine⟨_,rfl,?_⟩);conv=>whnf)|fail)
      refine st 49 hfa (by simp[bcell]) (by simp[setCells,bcell]) ?_
      (try (conv=>whnf));repeat' (first|((first|refine Ok.region tok ?_|refine nI ?_);conv=>whnf)|fail)
      refine⟨i+1,by omega,by omega,?_⟩
      (conv=>whnf)
      simp only[toNat_cast,hfs,envCat]
      rfl
   . have hc:¬ _:=fun e=>absurd (hca.1 e) (by decide)
     clear hca hoa
     rcases hq with rfl|rfl|rfl|rfl
     all_goals
      (try (conv=>whnf));repeat' (first|refine Ok.seq ?_|((first|refine Ok.region tok ?_|refine Ok.cond ?_);conv=>whnf)|refine Ok.block ?_|(refine Ok.skip ?_;conv=>whnf)|(refine bI ?_ ?_<;>intro<;>(conv=>whnf)<;>(try (exfalso;omega)))|fail)
      refine Or.inr (Or.inr (Or.inl ?_));(conv=>whnf);refine⟨_,_,Tryz.func167,rfl,Tryz.call167,?_⟩;(conv=>whnf)
      (try (conv=>whnf));repeat' (first|((with_reducible_and_instances (first|refine nShr (by assumption) ?_|refine nAnd1' rfl ?_));conv=>whnf)|refine Ok.seq ?_|((first|refine Ok.region tok ?_|refine⟨_,(hquo.symm).symm,?_⟩|refine⟨_,(hrem.symm).symm,?_⟩|refine Ok.cond ?_|refine Ok.ret ?_);conv=>whnf)|(refine bI ?_ ?_<;>intro<;>(conv=>whnf)<;>(try (exfalso;omega)))|((first|refine aJ ?_|refine⟨_,rfl,?_⟩);conv=>whnf)|fail)
      refine st 120 hfa (by simp[bcell]) (by simp[setCells,bcell]) ?_
      (try (conv=>whnf));repeat' (first|((first|refine Ok.region tok ?_|refine nI ?_);conv=>whnf)|fail)
      refine⟨i+1,by omega,by omega,?_⟩
      (conv=>whnf)
      simp only[toNat_cast,hfs,envCat]
      rfl
 . have he:i=t.length:=by omega
   subst he
   rw[List.take_length,Nat.sub_self,List.replicate_zero,List.append_nil] at *
   (try (conv=>whnf));repeat' (first|refine Ok.seq ?_|((first|refine Ok.region tok ?_|refine Ok.cond ?_|refine Ok.exit ?_);conv=>whnf)|(refine bI ?_ ?_<;>intro<;>(conv=>whnf)<;>(try (exfalso;omega)))|(refine aJ ?_;conv=>whnf)|fail)
   refine⟨t,take_all bcell t,?_⟩
   (try (conv=>whnf));repeat' (first|(refine Ok.ret ?_;conv=>whnf)|fail)
   refine Or.inl ?_;(conv=>whnf)
   rfl
end Go.Proofs.YtcglkonooeddfaaGreatDoor
namespace Go.Proofs.YtcglkonooeddfaaGreatDoor
open Go Go.Vx
def CN(c:Str):Prop:=CT c/\c ≠ []
end Go.Proofs.YtcglkonooeddfaaGreatDoor
namespace Go.Proofs.YtcglkonooeddfaaGreatDoor
open Go Go.Vx
def kf(p:Str)(ks:List Str)(i:Nat):Str:=p++(ks.take i).flatten
end Go.Proofs.YtcglkonooeddfaaGreatDoor
namespace Go.Proofs.YtcglkonooeddfaaGreatDoor
open Go Go.Vx
@[reducible] def srow(s:Str):List D:=[.s s]
end Go.Proofs.YtcglkonooeddfaaGreatDoor
namespace Go.Proofs.YtcglkonooeddfaaGreatDoor
open Go Go.Vx
def ov1(a b:UInt8):UInt8:=if a=120 then b else a
def curL(c d:Str)(i:Nat):Str:=List.zipWith ov1 (c.take i) (d.take i)++c.drop i
def pcT(c d:Str)(j:Nat):Option Str:=
 match c[j]?,d[j]? with
 | some a,some b=>if a=120/\b ≠ 120 then some ((curL c d j).set j (97 - b)) else none
 | _,_=>none
def pcsT(c d:Str)(i:Nat):List Str:=(List.range i).filterMap (pcT c d)
def splitT(c d:Str):List Str:=if (meetT c d).isSome then pcsT c d c.length else [c]
theorem pcsT_some{c d:Str}{i:Nat}{x:Str}(h:pcT c d i=some x):pcsT c d (i+1)=pcsT c d i++[x]:=by
 unfold pcsT;rw[List.range_succ,List.filterMap_append];simp[h]
theorem pcsT_none{c d:Str}{i:Nat}(h:pcT c d i=none):pcsT c d (i+1)=pcsT c d i:=by
 unfold pcsT;rw[List.range_succ,List.filterMap_append];simp[h]
theorem pcT_at{c d:Str}{j:Nat}{a b:UInt8}(ha:c[j]? = some a)(hb:d[j]? = some b):pcT c d j=if a=120/\b ≠ 120 then some ((curL c d j).set j (97 - b)) else none:=by
 unfold pcT;rw[ha,hb]
theorem curL_len{c d:Str}(hl:d.length=c.length)(i:Nat):(curL c d i).length=c.length:=by simp[curL];omega
theorem curL_at{c d:Str}{i:Nat}{a:UInt8}(ha:c[i]? = some a)(hd:i<d.length):(curL c d i)[i]? = some a:=by
 have hi:i<c.length:=(List.getElem?_eq_some_iff.1 ha).1
 have hl:(List.zipWith ov1 (c.take i) (d.take i)).length=i:=by simp;omega
 unfold curL
 rw[List.getElem?_append_right (by omega),hl,Nat.sub_self,List.getElem?_drop]
 exact ha
theorem curL_succ{c d:Str}{i:Nat}{a b:UInt8}(ha:c[i]? = some a)(hb:d[i]? = some b):curL c d (i+1)=(curL c d i).set i (ov1 a b):=by
 have hi:i<c.length:=(List.getElem?_eq_some_iff.1 ha).1
 have hi2:i<d.length:=(List.getElem?_eq_some_iff.1 hb).1
 have hl:(List.zipWith ov1 (c.take i) (d.take i)).length=i:=by simp;omega
 unfold curL
 rw[List.set_append,if_neg (by omega),hl,Nat.sub_self,List.drop_eq_getElem_cons hi,List.set_cons_zero,take_snoc ha,take_snoc hb]
 rw[List.zipWith_append (by simp;omega)]
 simp
theorem curL_zero(c d:Str):curL c d 0=c:=by simp[curL]
theorem set_self{l:Str}{i:Nat}{a:UInt8}(h:l[i]? = some a):l.set i a=l:=by
 have hi:=(List.getElem?_eq_some_iff.1 h).1
 apply List.ext_getElem?
 intro k
 by_cases hk:k=i
 . subst hk;rw[List.getElem?_set_self hi,h]
 . rw[List.getElem?_set_ne (Ne.symm hk)]
theorem curL_same{c d:Str}{i:Nat}{a b:UInt8}(ha:c[i]? = some a)(hb:d[i]? = some b)(h:¬ (a=120/\b ≠ 120)):curL c d (i+1)=curL c d i:=by
 rw[curL_succ ha hb,show ov1 a b=a by
  unfold ov1
  split
  . rename_i he
    by_cases hb2:b=120
    . rw[hb2,he]
    . exact absurd ⟨he,hb2⟩ h
  . rfl]
 exact set_self (curL_at ha (List.getElem?_eq_some_iff.1 hb).1)
theorem ct_set{l:Str}{i:Nat}{b:UInt8}(h:CT l)(hb:b=48\/b=49\/b=120):CT (l.set i b):=by
 refine⟨by rw[List.length_set];exact h.len,fun x hx=>?_⟩
 rcases List.mem_or_eq_of_mem_set hx with hx|rfl
 . exact h.cub x hx
 . exact hb
theorem ov1_cub{a b:UInt8}(ha:a=48\/a=49\/a=120)(hb:b=48\/b=49\/b=120):ov1 a b=48\/ov1 a b=49\/ov1 a b=120:=by
 unfold ov1;split
 . exact hb
 . exact ha
theorem curL_ct{c d:Str}(hc:CT c)(hd:CT d)(hl:d.length=c.length)(i:Nat):CT (curL c d i):=by
 induction i with
 | zero=>rw[curL_zero];exact hc
 | succ i ih=>
  by_cases hi:i<c.length
  . have ha:=List.getElem?_eq_getElem hi
    have hb:=List.getElem?_eq_getElem (show i<d.length by omega)
    rw[curL_succ ha hb]
    exact ct_set ih (ov1_cub (hc.cub _ (List.mem_of_getElem? ha)) (hd.cub _ (List.mem_of_getElem? hb)))
  . rw[show curL c d (i+1)=curL c d i by
      unfold curL
      rw[List.take_of_length_le (show c.length<=i+1 by omega),List.take_of_length_le (show d.length<=i+1 by omega),List.take_of_length_le (show c.length<=i by omega),List.take_of_length_le (show d.length<=i by omega),List.drop_of_length_le (show c.length<=i+1 by omega),List.drop_of_length_le (show c.length<=i by omega)]]
    exact ih
theorem opp_cub{b:UInt8}(hb:b=48\/b=49\/b=120)(h:b ≠ 120):97 - b=48\/97 - b=49\/97 - b=120:=by
 rcases hb with rfl|rfl|rfl
 . right;left;rfl
 . left;rfl
 . exact absurd rfl h
theorem pcsT_cn{c d:Str}(hc:CN c)(hd:CT d)(hl:d.length=c.length)(i:Nat):∀ x ∈ pcsT c d i,CN x/\x.length=c.length:=by
 intro x hx
 obtain⟨j,_,hj⟩:=List.mem_filterMap.1 hx
 unfold pcT at hj
 split at hj
 . rename_i a b ha hb
   split at hj
   . rename_i hab
     cases hj
     have h1:=curL_len hl j
     refine⟨⟨ct_set (curL_ct hc.1 hd hl j) (opp_cub (hd.cub _ (List.mem_of_getElem? hb)) hab.2),fun e=>hc.2 ?_⟩,by rw[List.length_set];exact h1⟩
     have:=congrArg List.length e
     rw[List.length_set,h1] at this
     exact List.eq_nil_of_length_eq_zero (by simpa using this)
   . cases hj
 . cases hj
theorem splitT_cn{c d:Str}(hc:CN c)(hd:CT d):∀ x ∈ splitT c d,CN x/\x.length=c.length:=by
 intro x hx
 unfold splitT at hx
 split at hx
 . rename_i h
   obtain⟨m,hm⟩:=Option.isSome_iff_exists.1 h
   rw[meetT_eq hc.2] at hm
   have:=meetL_len hm
   exact pcsT_cn hc hd (by omega) _ x hx
 . simp at hx;subst hx;exact⟨hc,rfl⟩
theorem pcsT_len(c d:Str)(i:Nat):(pcsT c d i).length<=i:=by
 have:=List.length_filterMap_le (pcT c d) (List.range i)
 simpa[pcsT] using this
theorem splitT_len{c d:Str}(hc:c.length<=256):(splitT c d).length<=256:=by
 unfold splitT
 split
 . exact Nat.le_trans (pcsT_len _ _ _) hc
 . simp
end Go.Proofs.YtcglkonooeddfaaGreatDoor
namespace Go.Proofs.YtcglkonooeddfaaGreatDoor
open Go Go.Vx
@[reducible] def w4(f:Nat->Bool):List D:=[.i .u64 ((wof f 0).toNat:Int),.i .u64 ((wof f 1).toNat:Int),.i .u64 ((wof f 2).toNat:Int),.i .u64 ((wof f 3).toNat:Int)]
set_option maxHeartbeats 4000000 in
theorem at_one(f:Nat->Bool)(i:Nat)(hi:i<256):FSpec Tryz.prog T 167 [.ep (w4 f),.i .i64 (i:Int)] (fun d rows=>d = .b (f i=true)/\rows=[]):=by
 refine FSpec.of_ok tok Tryz.func167 rfl Tryz.call167 (by simp) ?_
 obtain⟨q,r,hqr,hr,hq⟩:=split64 i (by omega)
 have hrem:=rem64 hqr hr
 have hquo:=quo64 hqr hr (by omega)
 have hrr:((r:Nat):Int)=((r:Nat):Int)/\r<64:=⟨rfl,hr⟩
 have hca:=at_word (f:=f) hqr hr
 rcases hq with rfl|rfl|rfl|rfl
 all_goals
  (try (conv=>whnf));repeat' (first|((with_reducible_and_instances (first|refine nShr (by assumption) ?_|refine nAnd1' rfl ?_));conv=>whnf)|refine Ok.seq ?_|((first|refine Ok.region tok ?_|refine⟨_,(hquo.symm).symm,?_⟩|refine⟨_,(hrem.symm).symm,?_⟩|refine Ok.ret ?_|refine aJ ?_|refine⟨_,rfl,?_⟩);conv=>whnf)|fail)
  refine Or.inl ?_;(conv=>whnf)
  exact⟨congrArg D.b (propext hca),rfl⟩
set_option maxHeartbeats 4000000 in
theorem at_two(f g:Nat->Bool)(i:Nat)(hi:i<256):FSpec Tryz.prog T 167 [.ep (w4 f++w4 g),.i .i64 (i:Int)] (fun d rows=>d = .b (f i=true)/\rows=[]):=by
 refine FSpec.of_ok tok Tryz.func167 rfl Tryz.call167 (by simp) ?_
 obtain⟨q,r,hqr,hr,hq⟩:=split64 i (by omega)
 have hrem:=rem64 hqr hr
 have hquo:=quo64 hqr hr (by omega)
 have hrr:((r:Nat):Int)=((r:Nat):Int)/\r<64:=⟨rfl,hr⟩
 have hca:=at_word (f:=f) hqr hr
 rcases hq with rfl|rfl|rfl|rfl
 all_goals
  (try (conv=>whnf));repeat' (first|((with_reducible_and_instances (first|refine nShr (by assumption) ?_|refine nAnd1' rfl ?_));conv=>whnf)|refine Ok.seq ?_|((first|refine Ok.region tok ?_|refine⟨_,(hquo.symm).symm,?_⟩|refine⟨_,(hrem.symm).symm,?_⟩|refine Ok.ret ?_|refine aJ ?_|refine⟨_,rfl,?_⟩);conv=>whnf)|fail)
  refine Or.inl ?_;(conv=>whnf)
  exact⟨congrArg D.b (propext hca),rfl⟩
theorem ints_crow(c:Str):∀ d ∈ crow c,∃ k n,d = .i k n:=by
 intro d hd
 simp only[List.mem_cons,List.not_mem_nil,or_false] at hd
 rcases hd with rfl|rfl|rfl|rfl|rfl|rfl|rfl|rfl|rfl<;>exact⟨_,_,rfl⟩
theorem pk2{box:List (List D)}{a b x y:D}(h1:Pk box a x)(h2:Pk box b y):∀ (j:Nat) d e,[a,b][j]? = some d->[x,y][j]? = some e->Pk box d e:=by
 intro j d e hd he
 match j,hd,he with
 | 0,hd,he=>cases hd;cases he;exact h1
 | 1,hd,he=>cases hd;cases he;exact h2
 | j+2,hd,_=>simp at hd
end Go.Proofs.YtcglkonooeddfaaGreatDoor
namespace Go.Proofs.YtcglkonooeddfaaGreatDoor
open Go Go.Vx
theorem car_set{l:Str}{i:Nat}{b:UInt8}(h:l[i]? = some 120)(hb:dig b=true)(j:Nat):car (l.set i b) j=(car l j || decide (j=i)):=by
 have hi:=(List.getElem?_eq_some_iff.1 h).1
 by_cases hj:j=i
 . subst hj
   have h2:(l.set j b)[j]? = some b:=List.getElem?_set_self hi
   rw[(at_b h2).1,hb]
   simp
 . have:(l.set i b)[j]? = l[j]?:=List.getElem?_set_ne (Ne.symm hj)
   simp only[car,this,hj,decide_false,Bool.or_false]
theorem one_set{l:Str}{i:Nat}(h:l[i]? = some 120)(j:Nat):one (l.set i 49) j=(one l j || decide (j=i)):=by
 have hi:=(List.getElem?_eq_some_iff.1 h).1
 by_cases hj:j=i
 . subst hj
   have h2:(l.set j 49)[j]? = some 49:=List.getElem?_set_self hi
   rw[(at_b h2).2]
   simp
 . have:(l.set i 49)[j]? = l[j]?:=List.getElem?_set_ne (Ne.symm hj)
   simp only[one,this,hj,decide_false,Bool.or_false]
theorem one_set0{l:Str}{i:Nat}(h:l[i]? = some 120)(j:Nat):one (l.set i 48) j=one l j:=by
 have hi:=(List.getElem?_eq_some_iff.1 h).1
 by_cases hj:j=i
 . subst hj
   have h2:(l.set j 48)[j]? = some 48:=List.getElem?_set_self hi
   rw[(at_b h2).2,(at_b h).2]
   rfl
 . have:(l.set i 48)[j]? = l[j]?:=List.getElem?_set_ne (Ne.symm hj)
   simp only[one,this]
set_option maxHeartbeats 8000000 in
theorem split_at(c d:Str)(hc:CN c)(hd:CT d):FSpec Tryz.prog T 284 [.agg (crow c),.agg (crow d)] (fun r rows=>∃ rm,r = .lst 138 ((splitT c d).map crow) rm/\rows=[]):=by
 have hcl:=hc.1.len
 have hm:=meet_at c d hc.1 hd
 refine FSpec.of_ok tok Tryz.func284 rfl Tryz.call284 (by simp) ?_
 by_cases hs:(meetT c d).isSome=true
 . have hl:d.length=c.length:=by
     obtain⟨m,hm⟩:=Option.isSome_iff_exists.1 hs
     rw[meetT_eq hc.2] at hm
     have:=meetL_len hm
     omega
   (try (conv=>whnf));repeat' (first|refine Ok.seq ?_|((first|refine Ok.region tok ?_|refine Ok.cond ?_);conv=>whnf)|refine Ok.block ?_|((first|refine Ok.skip ?_|refine Ok.ret ?_);conv=>whnf)|(refine Or.inr (Or.inl ?_);(conv=>whnf);(repeat (refine aI ?_;conv=>whnf));refine⟨_,hm,?_⟩;rintro _ _ ⟨rfl,rfl⟩<;>(conv=>whnf))|(refine bI ?_ ?_<;>intro<;>(conv=>whnf)<;>(try (exfalso;omega)))|fail)
   . exact absurd hs (by assumption)
   refine Ok.ghost 7 138 rfl ?_
   (conv=>whnf)
   have e0:crow c=crow (curL c d 0):=by rw[curL_zero]
   have hll:((List.length c:Nat):Int)=((List.length (curL c d 0):Nat):Int):=by rw[curL_zero]
   refine Ok.loopU [2,3,21] [7,22] 1 3 (fun (i:Nat)=>[.own 0 (pcsT c d i).length,.i .i64 (i:Nat)]) (fun (i:Nat) (_:List (List D))=>[crow (curL c d i),crow d,crow ((meetT c d).getD [])]) (fun (i:Nat) (_:Vx.Rows)=>[some (138,(pcsT c d i).map crow)]) (fun (i:Nat)=>i<=c.length) (fun (i:Nat)=>c.length - i) (0) (Nat.zero_le _) ?_;(conv=>whnf);refine⟨by ((conv=>whnf);first|rfl|(simp[envCat,List.take_of_length_le,cells9,crow];done)|(simp[envCat,List.take_of_length_le,cells9,crow];rw[IntKind.wrap_i64];omega)),?_⟩
   rintro i hi
   have hcu:=curL_len hl i
   have hct:=curL_ct hc.1 hd hl i
   have hpl:=pcsT_len c d i
   have hpm:((pcsT c d i).map crow).length=(pcsT c d i).length:=by simp
   (conv=>whnf)
   by_cases hil:i<c.length
   . obtain⟨a,ha⟩:∃ a,c[i]? = some a:=⟨_,List.getElem?_eq_getElem hil⟩
     obtain⟨b,hb⟩:∃ b,d[i]? = some b:=⟨_,List.getElem?_eq_getElem (by omega)⟩
     have hz:=curL_at ha (show i<d.length by omega)
     have hac:=hc.1.cub a (List.mem_of_getElem? ha)
     have hbc:=hd.cub b (List.mem_of_getElem? hb)
     have hpc:=pcT_at ha hb
     have hsu:=curL_succ ha hb
     have hsm:=fun h=>curL_same ha hb h
     generalize hL:curL c d i=L at *
     generalize hQ:pcsT c d i=Q at *
     have s1:=at_two (car L) (one L) i (by omega)
     have s2:=at_two (car d) (one d) i (by omega)
     have s3:=at_one (one d) i (by omega)
     rw[(at_b hz).1] at s1
     rw[(at_b hb).1] at s2
     rw[(at_b hb).2] at s3
     obtain⟨q,r,hqr,hr,hq⟩:=split64 i (by omega)
     have hrem:=rem64 hqr hr
     have hquo:=quo64 hqr hr (by omega)
     have hrr:((r:Nat):Int)=((r:Nat):Int)/\r<64:=⟨rfl,hr⟩
     by_cases hab:a=120/\b ≠ 120
     . obtain⟨rfl,hb2⟩:=hab
       rw[if_pos ⟨rfl,hb2⟩] at hpc
       have hsn:=pcsT_some hpc
       rw[hQ] at hsn
       rw[show ov1 120 b=b from rfl] at hsu
       rcases hbc with rfl|rfl|rfl
       . rw[show (97:UInt8) - 48=49 from rfl] at hsn
         have k:=put_word (f:=car L) (g:=car (L.set i 48)) hqr hr (car_set hz rfl)
         have k':=put_word (f:=car L) (g:=car (L.set i 49)) hqr hr (car_set hz rfl)
         have o:=fun k=>wof_ext (f:=one (L.set i 48)) (g:=one L) (k:=k) fun j _=>one_set0 hz _
         have o':=put_word (f:=one L) (g:=one (L.set i 49)) hqr hr (one_set hz)
         rcases hq with rfl|rfl|rfl|rfl
         all_goals
          (try (conv=>whnf));repeat' (first|refine Ok.seq ?_|((first|refine Ok.region tok ?_|refine Ok.cond ?_);conv=>whnf)|refine Ok.block ?_|((first|refine Ok.skip ?_|refine Ok.exit ?_|refine nI ?_);conv=>whnf)|(refine Or.inr (Or.inr (Or.inr (Or.inr ?_)));(conv=>whnf);refine effW.of (effK.peek (by rfl) (pk2 (.bp _ _ ( crow L) rfl (fun d hd=>ints_crow _ d (List.mem_of_mem_drop hd))) (.i _ _)) (s1 ) ?_);rintro _ _ ⟨rfl,rfl⟩;(refine And.intro (by simp[gRowsP,grounds,D.ground]) ?_;conv=>whnf))|(refine Or.inr (Or.inr (Or.inr (Or.inr ?_)));(conv=>whnf);refine effW.of (effK.peek (by rfl) (pk2 (.bp _ _ ( crow d) rfl (fun d hd=>ints_crow _ d (List.mem_of_mem_drop hd))) (.i _ _)) (s2 ) ?_);rintro _ _ ⟨rfl,rfl⟩;(refine And.intro (by simp[gRowsP,grounds,D.ground]) ?_;conv=>whnf))|(refine bI ?_ ?_<;>intro<;>(conv=>whnf)<;>(try (exfalso;omega)))|fail)
          all_goals first
           | contradiction
           | skip
          refine Or.inr (Or.inr (Or.inl ?_));(conv=>whnf);refine⟨_,_,Tryz.func107,rfl,Tryz.call107,?_⟩;(conv=>whnf)
          (try (conv=>whnf));repeat' (first|((with_reducible_and_instances (first|refine nShl1' rfl (by assumption) ?_|refine nOr ?_));conv=>whnf)|refine Ok.seq ?_|((first|refine Ok.region tok ?_|refine Ok.region_plan (id:=0) tok follows [(5,12,[])] [.q 0,.q 1,.q 2,.q 3,.q 4,.q 5,.q 6,.q 7,.q 8,.q 9,.q 10,.q 11,.l 12] (by kernel_rfl) ?_|refine⟨_,(hquo.symm).symm,?_⟩|refine⟨_,(hrem.symm).symm,?_⟩|refine Ok.cond ?_);conv=>whnf)|(refine Or.inr (Or.inr (Or.inr (Or.inr ?_)));(conv=>whnf);refine effW.of (effK.peek (by rfl) (pk2 (.bp _ _ ( crow d) rfl (fun d hd=>ints_crow _ d (List.mem_of_mem_drop hd))) (.i _ _)) (s3 ) ?_);rintro _ _ ⟨rfl,rfl⟩;(refine And.intro (by simp[gRowsP,grounds,D.ground]) ?_;conv=>whnf))|(refine bI ?_ ?_<;>intro<;>(conv=>whnf)<;>(try (exfalso;omega)))|((first|refine aJ ?_|refine⟨_,rfl,?_⟩);conv=>whnf)|fail)
          all_goals first
           | contradiction
           | skip
          refine Or.inr (Or.inr (Or.inl ?_));(conv=>whnf);refine⟨_,_,Tryz.func107,rfl,Tryz.call107,?_⟩;(conv=>whnf)
          (try (conv=>whnf));repeat' (first|((first|(with_reducible_and_instances (first|refine nShl1' rfl (by assumption) ?_|refine nOr ?_))|refine Ok.region tok ?_|refine Ok.region_plan (id:=0) tok follows [(5,12,[])] [.q 0,.q 1,.q 2,.q 3,.q 4,.q 5,.q 6,.q 7,.q 8,.q 9,.q 10,.q 11,.l 12] (by kernel_rfl) ?_|refine⟨_,(hquo.symm).symm,?_⟩|refine⟨_,(hrem.symm).symm,?_⟩|refine nI ?_|refine Alt2.l (aI ?_)|refine⟨_,.inl ⟨rfl,rfl⟩,?_⟩|refine⟨_,_,rfl,rfl,?_⟩|refine aJ ?_|refine⟨_,rfl,?_⟩);conv=>whnf)|fail)
          refine⟨i+1,by omega,by omega,?_⟩
          rw[hsu,hsn]
          have a0:=(k 0).trans (by first|exact if_pos rfl|exact if_neg (by decide))
          have a1:=(k 1).trans (by first|exact if_pos rfl|exact if_neg (by decide))
          have a2:=(k 2).trans (by first|exact if_pos rfl|exact if_neg (by decide))
          have a3:=(k 3).trans (by first|exact if_pos rfl|exact if_neg (by decide))
          have b0:=o 0
          have b1:=o 1
          have b2:=o 2
          have b3:=o 3
          have e0:=(k' 0).trans (by first|exact if_pos rfl|exact if_neg (by decide))
          have e1:=(k' 1).trans (by first|exact if_pos rfl|exact if_neg (by decide))
          have e2:=(k' 2).trans (by first|exact if_pos rfl|exact if_neg (by decide))
          have e3:=(k' 3).trans (by first|exact if_pos rfl|exact if_neg (by decide))
          have f0:=(o' 0).trans (by first|exact if_pos rfl|exact if_neg (by decide))
          have f1:=(o' 1).trans (by first|exact if_pos rfl|exact if_neg (by decide))
          have f2:=(o' 2).trans (by first|exact if_pos rfl|exact if_neg (by decide))
          have f3:=(o' 3).trans (by first|exact if_pos rfl|exact if_neg (by decide))
          (conv=>whnf)
          simp only[envCat,crow,cells9,List.length_set,List.map_append,List.map_cons,List.map_nil,List.length_append,List.length_map,List.length_cons,List.length_nil,a0,a1,a2,a3,b0,b1,b2,b3,e0,e1,e2,e3,f0,f1,f2,f3]
          rfl
       . rw[show (97:UInt8) - 49=48 from rfl] at hsn
         have k:=put_word (f:=car L) (g:=car (L.set i 49)) hqr hr (car_set hz rfl)
         have k':=put_word (f:=car L) (g:=car (L.set i 48)) hqr hr (car_set hz rfl)
         have o:=put_word (f:=one L) (g:=one (L.set i 49)) hqr hr (one_set hz)
         have o':=fun k=>wof_ext (f:=one (L.set i 48)) (g:=one L) (k:=k) fun j _=>one_set0 hz _
         rcases hq with rfl|rfl|rfl|rfl
         all_goals
          (try (conv=>whnf));repeat' (first|refine Ok.seq ?_|((first|refine Ok.region tok ?_|refine Ok.cond ?_);conv=>whnf)|refine Ok.block ?_|((first|refine Ok.skip ?_|refine Ok.exit ?_|refine nI ?_);conv=>whnf)|(refine Or.inr (Or.inr (Or.inr (Or.inr ?_)));(conv=>whnf);refine effW.of (effK.peek (by rfl) (pk2 (.bp _ _ ( crow L) rfl (fun d hd=>ints_crow _ d (List.mem_of_mem_drop hd))) (.i _ _)) (s1 ) ?_);rintro _ _ ⟨rfl,rfl⟩;(refine And.intro (by simp[gRowsP,grounds,D.ground]) ?_;conv=>whnf))|(refine Or.inr (Or.inr (Or.inr (Or.inr ?_)));(conv=>whnf);refine effW.of (effK.peek (by rfl) (pk2 (.bp _ _ ( crow d) rfl (fun d hd=>ints_crow _ d (List.mem_of_mem_drop hd))) (.i _ _)) (s2 ) ?_);rintro _ _ ⟨rfl,rfl⟩;(refine And.intro (by simp[gRowsP,grounds,D.ground]) ?_;conv=>whnf))|(refine bI ?_ ?_<;>intro<;>(conv=>whnf)<;>(try (exfalso;omega)))|fail)
          all_goals first
           | contradiction
           | skip
          refine Or.inr (Or.inr (Or.inl ?_));(conv=>whnf);refine⟨_,_,Tryz.func107,rfl,Tryz.call107,?_⟩;(conv=>whnf)
          (try (conv=>whnf));repeat' (first|((with_reducible_and_instances (first|refine nShl1' rfl (by assumption) ?_|refine nOr ?_));conv=>whnf)|refine Ok.seq ?_|((first|refine Ok.region tok ?_|refine Ok.region_plan (id:=0) tok follows [(5,12,[])] [.q 0,.q 1,.q 2,.q 3,.q 4,.q 5,.q 6,.q 7,.q 8,.q 9,.q 10,.q 11,.l 12] (by kernel_rfl) ?_|refine⟨_,(hquo.symm).symm,?_⟩|refine⟨_,(hrem.symm).symm,?_⟩|refine Ok.cond ?_);conv=>whnf)|(refine Or.inr (Or.inr (Or.inr (Or.inr ?_)));(conv=>whnf);refine effW.of (effK.peek (by rfl) (pk2 (.bp _ _ ( crow d) rfl (fun d hd=>ints_crow _ d (List.mem_of_mem_drop hd))) (.i _ _)) (s3 ) ?_);rintro _ _ ⟨rfl,rfl⟩;(refine And.intro (by simp[gRowsP,grounds,D.ground]) ?_;conv=>whnf))|(refine bI ?_ ?_<;>intro<;>(conv=>whnf)<;>(try (exfalso;omega)))|((first|refine aJ ?_|refine⟨_,rfl,?_⟩);conv=>whnf)|fail)
          all_goals first
           | contradiction
           | skip
          refine Or.inr (Or.inr (Or.inl ?_));(conv=>whnf);refine⟨_,_,Tryz.func107,rfl,Tryz.call107,?_⟩;(conv=>whnf)
          (try (conv=>whnf));repeat' (first|((first|(with_reducible_and_instances (first|refine nShl1' rfl (by assumption) ?_|refine nOr ?_))|refine Ok.region tok ?_|refine Ok.region_plan (id:=0) tok follows [(5,12,[])] [.q 0,.q 1,.q 2,.q 3,.q 4,.q 5,.q 6,.q 7,.q 8,.q 9,.q 10,.q 11,.l 12] (by kernel_rfl) ?_|refine⟨_,(hquo.symm).symm,?_⟩|refine⟨_,(hrem.symm).symm,?_⟩|refine nI ?_|refine Alt2.l (aI ?_)|refine⟨_,.inl ⟨rfl,rfl⟩,?_⟩|refine⟨_,_,rfl,rfl,?_⟩|refine aJ ?_|refine⟨_,rfl,?_⟩);conv=>whnf)|fail)
          refine⟨i+1,by omega,by omega,?_⟩
          rw[hsu,hsn]
          have a0:=(k 0).trans (by first|exact if_pos rfl|exact if_neg (by decide))
          have a1:=(k 1).trans (by first|exact if_pos rfl|exact if_neg (by decide))
          have a2:=(k 2).trans (by first|exact if_pos rfl|exact if_neg (by decide))
          have a3:=(k 3).trans (by first|exact if_pos rfl|exact if_neg (by decide))
          have b0:=(o 0).trans (by first|exact if_pos rfl|exact if_neg (by decide))
          have b1:=(o 1).trans (by first|exact if_pos rfl|exact if_neg (by decide))
          have b2:=(o 2).trans (by first|exact if_pos rfl|exact if_neg (by decide))
          have b3:=(o 3).trans (by first|exact if_pos rfl|exact if_neg (by decide))
          have e0:=(k' 0).trans (by first|exact if_pos rfl|exact if_neg (by decide))
          have e1:=(k' 1).trans (by first|exact if_pos rfl|exact if_neg (by decide))
          have e2:=(k' 2).trans (by first|exact if_pos rfl|exact if_neg (by decide))
          have e3:=(k' 3).trans (by first|exact if_pos rfl|exact if_neg (by decide))
          have f0:=o' 0
          have f1:=o' 1
          have f2:=o' 2
          have f3:=o' 3
          (conv=>whnf)
          simp only[envCat,crow,cells9,List.length_set,List.map_append,List.map_cons,List.map_nil,List.length_append,List.length_map,List.length_cons,List.length_nil,a0,a1,a2,a3,b0,b1,b2,b3,e0,e1,e2,e3,f0,f1,f2,f3]
          rfl
       . exact absurd rfl hb2
     . rw[if_neg hab] at hpc
       have hsn:=pcsT_none hpc
       rw[hQ] at hsn
       have hsm:=hsm hab
       have hcases:(dig a=true)\/(dig a=false/\dig b=false):=by
        rcases hac with rfl|rfl|rfl
        . left;rfl
        . left;rfl
        . right
          rcases hbc with rfl|rfl|rfl
          . exact absurd ⟨rfl,by decide⟩ hab
          . exact absurd ⟨rfl,by decide⟩ hab
          . exact⟨rfl,rfl⟩
       rcases hcases with hda|⟨hda,hdb⟩
       . rw[hda] at s1
         (try (conv=>whnf));repeat' (first|refine Ok.seq ?_|((first|refine Ok.region tok ?_|refine Ok.cond ?_);conv=>whnf)|refine Ok.block ?_|((first|refine Ok.skip ?_|refine Ok.exit ?_|refine nI ?_);conv=>whnf)|(refine Or.inr (Or.inr (Or.inr (Or.inr ?_)));(conv=>whnf);refine effW.of (effK.peek (by rfl) (pk2 (.bp _ _ ( crow L) rfl (fun d hd=>ints_crow _ d (List.mem_of_mem_drop hd))) (.i _ _)) (s1 ) ?_);rintro _ _ ⟨rfl,rfl⟩;(refine And.intro (by simp[gRowsP,grounds,D.ground]) ?_;conv=>whnf))|(refine Or.inr (Or.inr (Or.inr (Or.inr ?_)));(conv=>whnf);refine effW.of (effK.peek (by rfl) (pk2 (.bp _ _ ( crow d) rfl (fun d hd=>ints_crow _ d (List.mem_of_mem_drop hd))) (.i _ _)) (s2 ) ?_);rintro _ _ ⟨rfl,rfl⟩;(refine And.intro (by simp[gRowsP,grounds,D.ground]) ?_;conv=>whnf))|(refine bI ?_ ?_<;>intro<;>(conv=>whnf)<;>(try (exfalso;omega)))|fail)
         all_goals first
          | contradiction
          | (refine⟨i+1,by omega,by omega,?_⟩
             rw[hsm,hsn]
             (conv=>whnf)
             rfl)
          | (rename_i h;exact absurd rfl h)
       . rw[hda] at s1
         rw[hdb] at s2
         (try (conv=>whnf));repeat' (first|refine Ok.seq ?_|((first|refine Ok.region tok ?_|refine Ok.cond ?_);conv=>whnf)|refine Ok.block ?_|((first|refine Ok.skip ?_|refine Ok.exit ?_|refine nI ?_);conv=>whnf)|(refine Or.inr (Or.inr (Or.inr (Or.inr ?_)));(conv=>whnf);refine effW.of (effK.peek (by rfl) (pk2 (.bp _ _ ( crow L) rfl (fun d hd=>ints_crow _ d (List.mem_of_mem_drop hd))) (.i _ _)) (s1 ) ?_);rintro _ _ ⟨rfl,rfl⟩;(refine And.intro (by simp[gRowsP,grounds,D.ground]) ?_;conv=>whnf))|(refine Or.inr (Or.inr (Or.inr (Or.inr ?_)));(conv=>whnf);refine effW.of (effK.peek (by rfl) (pk2 (.bp _ _ ( crow d) rfl (fun d hd=>ints_crow _ d (List.mem_of_mem_drop hd))) (.i _ _)) (s2 ) ?_);rintro _ _ ⟨rfl,rfl⟩;(refine And.intro (by simp[gRowsP,grounds,D.ground]) ?_;conv=>whnf))|(refine bI ?_ ?_<;>intro<;>(conv=>whnf)<;>(try (exfalso;omega)))|fail)
         all_goals first
          | contradiction
          | (refine⟨i+1,by omega,by omega,?_⟩
             rw[hsm,hsn]
             (conv=>whnf)
             rfl)
          | (rename_i h;exact absurd (fun q=>by cases q) h)
   . have hie:i=c.length:=by omega
     subst hie
     have hsp:splitT c d=pcsT c d c.length:=if_pos hs
     rw[hsp]
     (try (conv=>whnf));repeat' (first|refine Ok.seq ?_|((first|refine Ok.region tok ?_|refine Ok.cond ?_|refine Ok.exit ?_|refine Ok.ret ?_);conv=>whnf)|(refine bI ?_ ?_<;>intro<;>(conv=>whnf)<;>(try (exfalso;omega)))|fail)
     refine Or.inl ?_;(conv=>whnf)
     refine⟨[],?_,rfl⟩
     rw[List.take_of_length_le (by simp),List.drop_of_length_le (by simp)]
     rfl
 . have hn:splitT c d=[c]:=by unfold splitT;rw[if_neg hs]
   rw[hn]
   (try (conv=>whnf));repeat' (first|refine Ok.seq ?_|((first|refine Ok.region tok ?_|refine Ok.cond ?_);conv=>whnf)|refine Ok.block ?_|((first|refine Ok.skip ?_|refine Ok.ret ?_);conv=>whnf)|(refine Or.inr (Or.inl ?_);(conv=>whnf);(repeat (refine aI ?_;conv=>whnf));refine⟨_,hm,?_⟩;rintro _ _ ⟨rfl,rfl⟩<;>(conv=>whnf))|(refine bI ?_ ?_<;>intro<;>(conv=>whnf)<;>(try (exfalso;omega)))|fail)
   . refine Or.inl ?_;(conv=>whnf)
     exact⟨_,rfl,rfl⟩
   . rename_i h
     exact absurd (Classical.not_not.1 h) hs
end Go.Proofs.YtcglkonooeddfaaGreatDoor
namespace Go.Proofs.YtcglkonooeddfaaGreatDoor
open Go Go.Vx
structure Tst where
 f:Str
 op:Int
 form:Int
 lo:Int
 hi:Int
 len:Int
 pat:Str
structure Nd where
 kind:Int
 t:Tst
structure Fd where
 name:Str
 bits:Int
@[reducible] def tcells(t:Tst):List D:=[.s t.f,.i .i64 t.op,.i .i64 t.form,.i .i64 t.lo,.i .i64 t.hi,.i .i64 t.len,.s t.pat]
@[reducible] def nrow(x:Nd):List D:=.i .i64 x.kind :: tcells x.t
@[reducible] def frow(x:Fd):List D:=[.s x.name,.i .i64 x.bits]
theorem eqTest:EqT Tryz.prog 217 [.s,.i .i64,.i .i64,.i .i64,.i .i64,.i .i64,.s]:=EqT.of_b tok (ti:=_) rfl rfl (by kernel_rfl)
end Go.Proofs.YtcglkonooeddfaaGreatDoor
namespace Go.Proofs.YtcglkonooeddfaaGreatDoor
open Go Go.Vx
def Ltr(b:UInt8):Prop:=b.toNat=95\/(97<=b.toNat/\b.toNat<=122)\/(65<=b.toNat/\b.toNat<=90)
def Dgt(b:UInt8):Prop:=48<=b.toNat/\b.toNat<=57
def nameAt(i:Nat)(b:UInt8):Prop:=Ltr b\/(i ≠ 0/\Dgt b)
def NameP(s:Str):Prop:=s ≠ []/\s.length<=24/\∀ (i:Nat) b,s[i]? = some b->nameAt i b
theorem b_ff{p:Prop}(h:¬ p):D.b False=D.b p:=by congr 1;exact propext ⟨False.elim,h⟩
theorem b_tt{p:Prop}(h:p):D.b True=D.b p:=by congr 1;exact propext ⟨fun _=>h,fun _=>trivial⟩
theorem name_step{s:Str}{i:Nat}{b:UInt8}(h:∀ (j:Nat) c,j<i->s[j]? = some c->nameAt j c)(hb:s[i]? = some b)(hn:nameAt i b):∀ (j:Nat) c,j<i+1->s[j]? = some c->nameAt j c:=by
 intro j c hj hc
 by_cases hji:j=i
 . subst hji;rw[hb] at hc;cases hc;exact hn
 . exact h j c (by omega) hc
set_option maxHeartbeats 4000000 in
theorem name_at(s:Str):FSpec Tryz.prog T 173 [.s s] (fun d _=>d = .b (NameP s)):=by
 refine FSpec.of_ok tok Tryz.func173 rfl Tryz.call173 (by simp) ?_
 (try (conv=>whnf));repeat' (first|refine Ok.seq ?_|((first|refine Ok.region tok ?_|refine Ok.cond ?_);conv=>whnf)|refine Ok.block ?_|((first|refine Ok.skip ?_|refine Ok.ret ?_);conv=>whnf)|(refine bI ?_ ?_<;>intro<;>(conv=>whnf)<;>(try (exfalso;omega)))|fail)
 all_goals first
  | (rename_i h
     refine Or.inl ?_;(conv=>whnf)
     exact b_ff fun hn=>hn.1 (by simpa using h))
  | (rename_i h
     refine Or.inl ?_;(conv=>whnf)
     exact b_ff fun hn=>absurd hn.2.1 (by omega))
  | skip
 rename_i h0 h1
 have hne:s ≠ []:=fun e=>h0 (by simpa using e)
 have hle:s.length<=24:=by omega
 refine Ok.loopU [0,14] [15] 0 0 (fun (i:Nat)=>[.i .i64 (i:Nat)]) (fun _ b=>b) (fun _ r=>r) (fun (i:Nat)=>i<=s.length/\∀ (j:Nat) c,j<i->s[j]? = some c->nameAt j c) (fun (i:Nat)=>s.length - i) (0) (⟨Nat.zero_le _,fun j c hj=>absurd hj (by omega)⟩) ?_;(conv=>whnf);refine⟨by ((conv=>whnf);first|rfl|(simp[envCat,List.take_of_length_le,nrow,frow];done)|(simp[envCat,List.take_of_length_le,nrow,frow];rw[IntKind.wrap_i64];omega)),?_⟩
 rintro i ⟨hi,hall⟩
 (conv=>whnf)
 by_cases hil:i<s.length
 . obtain⟨b,hb⟩:∃ b,s[i]? = some b:=⟨_,List.getElem?_eq_getElem hil⟩
   have hbI:s[((i:Nat):Int).toNat]? = some b:=hb
   have hb255:=b.toNat_lt
   (try (conv=>whnf));repeat' (first|refine Ok.seq ?_|((first|refine Ok.region tok ?_|refine Ok.cond ?_);conv=>whnf)|refine Ok.block ?_|((first|refine Ok.skip ?_|refine Ok.ret ?_|refine nI ?_|refine⟨_,by assumption,?_⟩);conv=>whnf)|(refine bI ?_ ?_<;>intro<;>(conv=>whnf)<;>(try (exfalso;omega)))|((first|refine aJ ?_|refine num_any ?_);conv=>whnf)|fail)
   all_goals first
    | (exfalso;omega)
    | (refine Or.inl ?_;(conv=>whnf)
       refine b_ff fun hn=>?_
       have:=hn.2.2 i b hb
       unfold nameAt Ltr Dgt at this
       omega)
    | (refine⟨i+1,by omega,⟨by omega,name_step hall hb ?_⟩,?_⟩
       . unfold nameAt Ltr Dgt
         omega
       . (conv=>whnf)
         rfl)
 . have hie:i=s.length:=by omega
   subst hie
   (try (conv=>whnf));repeat' (first|refine Ok.seq ?_|((first|refine Ok.region tok ?_|refine Ok.cond ?_|refine Ok.exit ?_|refine Ok.ret ?_);conv=>whnf)|(refine bI ?_ ?_<;>intro<;>(conv=>whnf)<;>(try (exfalso;omega)))|fail)
   all_goals first
    | (exfalso;omega)
    | (refine Or.inl ?_;(conv=>whnf)
       exact b_tt ⟨hne,hle,fun j c hc=>hall j c (List.getElem?_eq_some_iff.1 hc).1 hc⟩)
end Go.Proofs.YtcglkonooeddfaaGreatDoor
namespace Go.Proofs.YtcglkonooeddfaaGreatDoor
open Go Go.Vx
theorem fdrop_at{α:Type}{l:List α}{i:Nat}{x:α}(h:l[i]? = some x):l.drop i=x :: l.drop (i+1):=by
 obtain⟨h1,rfl⟩:=List.getElem?_eq_some_iff.1 h
 exact List.drop_eq_getElem_cons h1
def findI(nm:Str):List Fd->Nat->Int
 | [],_=>-1
 | f :: l,k=>if f.name=nm then (k:Int) else findI nm l (k+1)
theorem findI_ge(nm:Str):∀ (l:List Fd) (k:Nat),(0<=findI nm l k ↔ ∃ f ∈ l,f.name=nm)/\-1<=findI nm l k/\findI nm l k<(k+l.length:Nat)
 | [],k=>by simp[findI];omega
 | f :: l,k=>by
  unfold findI
  split
  . rename_i h
    refine⟨⟨fun _=>⟨f,by simp,h⟩,fun _=>by omega⟩,by omega,by simp;omega⟩
  . rename_i h
    obtain⟨h1,h2,h3⟩:=findI_ge nm l (k+1)
    refine⟨h1.trans ⟨fun⟨g,hg,e⟩=>⟨g,by simp[hg],e⟩,fun⟨g,hg,e⟩=>?_⟩,h2,by simp at h3 ⊢;omega⟩
    rcases List.mem_cons.1 hg with rfl|hg
    . exact absurd e h
    . exact⟨g,hg,e⟩
set_option maxHeartbeats 4000000 in
theorem find_at(l:List Fd)(r:List (List D))(nm:Str)(hl:l.length<=2000000):FSpec Tryz.prog T 174 [.lst 127 (l.map frow) r,.s nm] (fun d _=>d = .i .i64 (findI nm l 0)):=by
 have h1:(l.map frow).length=l.length:=by simp
 refine FSpec.of_ok tok Tryz.func174 rfl Tryz.call174 (by simp) ?_
 (try (conv=>whnf));repeat' (first|refine Ok.seq ?_|(refine Ok.region tok ?_;conv=>whnf)|refine Ok.block ?_|fail)
 refine Ok.loopU [1,7,8] [9] 0 0 (fun (i:Nat)=>[.i .i64 (i:Nat)]) (fun _ b=>b) (fun _ r=>r) (fun (i:Nat)=>i<=l.length/\findI nm l 0=findI nm (l.drop i) i) (fun (i:Nat)=>l.length - i) (0) (⟨Nat.zero_le _,rfl⟩) ?_;(conv=>whnf);refine⟨by ((conv=>whnf);first|rfl|(simp[envCat,List.take_of_length_le,nrow,frow];done)|(simp[envCat,List.take_of_length_le,nrow,frow];rw[IntKind.wrap_i64];omega)),?_⟩
 rintro i ⟨hi,hf⟩
 (conv=>whnf)
 by_cases hil:i<l.length
 . obtain⟨c,hc⟩:∃ c,l[i]? = some c:=⟨_,List.getElem?_eq_getElem hil⟩
   have hcI:l[((i:Nat):Int).toNat]? = some c:=hc
   rw[fdrop_at hc] at hf
   (try (conv=>whnf));repeat' (first|refine Ok.seq ?_|((first|refine Ok.region tok ?_|refine Ok.cond ?_);conv=>whnf)|refine Ok.block ?_|((first|refine Ok.skip ?_|refine Ok.ret ?_|refine nI ?_|refine ix _ (by assumption) ?_);conv=>whnf)|(refine bI ?_ ?_<;>intro<;>(conv=>whnf)<;>(try (exfalso;omega)))|fail)
   all_goals first
    | (exfalso;omega)
    | (rename_i h
       refine Or.inl ?_;(conv=>whnf)
       rw[hf]
       unfold findI
       rw[if_pos h]
       rfl)
    | (rename_i h
       refine⟨i+1,by omega,⟨by omega,?_⟩,?_⟩
       . rw[hf]
         conv=>lhs;unfold findI
         rw[if_neg h]
       . (conv=>whnf)
         rfl)
 . have hie:i=l.length:=by omega
   subst hie
   rw[List.drop_length] at hf
   (try (conv=>whnf));repeat' (first|refine Ok.seq ?_|((first|refine Ok.region tok ?_|refine Ok.cond ?_|refine Ok.exit ?_|refine Ok.ret ?_);conv=>whnf)|(refine bI ?_ ?_<;>intro<;>(conv=>whnf)<;>(try (exfalso;omega)))|fail)
   all_goals first
    | (exfalso;omega)
    | (refine Or.inl ?_;(conv=>whnf)
       rw[hf]
       rfl)
def badF(pre:List Fd)(f:Fd)(sum:Int):Prop:=
 ¬ NameP f.name\/f.name=[97,110,121]\/f.name=[110,111,110,101]\/(∃ g ∈ pre,g.name=f.name)\/f.bits<1\/32<f.bits\/256<sum+f.bits
open Classical in
noncomputable def chkFrom(all:List Fd):List Fd->Nat->Int->Int × Int
 | [],_,_=>(0,0)
 | f :: r,i,sum=>if badF (all.take i) f sum then (40,(i:Int)) else chkFrom all r (i+1) (sum+f.bits)
noncomputable def chkO(l:List Fd):Int × Int:=if 12<l.length then (2,0) else if l=[] then (40,0) else chkFrom l l 0 0
theorem chkFrom_bad{all:List Fd}{f:Fd}{r:List Fd}{i:Nat}{sum:Int}(h:badF (all.take i) f sum):chkFrom all (f :: r) i sum=(40,(i:Int)):=by unfold chkFrom;rw[if_pos h]
theorem chkFrom_ok{all:List Fd}{f:Fd}{r:List Fd}{i:Nat}{sum:Int}(h:¬ badF (all.take i) f sum):chkFrom all (f :: r) i sum=chkFrom all r (i+1) (sum+f.bits):=by conv=>lhs;unfold chkFrom;rw[if_neg h]
theorem chkO_long{l:List Fd}(h:12<l.length):chkO l=(2,0):=by unfold chkO;rw[if_pos h]
theorem chkO_nil{l:List Fd}(h:l.length=0):chkO l=(40,0):=by unfold chkO;rw[if_neg (by omega),if_pos (List.eq_nil_of_length_eq_zero h)]
theorem chkO_of{l:List Fd}(h:¬ 12<l.length)(h2:l.length ≠ 0):chkO l=chkFrom l l 0 0:=by unfold chkO;rw[if_neg h,if_neg (fun e=>h2 (by rw[e];rfl))]
set_option maxHeartbeats 8000000 in
theorem check_at(l:List Fd)(r:List (List D))(hl:l.length<=2000000):FSpec Tryz.prog T 118 [.lst 127 (l.map frow) r] (fun d _=>d = .tup [.i .i64 (chkO l).1,.i .i64 (chkO l).2]):=by
 have h1:(l.map frow).length=l.length:=by simp
 refine FSpec.of_ok tok Tryz.func118 rfl Tryz.call118 (by simp) ?_
 (try (conv=>whnf));repeat' (first|refine Ok.seq ?_|((first|refine Ok.region tok ?_|refine Ok.cond ?_);conv=>whnf)|refine Ok.block ?_|((first|refine Ok.skip ?_|refine Ok.ret ?_);conv=>whnf)|(refine bI ?_ ?_<;>intro<;>(conv=>whnf)<;>(try (exfalso;omega)))|fail)
 all_goals first
  | (rename_i h
     refine Or.inl ?_;(conv=>whnf)
     rw[chkO_long (by omega)]
     rfl)
  | (rename_i h
     refine Or.inl ?_;(conv=>whnf)
     rw[chkO_nil (by omega)]
     rfl)
  | skip
 rename_i h2 h3
 rw[chkO_of (by omega) (by omega)]
 refine Ok.loopU [0,13,14] [4,15] 0 0 (fun (x:Nat × Int)=>[.i .i64 x.2,.i .i64 (x.1:Nat)]) (fun _ b=>b) (fun _ r=>r) (fun (x:Nat × Int)=>x.1<=l.length/\0<=x.2/\x.2<=256/\chkFrom l l 0 0=chkFrom l (l.drop x.1) x.1 x.2) (fun (x:Nat × Int)=>l.length - x.1) ((0,0)) (⟨Nat.zero_le _,by omega,by omega,rfl⟩) ?_;(conv=>whnf);refine⟨by ((conv=>whnf);first|rfl|(simp[envCat,List.take_of_length_le,nrow,frow];done)|(simp[envCat,List.take_of_length_le,nrow,frow];rw[IntKind.wrap_i64];omega)),?_⟩
 rintro⟨i,sum⟩ ⟨hi,hs0,hs1,hf⟩
 dsimp only at hi hs0 hs1 hf ⊢
 (conv=>whnf)
 by_cases hil:i<l.length
 . obtain⟨c,hc⟩:∃ c,l[i]? = some c:=⟨_,List.getElem?_eq_getElem hil⟩
   have hcI:l[((i:Nat):Int).toNat]? = some c:=hc
   rw[fdrop_at hc] at hf
   have hfg:=findI_ge c.name (l.take i) 0
   have hfa:=fun r=>find_at (l.take i) r c.name (by simp;omega)
   have hmt:(l.take i).map frow=((l.map frow++r).take i).drop 0:=by rw[List.drop_zero,List.take_append_of_le_length (by omega),List.map_take]
   (try (conv=>whnf));repeat' (first|(refine⟨(l.take i).map frow,_,hmt,rfl,?_⟩;conv=>whnf)|refine Ok.seq ?_|((first|refine Ok.region tok ?_|refine Ok.region_draw tok follows (by kernel_rfl) ?_|refine Ok.cond ?_);conv=>whnf)|refine Ok.block ?_|((first|refine Ok.skip ?_|refine Ok.ret ?_|refine nI ?_|refine ix _ (by assumption) ?_|refine⟨_,name_at c.name,rfl,?_⟩|refine⟨_,hfa _,rfl,?_⟩|refine⟨_,_,rfl,rfl,?_⟩);conv=>whnf)|(refine bI ?_ ?_<;>intro<;>(conv=>whnf)<;>(try (exfalso;omega)))|(refine aJ ?_;conv=>whnf)|fail)
   all_goals first
    | (exfalso;omega)
    | (refine Or.inl ?_;(conv=>whnf)
       rw[hf,chkFrom_bad (show badF (l.take i) c sum from by
        unfold badF
        first
         | exact .inl (by assumption)
         | exact .inr (.inl (by assumption))
         | exact .inr (.inr (.inl (by assumption)))
         | exact .inr (.inr (.inr (.inl (hfg.1.1 (by assumption)))))
         | exact .inr (.inr (.inr (.inr (by omega)))))]
       rfl)
    | skip
   all_goals
    refine⟨(i+1,sum+c.bits),by dsimp only;omega,⟨by dsimp only;omega,by dsimp only;omega,by dsimp only;omega,?_⟩,?_⟩
   . rw[hf]
     refine chkFrom_ok fun hb=>?_
     rcases hb with h|h|h|h|h
     . exact absurd h (by assumption)
     . exact absurd h (by assumption)
     . exact absurd h (by assumption)
     . exact absurd (hfg.1.2 h) (by assumption)
     . omega
   . (conv=>whnf)
     rfl
 . have hie:i=l.length:=by omega
   subst hie
   rw[List.drop_length] at hf
   (try (conv=>whnf));repeat' (first|refine Ok.seq ?_|((first|refine Ok.region tok ?_|refine Ok.cond ?_|refine Ok.exit ?_|refine Ok.ret ?_);conv=>whnf)|(refine bI ?_ ?_<;>intro<;>(conv=>whnf)<;>(try (exfalso;omega)))|fail)
   all_goals first
    | (exfalso;omega)
    | (refine Or.inl ?_;(conv=>whnf)
       rw[hf]
       rfl)
end Go.Proofs.YtcglkonooeddfaaGreatDoor
namespace Go.Proofs.YtcglkonooeddfaaGreatDoor
open Go Go.Vx
def bitC(v k:Nat):UInt8:=if v / 2 ^ k % 2=1 then 49 else 48
def binT(v bits n:Nat):Str:=(List.range n).map fun i=>bitC v (bits - 1 - i)
def xsT(n:Nat):Str:=List.replicate n 120
def pfxT(v bits n:Nat):Str:=binT v bits n++xsT (bits - n)
theorem binT_len(v bits n:Nat):(binT v bits n).length=n:=by simp[binT]
theorem xsT_len(n:Nat):(xsT n).length=n:=by simp[xsT]
theorem pfxT_len{v bits n:Nat}(h:n<=bits):(pfxT v bits n).length=bits:=by rw[pfxT,List.length_append,binT_len,xsT_len];omega
def freeF(bits lo H:Nat):Nat->Nat->Nat
 | 0,f=>f
 | k+1,f=>if f<bits/\lo % 2 ^ (f+1)=0/\lo+2 ^ (f+1)<=H then freeF bits lo H k (f+1) else f
def coverF(bits H:Nat):Nat->Nat->List Str
 | 0,_=>[]
 | k+1,lo=>if lo<H then pfxT lo bits (bits - freeF bits lo H bits 0) :: coverF bits H k (lo+2 ^ freeF bits lo H bits 0) else []
def halvesF(bits lo H:Nat):Nat->Nat->List Str
 | 0,base=>if lo<=base/\base+1<=H then [pfxT base bits bits] else []
 | d+1,base=>if lo<=base/\base+2 ^ (d+1)<=H then [pfxT base bits (bits - (d+1))] else if H<=base\/base+2 ^ (d+1)<=lo then [] else halvesF bits lo H d base++halvesF bits lo H d (base+2 ^ d)
theorem freeF_eq{bits lo H d:Nat}(hd:d<=bits)(h1:∀ g,g<d->lo % 2 ^ (g+1)=0/\lo+2 ^ (g+1)<=H)(h2:¬ (d<bits/\lo % 2 ^ (d+1)=0/\lo+2 ^ (d+1)<=H)) :
    ∀ (k f:Nat),f<=d->d - f<=k->freeF bits lo H k f=d
 | 0,f,hf,hk=>by unfold freeF;omega
 | k+1,f,hf,hk=>by
  unfold freeF
  by_cases hfd:f=d
  . subst hfd;rw[if_neg h2]
  . rw[if_pos ⟨by omega,h1 f (by omega)⟩]
    exact freeF_eq hd h1 h2 k (f+1) (by omega) (by omega)
theorem coverF_fuel(bits H:Nat):∀ (k lo:Nat),H - lo<=k->coverF bits H k lo=coverF bits H (H - lo) lo
 | 0,lo,h=>by rw[show H - lo=0 by omega]
 | k+1,lo,h=>by
  by_cases hlt:lo<H
  . obtain⟨m,hm⟩:∃ m,H - lo=m+1:=⟨H - lo - 1,by omega⟩
    rw[hm]
    unfold coverF
    rw[if_pos hlt,if_pos hlt]
    have hp:0<2 ^ freeF bits lo H bits 0:=Nat.two_pow_pos _
    rw[coverF_fuel bits H k _ (by omega),<- coverF_fuel bits H m _ (by omega)]
  . rw[show H - lo=0 by omega]
    unfold coverF
    rw[if_neg hlt]
def coverC(bits H lo:Nat):List Str:=coverF bits H (H - lo) lo
theorem coverC_step{bits H lo:Nat}(h:lo<H):coverC bits H lo=pfxT lo bits (bits - freeF bits lo H bits 0) :: coverC bits H (lo+2 ^ freeF bits lo H bits 0):=by
 unfold coverC
 obtain⟨m,hm⟩:∃ m,H - lo=m+1:=⟨H - lo - 1,by omega⟩
 rw[hm]
 conv=>lhs;unfold coverF
 rw[if_pos h]
 have hp:0<2 ^ freeF bits lo H bits 0:=Nat.two_pow_pos _
 rw[coverF_fuel bits H m _ (by omega)]
theorem coverC_end{bits H lo:Nat}(h:H<=lo):coverC bits H lo=[]:=by
 unfold coverC
 rw[show H - lo=0 by omega]
 rfl
theorem mod_pow_le{x g d:Nat}(h:x % 2 ^ d=0)(hg:g<=d):x % 2 ^ g=0:=
 Nat.mod_eq_zero_of_dvd (Nat.dvd_trans (Nat.pow_dvd_pow 2 hg) (Nat.dvd_of_mod_eq_zero h))
theorem cover_halves{bits lo H:Nat}(hH:H<=2 ^ bits):∀ (d base:Nat),d<=bits->base % 2 ^ d=0 ->
    (d=bits\/∃ par,(par=base\/par+2 ^ d=base)/\par % 2 ^ (d+1)=0/\¬ (lo<=par/\par+2 ^ (d+1)<=H)) ->
    coverC bits H (max lo base)=halvesF bits lo H d base++coverC bits H (max lo (base+2 ^ d)):=by
 have cov:∀ (d base:Nat),d<=bits->base % 2 ^ d=0->(d=bits\/∃ par,(par=base\/par+2 ^ d=base)/\par % 2 ^ (d+1)=0/\¬ (lo<=par/\par+2 ^ (d+1)<=H)) ->
     lo<=base->base+2 ^ d<=H->coverC bits H (max lo base)=pfxT base bits (bits - d) :: coverC bits H (max lo (base+2 ^ d)):=by
  intro d base hd hb hp h1 h2
  have hpos:0<2 ^ d:=Nat.two_pow_pos _
  have hfree:freeF bits base H bits 0=d:=by
   refine freeF_eq hd (fun g hg=>⟨mod_pow_le hb (by omega),?_⟩) ?_ bits 0 (by omega) (by omega)
   . have:=Nat.pow_le_pow_right (show 0<2 by decide) (show g+1<=d by omega)
     omega
   . rintro⟨k1,k2,k3⟩
     rcases hp with rfl|⟨par,rfl|hpar,hm,hn⟩
     . omega
     . exact hn ⟨h1,k3⟩
     . have e1:2 ^ (d+1)=2 ^ d+2 ^ d:=by rw[Nat.pow_succ];omega
       obtain⟨q,hq⟩:=Nat.dvd_of_mod_eq_zero hm
       rw[<- hpar,hq,Nat.mul_add_mod,Nat.mod_eq_of_lt (by omega)] at k2
       omega
  rw[Nat.max_eq_right h1,Nat.max_eq_right (by omega),coverC_step (by omega),hfree]
 intro d
 induction d with
 | zero=>
  intro base hd hb hp
  unfold halvesF
  split
  . rename_i h
    rw[cov 0 base hd hb hp h.1 (by simpa using h.2)]
    simp
  . rename_i h
    by_cases h1:H<=base
    . rw[coverC_end (show H<=max lo base by omega),coverC_end (show H<=max lo (base+2 ^ 0) by omega)]
      rfl
    . have:max lo base=max lo (base+2 ^ 0):=by simp;omega
      rw[this]
      rfl
 | succ d ih=>
  intro base hd hb hp
  have e1:2 ^ (d+1)=2 ^ d+2 ^ d:=by rw[Nat.pow_succ];omega
  unfold halvesF
  split
  . rename_i h
    rw[cov (d+1) base hd hb hp h.1 h.2]
    rfl
  . rename_i h
    split
    . rename_i h1
      rcases h1 with h1|h1
      . rw[coverC_end (show H<=max lo base by omega),coverC_end (show H<=max lo (base+2 ^ (d+1)) by omega)]
        rfl
      . rw[show max lo base=max lo (base+2 ^ (d+1)) by omega]
        rfl
    . rename_i h1
      rw[ih base (by omega) (mod_pow_le hb (by omega)) (.inr ⟨base,.inl rfl,hb,h⟩)]
      have hb2:(base+2 ^ d) % 2 ^ d=0:=by rw[Nat.add_mod_right];exact mod_pow_le hb (by omega)
      rw[ih (base+2 ^ d) (by omega) hb2 (.inr ⟨base,.inr rfl,hb,h⟩),<- List.append_assoc]
      rw[show base+2 ^ d+2 ^ d=base+2 ^ (d+1) by omega]
theorem cover_is_halves{bits lo H:Nat}(hH:H<=2 ^ bits):coverC bits H lo=halvesF bits lo H bits 0:=by
 have:=cover_halves (lo:=lo) hH bits 0 (Nat.le_refl _) (by simp) (.inl rfl)
 rw[coverC_end (show H<=max lo (0+2 ^ bits) by omega),List.append_nil,Nat.max_eq_left (Nat.zero_le _)] at this
 exact this
theorem halves_none{bits lo H:Nat}:∀ (d base:Nat),H<=base\/base+2 ^ d<=lo->halvesF bits lo H d base=[]
 | 0,base,h=>by unfold halvesF;rw[if_neg (by simp at h;omega)]
 | d+1,base,h=>by
  unfold halvesF
  have hp:0<2 ^ (d+1):=Nat.two_pow_pos _
  rw[if_neg (by omega),if_pos h]
theorem halves_full{bits lo H:Nat}:∀ (d base:Nat),lo<=base->base+2 ^ d<=H->(halvesF bits lo H d base).length=1
 | 0,base,h1,h2=>by unfold halvesF;rw[if_pos ⟨h1,by simpa using h2⟩];rfl
 | d+1,base,h1,h2=>by unfold halvesF;rw[if_pos ⟨h1,h2⟩];rfl
theorem halves_side{bits lo H:Nat}:∀ (d base:Nat),lo<=base\/base+2 ^ d<=H->(halvesF bits lo H d base).length<=d+1
 | 0,base,h=>by unfold halvesF;split<;>simp
 | d+1,base,h=>by
  have e1:2 ^ (d+1)=2 ^ d+2 ^ d:=by rw[Nat.pow_succ];omega
  unfold halvesF
  split
  . simp
  . rename_i hc
    split
    . simp
    . rename_i hn
      rw[List.length_append]
      rcases h with h|h
      . by_cases hb:base+2 ^ d<=H
        . have:=halves_full (bits:=bits) d base h hb
          have:=halves_side (bits:=bits) (lo:=lo) (H:=H) d (base+2 ^ d) (.inl (by omega))
          omega
        . rw[halves_none d (base+2 ^ d) (.inl (by omega))]
          have:=halves_side (bits:=bits) (lo:=lo) (H:=H) d base (.inl h)
          simp;omega
      . by_cases hb:lo<=base+2 ^ d
        . have:=halves_full (bits:=bits) (H:=H) d (base+2 ^ d) hb (by omega)
          have:=halves_side (bits:=bits) (lo:=lo) (H:=H) d base (.inr (by omega))
          omega
        . rw[halves_none d base (.inr (by omega))]
          have:=halves_side (bits:=bits) (lo:=lo) (H:=H) d (base+2 ^ d) (.inr (by omega))
          simp;omega
theorem halves_len{bits lo H:Nat}:∀ (d base:Nat),(halvesF bits lo H d base).length<=2*d+2
 | 0,base=>by unfold halvesF;split<;>simp
 | d+1,base=>by
  have e1:2 ^ (d+1)=2 ^ d+2 ^ d:=by rw[Nat.pow_succ];omega
  unfold halvesF
  split
  . simp
  . rename_i hc
    split
    . simp
    . rename_i hn
      rw[List.length_append]
      by_cases h1:base+2 ^ d<=H
      . by_cases h2:lo<=base+2 ^ d
        . have:=halves_side (bits:=bits) (lo:=lo) (H:=H) d base (.inr h1)
          have:=halves_side (bits:=bits) (lo:=lo) (H:=H) d (base+2 ^ d) (.inl h2)
          omega
        . rw[halves_none d base (.inr (by omega))]
          have:=halves_len (bits:=bits) (lo:=lo) (H:=H) d (base+2 ^ d)
          simp;omega
      . rw[halves_none d (base+2 ^ d) (.inl (by omega))]
        have:=halves_len (bits:=bits) (lo:=lo) (H:=H) d base
        simp;omega
theorem coverC_len{bits lo H:Nat}(hH:H<=2 ^ bits):(coverC bits H lo).length<=2*bits+2:=by
 rw[cover_is_halves hH];exact halves_len _ _
end Go.Proofs.YtcglkonooeddfaaGreatDoor
namespace Go.Proofs.YtcglkonooeddfaaGreatDoor
open Go Go.Vx
def tw(b:Nat):Nat:=2 ^ b
theorem tw_pos(b:Nat):0<tw b:=Nat.two_pow_pos b
theorem tw62{k:Nat}(h:k<=62):tw k<=4611686018427387904:=Nat.pow_le_pow_right (show 0<2 by decide) h
theorem tw_mono{j k:Nat}(h:j<=k):tw j<=tw k:=Nat.pow_le_pow_right (show 0<2 by decide) h
theorem wrap_nat{x:Nat}(h:x<9223372036854775808):IntKind.i64.wrap (x:Int)=(x:Int):=by rw[IntKind.wrap_i64];omega
theorem shl_i{p:Int->Prop}{b:Int}{k:Nat}(hb:b=(k:Int)/\k<=62)(h:p (tw k:Int)):∃ n,n=IntKind.i64.wrap (1*2 ^ (min b.toNat IntKind.i64.bits))/\p n:=by
 obtain⟨rfl,hk⟩:=hb
 refine⟨_,?_,h⟩
 have e1:min ((k:Int).toNat) IntKind.i64.bits=k:=by show min k 64=k;omega
 have e2:(1*2 ^ k:Int)=(tw k:Int):=by unfold tw;simp
 rw[e1,e2,wrap_nat (by have:=tw62 hk;omega)]
theorem shr_i{p:Int->Prop}{a b:Int}{v k:Nat}(ha:a=(v:Int))(hb:b=(k:Int)/\k<=62)(h:p ((v / tw k:Nat):Int)):∃ n,n=a.fdiv (2 ^ (min b.toNat IntKind.i64.bits))/\p n:=by
 obtain⟨rfl,hk⟩:=hb
 subst ha
 refine⟨_,?_,h⟩
 have e1:min ((k:Int).toNat) IntKind.i64.bits=k:=by show min k 64=k;omega
 rw[e1,Int.fdiv_eq_ediv_of_nonneg _ (by exact Int.pow_nonneg (by decide))]
 unfold tw
 simp
theorem and_i{p:Int->Prop}{a c:Int}{v k:Nat}(ha:a=(v:Int)/\v<9223372036854775808)(hc:c=(tw k:Int) - 1/\k<=62)(h:p ((v % tw k:Nat):Int)):∃ n,n=IntKind.i64.wrap ((BitVec.ofInt IntKind.i64.bits a &&& BitVec.ofInt IntKind.i64.bits c).toNat:Int)/\p n:=by
 obtain⟨rfl,hv⟩:=ha
 obtain⟨rfl,hk⟩:=hc
 refine⟨_,?_,h⟩
 have h2:=tw62 hk
 have hp:=tw_pos k
 have e1:BitVec.ofInt IntKind.i64.bits (v:Int)=BitVec.ofNat 64 v:=BitVec.ofInt_natCast ..
 have e2:BitVec.ofInt IntKind.i64.bits ((tw k:Int) - 1)=BitVec.ofNat 64 (tw k - 1):=by
  rw[show (tw k:Int) - 1=((tw k - 1:Nat):Int) by omega]
  exact BitVec.ofInt_natCast ..
 have e3:(BitVec.ofNat 64 v &&& BitVec.ofNat 64 (tw k - 1)).toNat=v % tw k:=by
  rw[BitVec.toNat_and,BitVec.toNat_ofNat,BitVec.toNat_ofNat,Nat.mod_eq_of_lt (show v<2 ^ 64 by omega),Nat.mod_eq_of_lt (show tw k - 1<2 ^ 64 by omega)]
  exact Nat.and_two_pow_sub_one_eq_mod v k
 rw[e1,e2]
 have key:∀ x:Nat,x=v % tw k->((v % tw k:Nat):Int)=IntKind.i64.wrap (x:Int):=by
  rintro x rfl
  rw[wrap_nat (by have:=Nat.mod_lt v hp;omega)]
 exact key _ e3
theorem and_1{p:Int->Prop}{a:Int}{v:Nat}(ha:a=(v:Int)/\v<9223372036854775808)(h:p ((v % 2:Nat):Int)):∃ n,n=IntKind.i64.wrap ((BitVec.ofInt IntKind.i64.bits a &&& BitVec.ofInt IntKind.i64.bits 1).toNat:Int)/\p n:=
 and_i (k:=1) ha ⟨rfl,by decide⟩ h
theorem and_1'{p:Int->Prop}{a c:Int}{v:Nat}(ha:a=(v:Int)/\v<9223372036854775808)(hc:c=1)(h:p ((v % 2:Nat):Int)):∃ n,n=IntKind.i64.wrap ((BitVec.ofInt IntKind.i64.bits a &&& BitVec.ofInt IntKind.i64.bits c).toNat:Int)/\p n:=by
 subst hc;exact and_1 ha h
theorem num_u8{x:Int}{p:Int->Prop}(h1:0<=x)(h2:x<=255)(h:p x):∃ n,n=IntKind.u8.wrap x/\p n:=⟨x,by rw[IntKind.wrap_u8];omega,h⟩
theorem bitC_nat(v k:Nat):((bitC v k).toNat:Int)=48+((v / 2 ^ k % 2:Nat):Int):=by
 unfold bitC
 split
 . rename_i h;rw[h];rfl
 . rename_i h
   have:v / 2 ^ k % 2=0:=by omega
   rw[this];rfl
set_option maxHeartbeats 4000000 in
theorem top_at(b:Nat)(hb:b<=62):FSpec Tryz.prog T 236 [.i .i64 (b:Nat)] (fun d _=>d = .i .i64 ((tw b:Int) - 1)):=by
 have h2:=tw62 hb
 have hk:((b:Nat):Int)=(b:Int)/\b<=62:=⟨rfl,hb⟩
 refine FSpec.of_ok tok Tryz.func236 rfl Tryz.call236 (by simp) ?_
 (try (conv=>whnf));repeat' (first|((with_reducible_and_instances refine shl_i (by assumption) ?_);conv=>whnf)|refine Ok.seq ?_|((first|refine Ok.region tok ?_|refine Ok.ret ?_|refine nI ?_|refine aJ ?_);conv=>whnf)|fail)
 refine Or.inl ?_;(conv=>whnf)
 rfl
end Go.Proofs.YtcglkonooeddfaaGreatDoor
namespace Go.Proofs.YtcglkonooeddfaaGreatDoor
open Go Go.Vx
def LayF(l:List Fd):Prop:=∀ f ∈ l,1<=f.bits/\f.bits<=32
def wid(l:List Fd):Nat:=(l.map fun f=>f.bits.toNat).sum
theorem wid_snoc{l:List Fd}{i:Nat}{c:Fd}(h:l[i]? = some c):wid (l.take (i+1))=wid (l.take i)+c.bits.toNat:=by
 unfold wid;rw[take_snoc h,List.map_append,List.sum_append];simp
theorem wid_le{l:List Fd}(h:LayF l):wid l<=32*l.length:=by
 induction l with
 | nil=>simp[wid]
 | cons f l ih=>
  have h1:=ih fun x hx=>h x (by simp[hx])
  have h2:=h f (by simp)
  simp only[wid,List.map_cons,List.sum_cons,List.length_cons] at h1 ⊢
  omega
set_option maxHeartbeats 4000000 in
theorem width_at(l:List Fd)(r:List (List D))(hl:l.length<=1000)(hf:LayF l):FSpec Tryz.prog T 121 [.lst 127 (l.map frow) r] (fun d _=>d = .i .i64 (wid l:Nat)):=by
 have h1:(l.map frow).length=l.length:=by simp
 have hw:=wid_le hf
 refine FSpec.of_ok tok Tryz.func121 rfl Tryz.call121 (by simp) ?_
 (try (conv=>whnf));repeat' (first|refine Ok.seq ?_|(refine Ok.region tok ?_;conv=>whnf)|refine Ok.block ?_|fail)
 refine Ok.loopU [6,7] [3,8] 0 0 (fun (i:Nat)=>[.i .i64 (wid (l.take i):Nat),.i .i64 (i:Nat)]) (fun _ b=>b) (fun _ r=>r) (fun (i:Nat)=>i<=l.length) (fun (i:Nat)=>l.length - i) (0) (Nat.zero_le _) ?_;(conv=>whnf);refine⟨by ((conv=>whnf);first|rfl|(simp[envCat,List.take_of_length_le,nrow,frow,bcell];done)|(simp[envCat,List.take_of_length_le,nrow,frow,bcell];rw[IntKind.wrap_i64];omega)),?_⟩
 intro i hi
 (conv=>whnf)
 by_cases hil:i<l.length
 . obtain⟨c,hc⟩:∃ c,l[i]? = some c:=⟨_,List.getElem?_eq_getElem hil⟩
   have hcI:l[((i:Nat):Int).toNat]? = some c:=hc
   have hcb:=hf c (List.mem_of_getElem? hc)
   have hsn:=wid_snoc hc
   have hwt:=wid_le (l:=l.take i) fun x hx=>hf x (List.mem_of_mem_take hx)
   have hti:(l.take i).length=i:=by simp;omega
   (try (conv=>whnf));repeat' (first|refine Ok.seq ?_|((first|refine Ok.region tok ?_|refine Ok.cond ?_);conv=>whnf)|refine Ok.block ?_|((first|refine Ok.skip ?_|refine nI ?_|refine ix _ (by assumption) ?_);conv=>whnf)|(refine bI ?_ ?_<;>intro<;>(conv=>whnf)<;>(try (exfalso;omega)))|fail)
   all_goals first
    | (exfalso;omega)
    | skip
   refine⟨i+1,by omega,by omega,?_⟩
   rw[hsn,show ((wid (l.take i)+c.bits.toNat:Nat):Int)=(wid (l.take i):Int)+c.bits by omega]
   (conv=>whnf)
   rfl
 . have hie:i=l.length:=by omega
   subst hie
   rw[List.take_length]
   (try (conv=>whnf));repeat' (first|refine Ok.seq ?_|((first|refine Ok.region tok ?_|refine Ok.cond ?_|refine Ok.exit ?_|refine Ok.ret ?_);conv=>whnf)|(refine bI ?_ ?_<;>intro<;>(conv=>whnf)<;>(try (exfalso;omega)))|fail)
   all_goals first
    | (exfalso;omega)
    | (refine Or.inl ?_;(conv=>whnf)
       rfl)
theorem binT_succ(v bits i:Nat):(binT v bits (i+1)).map bcell=(binT v bits i).map bcell++[bcell (bitC v (bits - 1 - i))]:=by
 unfold binT
 rw[List.range_succ,List.map_append,List.map_append]
 rfl
def fillT(v bits n i:Nat):Str:=binT v bits i++List.replicate (n - i) 0
theorem fillT_len{v bits n i:Nat}(h:i<=n):(fillT v bits n i).length=n:=by simp[fillT,binT_len];omega
theorem fillT_set{v bits n i:Nat}(h:i<n):((fillT v bits n i).map bcell).set i (bcell (bitC v (bits - 1 - i)))=(fillT v bits n (i+1)).map bcell:=by
 unfold fillT
 obtain⟨m,hm⟩:∃ m,n - i=m+1:=⟨n - i - 1,by omega⟩
 rw[hm,show n - (i+1)=m by omega,List.replicate_succ,List.map_append,List.map_append,binT_succ,List.set_append_right _ _ (by simp[binT_len])]
 simp[binT_len]
theorem getElem_bcell{l:Str}{i:Nat}{b:UInt8}(h:l[i]? = some b):(l.map bcell)[i]? = some (bcell b):=by simp[h]
theorem bits_pos{v k:Nat}(hv:v<9223372036854775808):v / tw k<9223372036854775808:=Nat.lt_of_le_of_lt (Nat.div_le_self _ _) hv
theorem mod2(v k:Nat):v / tw k % 2<=1:=by omega
set_option maxHeartbeats 4000000 in
theorem binary_at(v bits n:Nat)(hv:v<9223372036854775808)(hb:bits<=62)(hn:n<=bits):FSpec Tryz.prog T 293 [.i .i64 (v:Nat),.i .i64 (bits:Nat),.i .i64 (n:Nat)] (fun d _=>d = .s (binT v bits n)):=by
 refine FSpec.of_ok tok Tryz.func293 rfl Tryz.call293 (by simp) ?_
 (try (conv=>whnf));repeat' (first|refine Ok.seq ?_|(refine Ok.region tok ?_;conv=>whnf)|refine Ok.block ?_|((first|refine⟨_,_,rfl,rfl,?_⟩|refine aJ ?_|refine⟨_,rfl,?_⟩);conv=>whnf)|fail)
 rw[show List.replicate n [D.i .u8 0]=(fillT v bits n 0).map bcell by simp[fillT,binT,bcell]]
 refine Ok.loopU [0,1,7,12] [13] 1 0 (fun (i:Nat)=>[.i .i64 (i:Nat)]) (fun _ b=>b) (fun (i:Nat) (_:Vx.Rows)=>[some (5,(fillT v bits n i).map bcell)]) (fun (i:Nat)=>i<=n) (fun (i:Nat)=>n - i) (0) (Nat.zero_le _) ?_;(conv=>whnf);refine⟨by ((conv=>whnf);first|rfl|(simp[envCat,List.take_of_length_le,nrow,frow,bcell];done)|(simp[envCat,List.take_of_length_le,nrow,frow,bcell];rw[IntKind.wrap_i64];omega)),?_⟩
 intro i hi
 have hll:=fillT_len (v:=v) (bits:=bits) hi
 have hlm:((fillT v bits n i).map bcell).length=n:=by rw[List.length_map,hll]
 (conv=>whnf)
 by_cases hil:i<n
 . have hfs:=fillT_set (v:=v) (bits:=bits) hil
   have hfa:(fillT v bits n i)[i]? = some 0:=by
    unfold fillT
    rw[List.getElem?_append_right (by rw[binT_len];exact Nat.le_refl _),binT_len,Nat.sub_self,List.getElem?_replicate,if_pos (by omega)]
   have hsh:((bits:Int) - 1 - (i:Int))=((bits - 1 - i:Nat):Int)/\bits - 1 - i<=62:=by omega
   have hm2:=mod2 v (bits - 1 - i)
   have hbc:=bitC_nat v (bits - 1 - i)
   (try (conv=>whnf));repeat' (first|((first|with_reducible_and_instances refine shr_i rfl (by assumption) ?_|refine and_1' ⟨rfl,bits_pos hv⟩ rfl ?_|with_reducible_and_instances refine num_u8 (by omega) (by omega) ?_);conv=>whnf)|refine Ok.seq ?_|((first|refine Ok.region tok ?_|refine Ok.cond ?_);conv=>whnf)|refine Ok.block ?_|((first|refine Ok.skip ?_|refine nI ?_);conv=>whnf)|(refine bI ?_ ?_<;>intro<;>(conv=>whnf)<;>(try (exfalso;omega)))|(refine aJ ?_;conv=>whnf)|fail)
   all_goals first
    | (exfalso;omega)
    | skip
   refine⟨_,getElem_bcell hfa,by simp[bcell],_,rfl,?_⟩
   (conv=>whnf)
   (try (conv=>whnf));repeat' (first|((first|refine Ok.region tok ?_|refine nI ?_);conv=>whnf)|fail)
   refine⟨i+1,by omega,by omega,?_⟩
   rw[<- hfs,show bcell (bitC v (bits - 1 - i))=[.i .u8 (48+((v / tw (bits - 1 - i) % 2:Nat):Int))] by unfold bcell;rw[hbc];rfl]
   (conv=>whnf)
   rfl
 . have hie:i=n:=by omega
   subst hie
   have hfe:fillT v bits i i=binT v bits i:=by simp[fillT]
   (try (conv=>whnf));repeat' (first|(refine⟨binT v bits i,by rw[List.take_of_length_le (by omega),hfe],?_⟩;conv=>whnf)|refine Ok.seq ?_|((first|refine Ok.region tok ?_|refine Ok.cond ?_|refine Ok.exit ?_|refine Ok.ret ?_);conv=>whnf)|(refine bI ?_ ?_<;>intro<;>(conv=>whnf)<;>(try (exfalso;omega)))|(refine aJ ?_;conv=>whnf)|fail)
   all_goals first
    | (exfalso;omega)
    | (refine Or.inl ?_;(conv=>whnf)
       rfl)
end Go.Proofs.YtcglkonooeddfaaGreatDoor
namespace Go.Proofs.YtcglkonooeddfaaGreatDoor
open Go Go.Vx Go.Shelf
theorem bExtraR:Builder.Extra Tryz.prog Tryz.vxRep_ren where
 sizeBuilder:=by kernel_rfl
 liesBuilder:=by kernel_rfl
 t5:=by kernel_rfl
 a5:=fun _=>by kernel_rfl
 z5:=fun _=>by kernel_rfl
 v5:=fun _=>by kernel_rfl
 infoByte:=by kernel_rfl
 cellsByte:=by kernel_rfl
 sizeByte:=by kernel_rfl
 neB5:=by decide
theorem repeatL_x(n:Nat):Lib.repeatL [120] n=xsT n:=by
 induction n with
 | zero=>rfl
 | succ n ih=>rw[Lib.repeatL,ih];rfl
theorem xrep_at(n:Nat)(h:n<=1000000):FSpec Tryz.prog T 176 [.s [120],.i .i64 (n:Nat)] (fun d _=>d = .s (xsT n)):=by
 have:=repeat_at (T:=T) Tryz.vxRep bExtraR Tryz.call176 [120] n (by simp;omega) (by omega)
 rw[repeatL_x] at this
 exact this
theorem prefix_at(v bits n:Nat)(hv:v<9223372036854775808)(hb:bits<=62)(hn:n<=bits)(vI bI nJ:Int)(e1:vI=v)(e2:bI=bits)(e3:nJ=n) :
    FSpec Tryz.prog T 285 [.i .i64 vI,.i .i64 bI,.i .i64 nJ] (fun d _=>d = .s (pfxT v bits n)):=by
 subst e1 e2 e3
 have hx:=xrep_at (bits - n) (by omega)
 have hbl:=binT_len v bits n
 have hxl:=xsT_len (bits - n)
 refine FSpec.of_ok tok Tryz.func285 rfl Tryz.call285 (by simp) ?_
 rw[show ((bits - n:Nat):Int)=(bits:Int) - n by omega] at hx
 (try (conv=>whnf));repeat' (first|refine Ok.seq ?_|((first|refine Ok.region tok ?_|refine Ok.ret ?_|refine nI ?_);conv=>whnf)|(refine Or.inl ?_;(conv=>whnf);(repeat (refine aI ?_;conv=>whnf));refine⟨_,binary_at v bits n hv hb hn,rfl,?_⟩;conv=>whnf)|(refine Or.inl ?_;(conv=>whnf);(repeat (refine aI ?_;conv=>whnf));refine⟨_,hx,rfl,?_⟩;conv=>whnf)|(refine aJ ?_;conv=>whnf)|fail)
 refine Or.inl ?_;(conv=>whnf)
 rfl
theorem free_step{bits lo H k f:Nat}(h:f<bits/\lo % tw (f+1)=0/\lo+tw (f+1)<=H):freeF bits lo H (k+1) f=freeF bits lo H k (f+1):=by
 conv=>lhs;unfold freeF
 exact if_pos h
theorem free_stop{bits lo H f:Nat}(k:Nat)(h:¬ (f<bits/\lo % tw (f+1)=0/\lo+tw (f+1)<=H)):freeF bits lo H k f=f:=by
 cases k with
 | zero=>rfl
 | succ k=>unfold freeF;exact if_neg h
set_option maxHeartbeats 8000000 in
theorem cover_at(bits lo H:Nat)(hb:bits<=32)(hH:H<=tw bits)(hlo:lo<=tw bits)(bI lI hI:Int)(e1:bI=bits)(e2:lI=lo)(e3:hI=(H:Int) - 1) :
    FSpec Tryz.prog T 242 [.i .i64 bI,.i .i64 lI,.i .i64 hI] (fun d rows=>d = .own 0 (coverC bits H lo).length/\rows=[some (9,(coverC bits H lo).map srow)]):=by
 subst e1 e2 e3
 have htb:=tw62 (show bits<=62 by omega)
 have ht32:=tw_mono hb
 have h32:tw 32=4294967296:=by decide
 have hcl:=coverC_len (bits:=bits) (lo:=lo) (H:=H) hH
 refine FSpec.of_ok tok Tryz.func242 rfl Tryz.call242 (by simp) ?_
 (try (conv=>whnf));repeat' (first|refine Ok.seq ?_|(refine Ok.region tok ?_;conv=>whnf)|refine Ok.block ?_|fail)
 refine Ok.ghost 7 9 rfl ?_
 (conv=>whnf)
 refine Ok.loopU [0,2] [1,7] 1 0 (fun (x:Nat × List Str)=>[.i .i64 (x.1:Nat),.own 0 x.2.length]) (fun _ b=>b) (fun (x:Nat × List Str) (_:Vx.Rows)=>[some (9,x.2.map srow)]) (fun (x:Nat × List Str)=>x.1<=tw bits/\coverC bits H lo=x.2++coverC bits H x.1) (fun (x:Nat × List Str)=>tw bits - x.1) ((lo,[])) (⟨hlo,rfl⟩) ?_;(conv=>whnf);refine⟨by ((conv=>whnf);first|rfl|(simp[envCat,List.take_of_length_le,nrow,frow,bcell,srow];done)|(simp[envCat,List.take_of_length_le,nrow,frow,bcell,srow];rw[IntKind.wrap_i64];omega)),?_⟩
 rintro⟨q,l⟩ ⟨hq,hcov⟩
 dsimp only at hq hcov ⊢
 have hlm:(l.map srow).length=l.length:=by simp
 have hlb:l.length<=66:=by have:=congrArg List.length hcov;rw[List.length_append] at this;omega
 (conv=>whnf)
 by_cases hqH:q<H
 . have hst:=coverC_step (bits:=bits) hqH
   (try (conv=>whnf));repeat' (first|refine Ok.seq ?_|((first|refine Ok.region tok ?_|refine Ok.cond ?_);conv=>whnf)|refine Ok.block ?_|(refine Ok.skip ?_;conv=>whnf)|(refine bI ?_ ?_<;>intro<;>(conv=>whnf)<;>(try (exfalso;omega)))|fail)
   refine Ok.loopU [0,1,2,7] [8] 1 0 (fun (f:Nat)=>[.i .i64 (f:Nat)]) (fun _ b=>b) (fun (f:Nat) (_:Vx.Rows)=>[some (9,l.map srow)]) (fun (f:Nat)=>f<=bits/\q+tw f<=H/\freeF bits q H bits 0=freeF bits q H (bits - f) f) (fun (f:Nat)=>bits - f) (0) (⟨Nat.zero_le _,hqH,rfl⟩) ?_;(conv=>whnf);refine⟨by ((conv=>whnf);first|rfl|(simp[envCat,List.take_of_length_le,nrow,frow,bcell,srow];done)|(simp[envCat,List.take_of_length_le,nrow,frow,bcell,srow];rw[IntKind.wrap_i64];omega)),?_⟩
   rintro f ⟨hf,hqf,hfr⟩
   have htf:=tw62 (show f+1<=62 by omega)
   have hpf:=tw_pos f
   have hk1:((f:Nat):Int)+1=((f+1:Nat):Int):=by omega
   have htop:=top_at (f+1) (by omega)
   rw[<- hk1] at htop
   have hsh:((f:Nat):Int)=(f:Int)/\f<=62:=⟨rfl,by omega⟩
   have hpre:=prefix_at q bits (bits - f) (by omega) (by omega) (by omega) (q:Int) (bits:Int) ((bits:Int) - f) rfl rfl (by omega)
   (conv=>whnf)
   (try (conv=>whnf));repeat' (first|((first|refine and_i ⟨rfl,by omega⟩ ⟨rfl,by omega⟩ ?_|with_reducible_and_instances refine shl_i (by assumption) ?_);conv=>whnf)|refine Ok.seq ?_|((first|refine Ok.region tok ?_|refine Ok.cond ?_);conv=>whnf)|refine Ok.block ?_|((first|refine Ok.skip ?_|refine Ok.exit ?_|refine nI ?_);conv=>whnf)|(refine Or.inl ?_;(conv=>whnf);(repeat (refine aI ?_;conv=>whnf));refine⟨_,htop,rfl,?_⟩;conv=>whnf)|(refine Or.inl ?_;(conv=>whnf);(repeat (refine aI ?_;conv=>whnf));refine⟨_,hpre,rfl,?_⟩;conv=>whnf)|((first|refine Alt2.l (aI ?_)|refine⟨_,.inl ⟨rfl,rfl⟩,?_⟩|refine⟨_,_,rfl,rfl,?_⟩);conv=>whnf)|(refine bI ?_ ?_<;>intro<;>(conv=>whnf)<;>(try (exfalso;omega)))|(refine aJ ?_;conv=>whnf)|fail)
   all_goals first
    | (exfalso;omega)
    | skip
   . refine⟨f+1,by omega,⟨by omega,by omega,?_⟩,?_⟩
     . rw[hfr,show bits - f=(bits - (f+1))+1 by omega,free_step ⟨by omega,by omega,by omega⟩]
     . (conv=>whnf)
       rfl
   all_goals
    have hfr2:freeF bits q H bits 0=f:=by rw[hfr];exact free_stop _ (by omega)
    have hst2:coverC bits H q=pfxT q bits (bits - f) :: coverC bits H (q+tw f):=by rw[hst,hfr2];rfl
    refine⟨(q+tw f,l++[pfxT q bits (bits - f)]),by dsimp only;omega,⟨by dsimp only;omega,by dsimp only;rw[hcov,hst2];simp⟩,?_⟩
    (conv=>whnf)
    simp[envCat]
 . have:coverC bits H q=[]:=coverC_end (by omega)
   rw[this,List.append_nil] at hcov
   (try (conv=>whnf));repeat' (first|refine Ok.seq ?_|((first|refine Ok.region tok ?_|refine Ok.cond ?_|refine Ok.exit ?_|refine Ok.ret ?_);conv=>whnf)|(refine bI ?_ ?_<;>intro<;>(conv=>whnf)<;>(try (exfalso;omega)))|fail)
   all_goals first
    | (exfalso;omega)
    | (refine Or.inr (Or.inl ?_);(conv=>whnf)
       exact⟨by rw[hcov];rfl,by rw[hcov]⟩)
end Go.Proofs.YtcglkonooeddfaaGreatDoor
namespace Go.Proofs.YtcglkonooeddfaaGreatDoor
open Go Go.Vx Go.Shelf
theorem dropW_nil(p:UInt8->Bool):∀ l:Str,l.dropWhile p=[] ↔ ∀ b ∈ l,p b=true
 | []=>by simp
 | a :: l=>by
  rw[List.dropWhile_cons]
  split
  . rename_i h
    rw[dropW_nil p l]
    simp[h]
  . rename_i h
    simp[h]
theorem dropW_head(p:UInt8->Bool):∀ l:Str,l.dropWhile p ≠ []->∃ b ∈ l.dropWhile p,p b ≠ true
 | [],h=>absurd rfl h
 | a :: l,h=>by
  rw[List.dropWhile_cons] at h ⊢
  split
  . rename_i hp
    rw[if_pos hp] at h
    exact dropW_head p l h
  . rename_i hp
    exact⟨a,by simp,hp⟩
theorem dropW_mem(p:UInt8->Bool):∀ (l:Str) (x:UInt8),x ∈ l.dropWhile p->x ∈ l
 | [],x,h=>h
 | a :: l,x,h=>by
  rw[List.dropWhile_cons] at h
  split at h
  . exact List.mem_cons_of_mem _ (dropW_mem p l x h)
  . exact h
theorem trim_nil(l cs:Str):Lib.trimS l cs=[] ↔ ∀ b ∈ l,cs.contains b=true:=by
 unfold Lib.trimS Lib.trimLeftS Lib.trimRightS
 rw[dropW_nil]
 constructor
 . intro h
   by_cases hd:l.reverse.dropWhile (fun b=>cs.contains b)=[]
   . intro b hb
     exact (dropW_nil _ _).1 hd b (by simpa using hb)
   . obtain⟨b,hb,hn⟩:=dropW_head _ _ hd
     exact absurd (h b (by simpa using hb)) hn
 . intro h x hx
   have h1:=dropW_mem (fun b=>cs.contains b) l.reverse x (List.mem_reverse.1 hx)
   exact h x (List.mem_reverse.1 h1)
structure FormOk(t:Tst):Prop where
 a:1<=t.op/\t.op<=6/\1<=t.form/\t.form<=4/\(t.op<=2\/t.form=1)/\(t.form=4->t.lo=0/\t.hi=0/\t.len=0)/\(t.form=1\/t.form=2->t.hi=0)/\(t.form=1\/t.form=3->t.len=0)
 p:t.form ≠ 4->t.pat=[]
def ValOk(t:Tst)(b:Nat):Prop:=0<=t.lo/\t.lo<=(tw b:Int) - 1/\0<=t.hi/\t.hi<=(tw b:Int) - 1/\0<=t.len/\t.len<=b
def DigOk(s:Str)(b:Nat):Prop:=s.length=b/\cubOk s
open Classical in
noncomputable def errT(t:Tst)(b:Nat):Int:=
 if ¬ FormOk t then 47 else if ¬ ValOk t b then 42 else if t.form=2/\t.lo.toNat % tw (b - t.len.toNat) ≠ 0 then 42 else if t.form=3/\t.hi<t.lo then 43 else if t.form=4/\¬ DigOk t.pat b then 44 else 0
theorem errT_form{t:Tst}{b:Nat}(h:¬ FormOk t):errT t b=47:=by unfold errT;rw[if_pos h]
theorem errT_val{t:Tst}{b:Nat}(h:FormOk t)(h2:¬ ValOk t b):errT t b=42:=by unfold errT;rw[if_neg (fun x=>x h),if_pos h2]
theorem errT_pre{t:Tst}{b:Nat}(h:FormOk t)(h2:ValOk t b)(h3:t.form=2/\t.lo.toNat % tw (b - t.len.toNat) ≠ 0):errT t b=42:=by unfold errT;rw[if_neg (fun x=>x h),if_neg (fun x=>x h2),if_pos h3]
theorem errT_rng{t:Tst}{b:Nat}(h:FormOk t)(h2:ValOk t b)(h3:¬ (t.form=2/\t.lo.toNat % tw (b - t.len.toNat) ≠ 0))(h4:t.form=3/\t.hi<t.lo):errT t b=43:=by unfold errT;rw[if_neg (fun x=>x h),if_neg (fun x=>x h2),if_neg h3,if_pos h4]
theorem errT_dig{t:Tst}{b:Nat}(h:FormOk t)(h2:ValOk t b)(h3:¬ (t.form=2/\t.lo.toNat % tw (b - t.len.toNat) ≠ 0))(h4:¬ (t.form=3/\t.hi<t.lo))(h5:t.form=4/\¬ DigOk t.pat b):errT t b=44:=by unfold errT;rw[if_neg (fun x=>x h),if_neg (fun x=>x h2),if_neg h3,if_neg h4,if_pos h5]
theorem errT_ok{t:Tst}{b:Nat}(h:FormOk t)(h2:ValOk t b)(h3:¬ (t.form=2/\t.lo.toNat % tw (b - t.len.toNat) ≠ 0))(h4:¬ (t.form=3/\t.hi<t.lo))(h5:¬ (t.form=4/\¬ DigOk t.pat b)):errT t b=0:=by unfold errT;rw[if_neg (fun x=>x h),if_neg (fun x=>x h2),if_neg h3,if_neg h4,if_neg h5]
theorem trim_dig(s:Str):Lib.trimS s [48,49,120]=[] ↔ cubOk s:=by
 rw[trim_nil]
 unfold cubOk
 constructor
 . intro h b hb
   have:=h b hb
   simpa using this
 . intro h b hb
   have:=h b hb
   simpa using this
theorem trim01x(s:Str)(h:s.length<=9223372036854775807):FSpec Tryz.prog T 122 [.s s,.s [48,49,120]] (fun d _=>d = .s (Lib.trimS s [48,49,120])):=
 trim_at Tryz.vxTrim (by kernel_rfl) Tryz.call122 s [48,49,120] h (by decide) (by decide)
@[reducible] def tcl(f:Str)(op form lo hi len:Int)(pat:Str):List D:=[.s f,.i .i64 op,.i .i64 form,.i .i64 lo,.i .i64 hi,.i .i64 len,.s pat]
set_option maxRecDepth 100000 in
set_option maxHeartbeats 16000000 in
theorem fit_at(f:Str)(op form lo hi len:Int)(pat:Str)(b:Nat)(h1b:1<=b)(hb:b<=32)(hs:pat.length<=1000000000000):FSpec Tryz.prog T 175 [.agg (tcl f op form lo hi len pat),.i .i64 (b:Nat)] (fun d _=>d = .i .i64 (errT ⟨f,op,form,lo,hi,len,pat⟩ b)):=by
 have htb:=tw62 (show b<=62 by omega)
 have htop:=top_at b (by omega)
 have htrim:=trim01x pat (by omega)
 refine FSpec.of_ok tok Tryz.func175 rfl Tryz.call175 (by simp) ?_
 by_cases hF:FormOk ⟨f,op,form,lo,hi,len,pat⟩
 . obtain⟨hA,hP⟩:=id hF
   dsimp only at hA hP
   have h4:form=1\/form=2\/form=3\/form=4:=by omega
   by_cases hV:ValOk ⟨f,op,form,lo,hi,len,pat⟩ b
   . have hV2:=hV
     unfold ValOk at hV2
     dsimp only at hV2
     obtain⟨vl,rfl⟩:∃ v:Nat,lo=v:=⟨lo.toNat,by omega⟩
     obtain⟨vh,rfl⟩:∃ v:Nat,hi=v:=⟨hi.toNat,by omega⟩
     obtain⟨vn,rfl⟩:∃ v:Nat,len=v:=⟨len.toNat,by omega⟩
     rcases h4 with rfl|rfl|rfl|rfl
     . have hp:=hP (by decide)
       subst hp
       rw[errT_ok hF hV (by simp) (by simp) (by simp)]
       (try (conv=>whnf));repeat' (first|refine Ok.seq ?_|((first|refine Ok.region tok ?_|refine Ok.region_draw tok follows (by kernel_rfl) ?_|refine Ok.cond ?_|refine Ok.skip ?_|refine Ok.ret ?_|refine⟨_,by assumption,?_⟩);conv=>whnf)|(refine bI ?_ ?_<;>intro<;>(conv=>whnf)<;>(try (exfalso;omega)))|((first|refine aJ ?_|refine⟨_,rfl,?_⟩);conv=>whnf)|fail)
       all_goals first
        | (exfalso;omega)
        | (rename_i h;exact absurd rfl h)
        | (refine Or.inl ?_;(conv=>whnf)
           rfl)
     . have hp:=hP (by decide)
       subst hp
       have htop2:=top_at (b - vn) (by omega)
       rw[show ((b - vn:Nat):Int)=(b:Int) - (vn:Int) by omega] at htop2
       by_cases hm:vl % tw (b - vn)=0
       . rw[errT_ok hF hV (by simpa using hm) (by simp) (by simp)]
         (try (conv=>whnf));repeat' (first|(refine and_i ⟨rfl,by omega⟩ ⟨rfl,by omega⟩ ?_;conv=>whnf)|refine Ok.seq ?_|((first|refine Ok.region tok ?_|refine Ok.region_draw tok follows (by kernel_rfl) ?_|refine Ok.cond ?_|refine Ok.skip ?_|refine Ok.ret ?_|refine nI ?_|refine⟨_,by assumption,?_⟩);conv=>whnf)|(refine bI ?_ ?_<;>intro<;>(conv=>whnf)<;>(try (exfalso;omega)))|((first|refine aJ ?_|refine⟨_,rfl,?_⟩);conv=>whnf)|fail)
         all_goals first
          | (exfalso;omega)
          | (rename_i h;exact absurd rfl h)
          | (refine Or.inl ?_;(conv=>whnf)
             rfl)
       . rw[errT_pre hF hV ⟨rfl,by simpa using hm⟩]
         (try (conv=>whnf));repeat' (first|(refine and_i ⟨rfl,by omega⟩ ⟨rfl,by omega⟩ ?_;conv=>whnf)|refine Ok.seq ?_|((first|refine Ok.region tok ?_|refine Ok.region_draw tok follows (by kernel_rfl) ?_|refine Ok.cond ?_|refine Ok.skip ?_|refine Ok.ret ?_|refine nI ?_|refine⟨_,by assumption,?_⟩);conv=>whnf)|(refine bI ?_ ?_<;>intro<;>(conv=>whnf)<;>(try (exfalso;omega)))|((first|refine aJ ?_|refine⟨_,rfl,?_⟩);conv=>whnf)|fail)
         all_goals first
          | (exfalso;omega)
          | (rename_i h;exact absurd rfl h)
          | (refine Or.inl ?_;(conv=>whnf)
             rfl)
     . have hp:=hP (by decide)
       subst hp
       by_cases hr:(vh:Int)<vl
       . rw[errT_rng hF hV (by simp) ⟨rfl,hr⟩]
         (try (conv=>whnf));repeat' (first|refine Ok.seq ?_|((first|refine Ok.region tok ?_|refine Ok.region_draw tok follows (by kernel_rfl) ?_|refine Ok.cond ?_|refine Ok.skip ?_|refine Ok.ret ?_|refine⟨_,by assumption,?_⟩);conv=>whnf)|(refine bI ?_ ?_<;>intro<;>(conv=>whnf)<;>(try (exfalso;omega)))|((first|refine aJ ?_|refine⟨_,rfl,?_⟩);conv=>whnf)|fail)
         all_goals first
          | (exfalso;omega)
          | (rename_i h;exact absurd rfl h)
          | (refine Or.inl ?_;(conv=>whnf)
             rfl)
       . rw[errT_ok hF hV (by simp) (fun h=>hr h.2) (by simp)]
         (try (conv=>whnf));repeat' (first|refine Ok.seq ?_|((first|refine Ok.region tok ?_|refine Ok.region_draw tok follows (by kernel_rfl) ?_|refine Ok.cond ?_|refine Ok.skip ?_|refine Ok.ret ?_|refine⟨_,by assumption,?_⟩);conv=>whnf)|(refine bI ?_ ?_<;>intro<;>(conv=>whnf)<;>(try (exfalso;omega)))|((first|refine aJ ?_|refine⟨_,rfl,?_⟩);conv=>whnf)|fail)
         all_goals first
          | (exfalso;omega)
          | (rename_i h;exact absurd rfl h)
          | (refine Or.inl ?_;(conv=>whnf)
             rfl)
     . have htd:=trim_dig pat
       by_cases hd:DigOk pat b
       . rw[errT_ok hF hV (by simp) (by simp) (fun h=>h.2 hd)]
         have hd2:=hd
         obtain⟨hd1,hdc⟩:=hd2
         (try (conv=>whnf));repeat' (first|refine Ok.seq ?_|((first|refine Ok.region tok ?_|refine Ok.region_draw tok follows (by kernel_rfl) ?_|refine Ok.cond ?_|refine Ok.skip ?_|refine Ok.ret ?_|refine⟨_,by assumption,?_⟩);conv=>whnf)|(refine Or.inl ?_;(conv=>whnf);(repeat (refine aI ?_;conv=>whnf));refine⟨_,htrim,rfl,?_⟩;conv=>whnf)|(refine bI ?_ ?_<;>intro<;>(conv=>whnf)<;>(try (exfalso;omega)))|((first|refine aJ ?_|refine⟨_,rfl,?_⟩);conv=>whnf)|fail)
         all_goals first
          | (exfalso;omega)
          | (rename_i h;exact absurd (htd.2 hdc) h)
          | (refine Or.inl ?_;(conv=>whnf)
             rfl)
       . rw[errT_dig hF hV (by simp) (by simp) ⟨rfl,hd⟩]
         (try (conv=>whnf));repeat' (first|refine Ok.seq ?_|((first|refine Ok.region tok ?_|refine Ok.region_draw tok follows (by kernel_rfl) ?_|refine Ok.cond ?_|refine Ok.skip ?_|refine Ok.ret ?_|refine⟨_,by assumption,?_⟩);conv=>whnf)|(refine Or.inl ?_;(conv=>whnf);(repeat (refine aI ?_;conv=>whnf));refine⟨_,htrim,rfl,?_⟩;conv=>whnf)|(refine bI ?_ ?_<;>intro<;>(conv=>whnf)<;>(try (exfalso;omega)))|((first|refine aJ ?_|refine⟨_,rfl,?_⟩);conv=>whnf)|fail)
         all_goals first
          | (exfalso;omega)
          | (refine Or.inl ?_;(conv=>whnf)
             rfl)
          | (rename_i h1 h2;exact absurd ⟨by omega,htd.1 (by simpa using h2)⟩ hd)
   . have hV2:=hV
     unfold ValOk at hV2
     dsimp only at hV2
     rw[errT_val hF hV]
     rcases h4 with rfl|rfl|rfl|rfl
     all_goals
      (try (conv=>whnf));repeat' (first|refine Ok.seq ?_|((first|refine Ok.region tok ?_|refine Ok.region_draw tok follows (by kernel_rfl) ?_|refine Ok.cond ?_|refine Ok.skip ?_|refine Ok.ret ?_|refine⟨_,by assumption,?_⟩);conv=>whnf)|(refine bI ?_ ?_<;>intro<;>(conv=>whnf)<;>(try (exfalso;omega)))|((first|refine aJ ?_|refine⟨_,rfl,?_⟩);conv=>whnf)|fail)
     all_goals first
      | (exfalso;omega)
      | (rename_i h;exact absurd (hP (by decide)) h)
      | (refine Or.inl ?_;(conv=>whnf)
         rfl)
 . rw[errT_form hF]
   by_cases hf4:1<=form/\form<=4
   . by_cases hp:form ≠ 4->pat=[]
     . have hA:¬ (1<=op/\op<=6/\1<=form/\form<=4/\(op<=2\/form=1)/\(form=4->lo=0/\hi=0/\len=0)/\(form=1\/form=2->hi=0)/\(form=1\/form=3->len=0)):=fun h=>hF ⟨h,hp⟩
       have h4:form=1\/form=2\/form=3\/form=4:=by omega
       rcases h4 with rfl|rfl|rfl|rfl
       all_goals
        (try (conv=>whnf));repeat' (first|refine Ok.seq ?_|((first|refine Ok.region tok ?_|refine Ok.cond ?_|refine Ok.skip ?_|refine Ok.ret ?_);conv=>whnf)|(refine bI ?_ ?_<;>intro<;>(conv=>whnf)<;>(try (exfalso;omega)))|((first|refine aJ ?_|refine⟨_,rfl,?_⟩);conv=>whnf)|fail)
       all_goals first
        | (exfalso;omega)
        | (rename_i h;exact absurd (hp (by decide)) h)
        | (refine Or.inl ?_;(conv=>whnf)
           rfl)
     . have h4:form=1\/form=2\/form=3:=by omega
       have hpn:pat ≠ []:=fun e=>hp fun _=>e
       rcases h4 with rfl|rfl|rfl
       all_goals
        (try (conv=>whnf));repeat' (first|refine Ok.seq ?_|((first|refine Ok.region tok ?_|refine Ok.region_draw tok follows (by kernel_rfl) ?_|refine Ok.cond ?_|refine Ok.skip ?_|refine Ok.ret ?_|refine nI ?_|refine⟨_,by assumption,?_⟩);conv=>whnf)|(refine bI ?_ ?_<;>intro<;>(conv=>whnf)<;>(try (exfalso;omega)))|((first|refine aJ ?_|refine⟨_,rfl,?_⟩);conv=>whnf)|fail)
       all_goals first
        | (exfalso;omega)
        | (refine Or.inl ?_;(conv=>whnf)
           rfl)
        | (rename_i h;exact absurd (by simpa using h) hpn)
        | exact absurd (Classical.not_not.1 (by assumption)) hpn
        | (refine absurd ?_ hpn;rename_i h1 h2;simpa using h1)
        | (refine absurd ?_ hpn;rename_i h1 h2 h3;simpa using h1)
        | (refine absurd ?_ hpn;rename_i h1 h2 h3 h4;simpa using h1)
        | (refine absurd ?_ hpn;rename_i h1 h2 h3 h4 h5;simpa using h1)
   . (try (conv=>whnf));repeat' (first|refine Ok.seq ?_|((first|refine Ok.region tok ?_|refine Ok.cond ?_|refine Ok.ret ?_);conv=>whnf)|(refine bI ?_ ?_<;>intro<;>(conv=>whnf)<;>(try (exfalso;omega)))|fail)
     all_goals first
      | (exfalso;omega)
      | (refine Or.inl ?_;(conv=>whnf)
         rfl)
end Go.Proofs.YtcglkonooeddfaaGreatDoor
namespace Go.Proofs.YtcglkonooeddfaaGreatDoor
open Go Go.Vx Go.Shelf
inductive Tr where
 | leaf (p:Prop)
 | test (t:Tst)
 | neg (x:Tr)
 | and (x y:Tr)
 | or (x y:Tr)
def Tr.ty:Tr->Nat
 | .leaf _=>282|.test _=>284|.neg _=>286|.and _ _=>290|.or _ _=>291
def Tr.cs:Tr->List D
 | .leaf p=>[.b p]|.test t=>tcells t|.neg x=>[.ifc x.ty (.agg x.cs)]
 | .and x y=>[.ifc x.ty (.agg x.cs),.ifc y.ty (.agg y.cs)]|.or x y=>[.ifc x.ty (.agg x.cs),.ifc y.ty (.agg y.cs)]
@[reducible] def Tr.d(x:Tr):D:=.ifc x.ty (.agg x.cs)
def Tr.isO:Tr->Bool|.or _ _=>true|_=>false
def Tr.isJ:Tr->Bool|.or _ _=>true|.and _ _=>true|_=>false
def cnt:Bool->Nat|true=>1|false=>0
def Tr.sz:Tr->Nat|.leaf _=>1|.test _=>1|.neg x=>x.sz+1|.and x y=>x.sz+y.sz+1|.or x y=>x.sz+y.sz+1
def Tr.nest:Tr->Nat
 | .leaf _=>0|.test _=>0|.neg x=>x.nest+cnt x.isJ+1
 | .and x y=>max (x.nest+cnt x.isO) (y.nest+cnt y.isJ)|.or x y=>max x.nest (y.nest+cnt y.isO)
theorem cnt_le(b:Bool):cnt b<=1:=by cases b<;>simp[cnt]
theorem nest_le(x:Tr):x.nest<=2*x.sz:=by
 induction x with
 | leaf _=>simp[Tr.nest]
 | test _=>simp[Tr.nest]
 | neg x ih=>have:=cnt_le x.isJ;simp only[Tr.nest,Tr.sz];omega
 | and x y h1 h2=>have:=cnt_le x.isO;have:=cnt_le y.isJ;simp only[Tr.nest,Tr.sz];omega
 | or x y h1 h2=>have:=cnt_le y.isO;simp only[Tr.nest,Tr.sz];omega
theorem bff{p:Prop}(h:¬ p):D.b False=D.b p:=by congr 1;exact propext ⟨False.elim,h⟩
theorem btt{p:Prop}(h:p):D.b True=D.b p:=by congr 1;exact propext ⟨fun _=>h,fun _=>trivial⟩
theorem joined_at(x:Tr):FSpec Tryz.prog T 363 [x.d] (fun d _=>d = .b (x.isJ=true)):=by
 refine FSpec.of_ok tok Tryz.func363 rfl Tryz.call363 (by simp) ?_
 cases x
 all_goals
  (try (conv=>whnf));repeat' (first|refine Ok.seq ?_|((first|refine Ok.region tok ?_|refine Ok.cond ?_);conv=>whnf)|refine Ok.block ?_|((first|refine Ok.skip ?_|refine Ok.ret ?_);conv=>whnf)|fail)
  refine Or.inl ?_;(conv=>whnf)
  first|exact btt rfl|exact bff (by simp[Tr.isJ])
theorem isOr_at(x:Tr):FSpec Tryz.prog T 371 [x.d] (fun d _=>d = .b (x.isO=true)):=by
 refine FSpec.of_ok tok Tryz.func371 rfl Tryz.call371 (by simp) ?_
 cases x
 all_goals
  (try (conv=>whnf));repeat' (first|refine Ok.seq ?_|((first|refine Ok.region tok ?_|refine Ok.cond ?_);conv=>whnf)|refine Ok.block ?_|((first|refine Ok.skip ?_|refine Ok.ret ?_);conv=>whnf)|fail)
  refine Or.inl ?_;(conv=>whnf)
  first|exact btt rfl|exact bff (by simp[Tr.isO])
theorem count_at(b:Bool):FSpec Tryz.prog T 370 [.b (b=true)] (fun d _=>d = .i .i64 (cnt b:Nat)):=by
 refine FSpec.of_ok tok Tryz.func370 rfl Tryz.call370 (by simp) ?_
 cases b
 all_goals
  (try (conv=>whnf));repeat' (first|refine Ok.seq ?_|((first|refine Ok.region tok ?_|refine Ok.cond ?_|refine Ok.skip ?_|refine Ok.ret ?_);conv=>whnf)|(refine bI ?_ ?_<;>intro<;>(conv=>whnf)<;>(try (exfalso;omega)))|fail)
  all_goals first
   | (rename_i h;cases h;done)
   | (rename_i h;exact absurd rfl h)
   | (refine Or.inl ?_;(conv=>whnf)
      rfl)
theorem mLeaf:MethC Tryz.prog "reach/expr.nesting" 282 340:=.of tok (by kernel_rfl) (by kernel_rfl) Tryz.call340
theorem mTest:MethC Tryz.prog "reach/expr.nesting" 284 347:=.of tok (by kernel_rfl) (by kernel_rfl) Tryz.call347
theorem mNot:MethC Tryz.prog "reach/expr.nesting" 286 360:=.of tok (by kernel_rfl) (by kernel_rfl) Tryz.call360
theorem mAnd:MethC Tryz.prog "reach/expr.nesting" 290 366:=.of tok (by kernel_rfl) (by kernel_rfl) Tryz.call366
theorem mOr:MethC Tryz.prog "reach/expr.nesting" 291 376:=.of tok (by kernel_rfl) (by kernel_rfl) Tryz.call376
theorem leafN(cs:List D)(p:Prop)(h:cs=[.b p]):FSpec Tryz.prog T 340 [.agg cs] (fun d _=>d = .i .i64 0):=by
 subst h
 refine FSpec.of_ok tok Tryz.func340 rfl Tryz.call340 (by simp) ?_
 (try (conv=>whnf));repeat' (first|refine Ok.seq ?_|((first|refine Ok.region tok ?_|refine Ok.ret ?_);conv=>whnf)|fail)
 refine Or.inl ?_;(conv=>whnf)
 rfl
theorem testN(t:Tst):FSpec Tryz.prog T 347 [.agg (tcells t)] (fun d _=>d = .i .i64 0):=by
 refine FSpec.of_ok tok Tryz.func347 rfl Tryz.call347 (by simp) ?_
 (try (conv=>whnf));repeat' (first|refine Ok.seq ?_|((first|refine Ok.region tok ?_|refine Ok.ret ?_);conv=>whnf)|fail)
 refine Or.inl ?_;(conv=>whnf)
 rfl
theorem deeper_at(x y:Tr)(a b:Nat)(ha:a ≤ 1)(hb:b ≤ 1)(hx:x.sz ≤ 1000)(hy:y.sz ≤ 1000)(fx fy:FuncId)(mx:MethC Tryz.prog "reach/expr.nesting" x.ty fx)(my:MethC Tryz.prog "reach/expr.nesting" y.ty fy)
    (sx:FSpec Tryz.prog T fx [.agg x.cs] (fun d _=>d = .i .i64 (x.nest:Nat)))(sy:FSpec Tryz.prog T fy [.agg y.cs] (fun d _=>d = .i .i64 (y.nest:Nat))) :
    FSpec Tryz.prog T 364 [.agg [x.d,y.d],.i .i64 (a:Nat),.i .i64 (b:Nat)] (fun d _=>d = .i .i64 (max (x.nest+a) (y.nest+b):Nat)):=by
 have h1:=nest_le x
 have h2:=nest_le y
 refine FSpec.of_ok tok Tryz.func364 rfl Tryz.call364 (by simp) ?_
 (try (conv=>whnf));repeat' (first|refine Ok.seq ?_|((first|refine Ok.region tok ?_|refine Ok.region_plan (id:=1) tok follows [(1,2,[]),(1,7,[2]),(6,7,[]),(2,7,[]),(1,10,[4,2]),(6,10,[9,7]),(2,10,[4]),(7,10,[9])] [.q 0,.q 1,.q 3,.q 5,.q 6,.q 8,.l 2,.q 4,.l 7,.q 9,.l 10,.q 11] (by kernel_rfl) ?_|refine Ok.ret ?_|refine nI ?_|refine⟨_,by assumption,?_⟩|refine aJ ?_|refine num_any ?_);conv=>whnf)|fail)
 refine Or.inl ?_;(conv=>whnf)
 refine congrArg (D.i .i64) ?_
 split<;>omega
theorem nest_at(x:Tr)(hx:x.sz ≤ 1000):∃ f,MethC Tryz.prog "reach/expr.nesting" x.ty f ∧ FSpec Tryz.prog T f [.agg x.cs] (fun d _=>d = .i .i64 (x.nest:Nat)):=by
 induction x with
 | leaf p=>exact⟨_,mLeaf,leafN _ p rfl⟩
 | test t=>exact⟨_,mTest,testN t⟩
 | neg x ih=>
  simp only[Tr.sz] at hx
  obtain⟨fx,mx,sx⟩:=ih (by omega)
  have hn:=nest_le x
  refine⟨_,mNot,?_⟩
  refine FSpec.of_ok tok Tryz.func360 rfl Tryz.call360 (by simp) ?_
  have hj:=joined_at x
  cases hJ:x.isJ
  all_goals
   rw[hJ] at hj
   (try (conv=>whnf));repeat' (first|refine Ok.seq ?_|((first|refine Ok.region tok ?_|refine Ok.cond ?_|refine Ok.skip ?_|refine Ok.ret ?_|refine nI ?_);conv=>whnf)|(refine Or.inl ?_;(conv=>whnf);(repeat (refine aI ?_;conv=>whnf));refine⟨_,hj,rfl,?_⟩;conv=>whnf)|(refine Or.inl ?_;(conv=>whnf);(repeat (refine aI ?_;conv=>whnf));refine⟨_,mx,_,sx,rfl,?_⟩;conv=>whnf)|(refine bI ?_ ?_<;>intro<;>(conv=>whnf)<;>(try (exfalso;omega)))|fail)
   all_goals first
    | (rename_i h;cases h;done)
    | (rename_i h;exact absurd rfl h)
    | (refine Or.inl ?_;(conv=>whnf)
       show D.i .i64 _=D.i .i64 ((x.nest+cnt x.isJ+1:Nat):Int)
       rw[hJ]
       refine congrArg (D.i .i64) ?_
       simp only[cnt]
       omega)
 | and x y ih1 ih2=>
  simp only[Tr.sz] at hx
  obtain⟨fx,mx,sx⟩:=ih1 (by omega)
  obtain⟨fy,my,sy⟩:=ih2 (by omega)
  refine⟨_,mAnd,?_⟩
  refine FSpec.of_ok tok Tryz.func366 rfl Tryz.call366 (by simp) ?_
  (try (conv=>whnf));repeat' (first|refine Ok.seq ?_|((first|refine Ok.region tok ?_|refine Ok.region_draw tok follows (by kernel_rfl) ?_|refine Ok.ret ?_|refine⟨_,isOr_at x,rfl,?_⟩|refine⟨_,joined_at y,rfl,?_⟩|refine⟨_,count_at x.isO,rfl,?_⟩|refine⟨_,count_at y.isJ,rfl,?_⟩|refine⟨_,deeper_at x y _ _ (cnt_le _) (cnt_le _) (by omega) (by omega) fx fy mx my sx sy,rfl,?_⟩);conv=>whnf)|fail)
  refine Or.inl ?_;(conv=>whnf)
  rfl
 | or x y ih1 ih2=>
  simp only[Tr.sz] at hx
  obtain⟨fx,mx,sx⟩:=ih1 (by omega)
  obtain⟨fy,my,sy⟩:=ih2 (by omega)
  refine⟨_,mOr,?_⟩
  refine FSpec.of_ok tok Tryz.func376 rfl Tryz.call376 (by simp) ?_
  (try (conv=>whnf));repeat' (first|refine Ok.seq ?_|((first|refine Ok.region tok ?_|refine Ok.region_draw tok follows (by kernel_rfl) ?_|refine Ok.ret ?_|refine⟨_,isOr_at y,rfl,?_⟩|refine⟨_,count_at y.isO,rfl,?_⟩|refine⟨_,deeper_at x y 0 _ (by omega) (cnt_le _) (by omega) (by omega) fx fy mx my sx sy,rfl,?_⟩);conv=>whnf)|fail)
  refine Or.inl ?_;(conv=>whnf)
  rfl
end Go.Proofs.YtcglkonooeddfaaGreatDoor
namespace Go.Proofs.YtcglkonooeddfaaGreatDoor
open Go Go.Vx Go.Shelf
theorem edrop_at{α:Type}{l:List α}{i:Nat}{x:α}(h:l[i]? = some x):l.drop i=x :: l.drop (i+1):=by
 obtain⟨h1,rfl⟩:=List.getElem?_eq_some_iff.1 h
 exact List.drop_eq_getElem_cons h1
@[reducible] def qrow(x:Tr):List D:=[x.d]
def zT(t:Tst):Prop:=eqDs (tcells t) [.s [],.i .i64 0,.i .i64 0,.i .i64 0,.i .i64 0,.i .i64 0,.s []]
def shapeT(c:Nd)(rs:List Tr):Option (List Tr):=
 if c.kind=1\/c.kind=2 then some (.leaf (c.kind=1) :: rs)
 else if c.kind=3 then some (.test c.t :: rs)
 else if c.kind=4 then match rs with|x :: r=>some (.neg x :: r)|[]=>none
 else if c.kind=5 then match rs with|y :: x :: r=>some (.and x y :: r)|_=>none
 else if c.kind=6 then match rs with|y :: x :: r=>some (.or x y :: r)|_=>none
 else none
open Classical in
noncomputable def stepT(c:Nd)(rs:List Tr):Option (List Tr):=if c.kind ≠ 3/\¬ zT c.t then none else shapeT c rs
noncomputable def buildR:List Nd->List Tr->Option (List Tr)
 | [],rs=>some rs
 | c :: e,rs=>match stepT c rs with|some rs'=>buildR e rs'|none=>none
def oneT:List Tr->Option Tr|[x]=>some x|_=>none
noncomputable def bldO(e:List Nd):Option Tr:=(buildR e []).bind oneT
def szs(rs:List Tr):Nat:=(rs.map Tr.sz).sum
theorem shapeT_sz{c:Nd}{rs rs':List Tr}(h:shapeT c rs=some rs'):szs rs'<=szs rs+1:=by
 unfold shapeT at h
 split at h
 . cases h;simp[szs,Tr.sz];omega
 split at h
 . cases h;simp[szs,Tr.sz];omega
 split at h
 . split at h
   . cases h;simp[szs,Tr.sz];omega
   . cases h
 split at h
 . split at h
   . cases h;simp[szs,Tr.sz];omega
   . cases h
 split at h
 . split at h
   . cases h;simp[szs,Tr.sz];omega
   . cases h
 . cases h
theorem buildR_sz:∀ (e:List Nd) (rs rs':List Tr),buildR e rs=some rs'->szs rs'<=szs rs+e.length
 | [],rs,rs',h=>by unfold buildR at h;cases h;simp
 | c :: e,rs,rs',h=>by
  unfold buildR at h
  split at h
  . rename_i r1 h1
    have h2:=buildR_sz e _ _ h
    unfold stepT at h1
    split at h1
    . cases h1
    . have:=shapeT_sz h1
      simp only[List.length_cons]
      omega
  . cases h
theorem bldO_sz{e:List Nd}{x:Tr}(h:bldO e=some x):x.sz<=e.length:=by
 unfold bldO at h
 cases hb:buildR e [] with
 | none=>rw[hb] at h;cases h
 | some l=>
  rw[hb] at h
  have:=buildR_sz _ _ _ hb
  match l,h with
  | [y],h=>cases h;simpa[szs] using this
def bldD:Option Tr->D|some x=>.tup [x.d,.b True]|none=>.tup [.nilI,.b False]
theorem bad_z{c:Nd}{rs:List Tr}(h:c.kind ≠ 3)(h2:¬ zT c.t):stepT c rs=none:=by unfold stepT;rw[if_pos ⟨h,h2⟩]
theorem stepT_ok{c:Nd}{rs:List Tr}(h:¬ (c.kind ≠ 3/\¬ zT c.t)):stepT c rs=shapeT c rs:=by unfold stepT;rw[if_neg h]
theorem bld_none{e:List Nd}{c:Nd}{r:List Nd}{rs:List Tr}(h:buildR e []=buildR (c :: r) rs)(hs:stepT c rs=none):bldO e=none:=by
 have h2:buildR (c :: r) rs=none:=by unfold buildR;rw[hs]
 unfold bldO
 rw[h,h2]
 rfl
theorem bld_step{e:List Nd}{c:Nd}{r:List Nd}{rs rs':List Tr}(h:buildR e []=buildR (c :: r) rs)(hs:stepT c rs=some rs'):buildR e []=buildR r rs':=by
 rw[h]
 conv=>lhs;unfold buildR
 rw[hs]
theorem push_nil(rs:List Tr)(x:Tr):((rs.reverse++[]).map qrow)++[qrow x]=((x :: rs).reverse++[]).map qrow:=by simp
theorem push_cons(rs:List Tr)(x y:Tr)(j:List Tr):((rs.reverse++y :: j).map qrow).set rs.length (qrow x)=((x :: rs).reverse++j).map qrow:=by
 rw[List.map_append,List.set_append_right _ _ (by simp)]
 simp
theorem pile_top(x:Tr)(r j:List Tr):((x :: r).reverse++j)[r.length]? = some x:=by simp
theorem pile_top2(x y:Tr)(r j:List Tr):((y :: x :: r).reverse++j)[r.length]? = some x:=by simp
theorem set_top(x x':Tr)(r j:List Tr):((x :: r).reverse++j).set r.length x'=(x' :: r).reverse++j:=by simp
theorem set_top2(x y x':Tr)(r j:List Tr):((y :: x :: r).reverse++j).set r.length x'=(x' :: r).reverse++(y :: j):=by simp
theorem sh12{c:Nd}{rs:List Tr}(h:c.kind=1\/c.kind=2):shapeT c rs=some (.leaf (c.kind=1) :: rs):=by unfold shapeT;rw[if_pos h]
theorem sh3{c:Nd}{rs:List Tr}(h:c.kind=3):shapeT c rs=some (.test c.t :: rs):=by unfold shapeT;rw[if_neg (by omega),if_pos h]
theorem sh4{c:Nd}{rs:List Tr}(h:c.kind=4):shapeT c rs=match rs with|x :: r=>some (.neg x :: r)|[]=>none:=by unfold shapeT;rw[if_neg (by omega),if_neg (by omega),if_pos h]
theorem sh5{c:Nd}{rs:List Tr}(h:c.kind=5):shapeT c rs=match rs with|y :: x :: r=>some (.and x y :: r)|_=>none:=by unfold shapeT;rw[if_neg (by omega),if_neg (by omega),if_neg (by omega),if_pos h]
theorem sh6{c:Nd}{rs:List Tr}(h:c.kind=6):shapeT c rs=match rs with|y :: x :: r=>some (.or x y :: r)|_=>none:=by unfold shapeT;rw[if_neg (by omega),if_neg (by omega),if_neg (by omega),if_neg (by omega),if_pos h]
theorem sh0{c:Nd}{rs:List Tr}(h:c.kind<1\/6<c.kind):shapeT c rs=none:=by unfold shapeT;rw[if_neg (by omega),if_neg (by omega),if_neg (by omega),if_neg (by omega),if_neg (by omega)]
theorem bld_end{e:List Nd}{rs:List Tr}(h:buildR e []=buildR [] rs):bldO e=oneT rs:=by
 have h2:buildR e []=some rs:=h.trans (by unfold buildR;rfl)
 unfold bldO
 rw[h2]
 rfl
set_option maxHeartbeats 16000000 in
theorem build_at(e:List Nd)(r1:List (List D))(hl:e.length<=2000000):FSpec Tryz.prog T 119 [.lst 219 (e.map nrow) r1] (fun d _=>d=bldD (bldO e)):=by
 have h1:(e.map nrow).length=e.length:=by simp
 refine FSpec.of_ok tok Tryz.func119 rfl Tryz.call119 (by simp) ?_
 (try (conv=>whnf));repeat' (first|refine Ok.seq ?_|(refine Ok.region tok ?_;conv=>whnf)|refine Ok.block ?_|fail)
 refine Ok.ghost 4 147 rfl ?_
 (conv=>whnf)
 refine Ok.loopU [9,10] [4,11] 1 0 (fun (x:Nat × Nat × List Tr × List Tr)=>[.own 0 x.2.1,.i .i64 (x.1:Nat)]) (fun _ b=>b) (fun (x:Nat × Nat × List Tr × List Tr) (_:Vx.Rows)=>[some (147,(x.2.2.1.reverse++x.2.2.2).map qrow)]) (fun (x:Nat × Nat × List Tr × List Tr)=>x.1<=e.length/\x.2.2.1.length=x.2.1/\x.2.1+x.2.2.2.length<=x.1/\buildR e []=buildR (e.drop x.1) x.2.2.1) (fun (x:Nat × Nat × List Tr × List Tr)=>e.length - x.1) ((0,0,[],[])) (⟨Nat.zero_le _,rfl,Nat.le_refl _,rfl⟩) ?_;(conv=>whnf);refine⟨by ((conv=>whnf);first|rfl|(simp[envCat,List.take_of_length_le,nrow,frow,tcells,qrow];done)|(simp[envCat,List.take_of_length_le,nrow,frow,tcells,qrow];rw[IntKind.wrap_i64];omega)),?_⟩
 rintro⟨i,n,rs,j⟩ ⟨hi,hn,hj,hb⟩
 dsimp only at hi hn hj hb ⊢
 have hlm:((rs.reverse++j).map qrow).length=n+j.length:=by simp[hn]
 (conv=>whnf)
 by_cases hil:i<e.length
 . obtain⟨c,hc⟩:∃ c,e[i]? = some c:=⟨_,List.getElem?_eq_getElem hil⟩
   have hcI:e[((i:Nat):Int).toNat]? = some c:=hc
   rw[edrop_at hc] at hb
   by_cases hz:c.kind ≠ 3/\¬ zT c.t
   . rw[bld_none hb (bad_z hz.1 hz.2)]
     have hz1:=hz.1
     have hz2:=hz.2
     (try (conv=>whnf));repeat' (first|((first|refine⟨_,eqTest,by kernel_rfl,?_⟩|refine⟨fun _=>?_,fun h=>absurd (Classical.not_not.1 h) hz2⟩);conv=>whnf)|refine Ok.seq ?_|((first|refine Ok.region tok ?_|refine Ok.cond ?_);conv=>whnf)|refine Ok.block ?_|((first|refine Ok.skip ?_|refine Ok.ret ?_|refine ix _ (by assumption) ?_);conv=>whnf)|(refine bI ?_ ?_<;>intro<;>(conv=>whnf)<;>(try (exfalso;omega)))|fail)
     all_goals first
      | (exfalso;omega)
      | (refine Or.inl ?_;(conv=>whnf)
         rfl)
   . have hst:=stepT_ok (rs:=rs) hz
     have hz3:c.kind=3\/zT c.t:=by
      by_cases h:c.kind=3
      . exact .inl h
      . exact .inr (Classical.byContradiction fun h2=>hz ⟨h,h2⟩)
     by_cases hk3:c.kind=3
     . have hb2:=bld_step hb (hst.trans (sh3 hk3))
       cases j with
       | nil=>
        simp only[List.length_nil,Nat.add_zero] at hj hlm
        (try (conv=>whnf));repeat' (first|(refine And.intro ⟨by kernel_rfl⟩ ?_;conv=>whnf)|refine Ok.seq ?_|((first|refine Ok.region tok ?_|refine Ok.cond ?_);conv=>whnf)|refine Ok.block ?_|((first|refine Ok.skip ?_|refine nI ?_|refine ix _ (by assumption) ?_|refine Alt2.l (aI ?_)|refine⟨_,.inl ⟨rfl,rfl⟩,?_⟩|refine⟨_,_,rfl,rfl,?_⟩);conv=>whnf)|(refine bI ?_ ?_<;>intro<;>(conv=>whnf)<;>(try (exfalso;omega)))|(refine aJ ?_;conv=>whnf)|fail)
        all_goals first
         | (exfalso;omega)
         | skip
        all_goals
         refine⟨(i+1,n+1,Tr.test c.t :: rs,[]),by dsimp only;omega,⟨by dsimp only;omega,by simp[hn],by simp;omega,hb2⟩,?_⟩
         rw[<- push_nil]
         (conv=>whnf)
         simp[envCat,hn]
         try exact⟨rfl,rfl⟩
       | cons y j=>
        simp only[List.length_cons] at hj hlm
        (try (conv=>whnf));repeat' (first|(refine And.intro ⟨by kernel_rfl⟩ ?_;conv=>whnf)|refine Ok.seq ?_|((first|refine Ok.region tok ?_|refine Ok.cond ?_);conv=>whnf)|refine Ok.block ?_|((first|refine Ok.skip ?_|refine nI ?_|refine ix _ (by assumption) ?_|refine Alt2.r (aI ?_)|refine⟨_,.inl ⟨rfl,rfl⟩,?_⟩|refine⟨_,_,rfl,rfl,?_⟩);conv=>whnf)|(refine bI ?_ ?_<;>intro<;>(conv=>whnf)<;>(try (exfalso;omega)))|((first|refine aJ ?_|refine⟨_,rfl,?_⟩);conv=>whnf)|fail)
        all_goals first
         | (exfalso;omega)
         | skip
        all_goals
         refine⟨(i+1,n+1,Tr.test c.t :: rs,j),by dsimp only;omega,⟨by dsimp only;omega,by simp[hn],by simp;omega,hb2⟩,?_⟩
         rw[<- push_cons rs _ y j,hn]
         (conv=>whnf)
         simp[envCat]
         try rfl
     have hz4:zT c.t:=hz3.resolve_left hk3
     by_cases hk1:c.kind=1\/c.kind=2
     . have hb2:=bld_step hb (hst.trans (sh12 hk1))
       cases j with
       | nil=>
        simp only[List.length_nil,Nat.add_zero] at hj hlm
        (try (conv=>whnf));repeat' (first|((first|refine⟨_,eqTest,by kernel_rfl,?_⟩|refine⟨fun h=>absurd hz4 h,fun _=>?_⟩|refine And.intro ⟨by kernel_rfl⟩ ?_);conv=>whnf)|refine Ok.seq ?_|((first|refine Ok.region tok ?_|refine Ok.cond ?_);conv=>whnf)|refine Ok.block ?_|((first|refine Ok.skip ?_|refine nI ?_|refine ix _ (by assumption) ?_|refine Alt2.l (aI ?_)|refine⟨_,.inl ⟨rfl,rfl⟩,?_⟩|refine⟨_,_,rfl,rfl,?_⟩);conv=>whnf)|(refine bI ?_ ?_<;>intro<;>(conv=>whnf)<;>(try (exfalso;omega)))|(refine aJ ?_;conv=>whnf)|fail)
        all_goals first
         | (exfalso;omega)
         | skip
        all_goals
         refine⟨(i+1,n+1,Tr.leaf (c.kind=1) :: rs,[]),by dsimp only;omega,⟨by dsimp only;omega,by simp[hn],by simp;omega,hb2⟩,?_⟩
         rw[<- push_nil]
         (conv=>whnf)
         simp[envCat,hn]
         try exact⟨rfl,rfl⟩
       | cons y j=>
        simp only[List.length_cons] at hj hlm
        (try (conv=>whnf));repeat' (first|((first|refine⟨_,eqTest,by kernel_rfl,?_⟩|refine⟨fun h=>absurd hz4 h,fun _=>?_⟩|refine And.intro ⟨by kernel_rfl⟩ ?_);conv=>whnf)|refine Ok.seq ?_|((first|refine Ok.region tok ?_|refine Ok.cond ?_);conv=>whnf)|refine Ok.block ?_|((first|refine Ok.skip ?_|refine nI ?_|refine ix _ (by assumption) ?_|refine Alt2.r (aI ?_)|refine⟨_,.inl ⟨rfl,rfl⟩,?_⟩|refine⟨_,_,rfl,rfl,?_⟩);conv=>whnf)|(refine bI ?_ ?_<;>intro<;>(conv=>whnf)<;>(try (exfalso;omega)))|((first|refine aJ ?_|refine⟨_,rfl,?_⟩);conv=>whnf)|fail)
        all_goals first
         | (exfalso;omega)
         | skip
        all_goals
         refine⟨(i+1,n+1,Tr.leaf (c.kind=1) :: rs,j),by dsimp only;omega,⟨by dsimp only;omega,by simp[hn],by simp;omega,hb2⟩,?_⟩
         rw[<- push_cons rs _ y j,hn]
         (conv=>whnf)
         simp[envCat]
         try rfl
     by_cases hk4:c.kind=4
     . match rs,hn with
       | [],hn=>
        simp only[List.length_nil] at hn
        subst hn
        rw[bld_none hb (hst.trans (sh4 hk4))]
        (try (conv=>whnf));repeat' (first|((first|refine⟨_,eqTest,by kernel_rfl,?_⟩|refine⟨fun h=>absurd hz4 h,fun _=>?_⟩);conv=>whnf)|refine Ok.seq ?_|((first|refine Ok.region tok ?_|refine Ok.cond ?_);conv=>whnf)|refine Ok.block ?_|((first|refine Ok.skip ?_|refine Ok.ret ?_|refine nI ?_|refine ix _ (by assumption) ?_);conv=>whnf)|(refine bI ?_ ?_<;>intro<;>(conv=>whnf)<;>(try (exfalso;omega)))|fail)
        all_goals first
         | (exfalso;omega)
         | (refine Or.inl ?_;(conv=>whnf)
            rfl)
       | x :: r,hn=>
        simp only[List.length_cons] at hn
        obtain⟨m,rfl⟩:∃ m,n=m+1:=⟨n - 1,by omega⟩
        have hm:r.length=m:=by omega
        have hb2:=bld_step hb (hst.trans (sh4 hk4))
        have hmI:(((m+1:Nat):Int) - 1).toNat=m:=by omega
        have hg1:((x :: r).reverse++j)[(((m+1:Nat):Int) - 1).toNat]? = some x:=by rw[hmI,<- hm];exact pile_top x r j
        (try (conv=>whnf));repeat' (first|((first|refine⟨_,eqTest,by kernel_rfl,?_⟩|refine⟨fun h=>absurd hz4 h,fun _=>?_⟩|refine And.intro ⟨by kernel_rfl⟩ ?_|refine rd rfl hg1 ?_|refine st (Tr.neg x) hg1 (by simp) rfl ?_);conv=>whnf)|refine Ok.seq ?_|((first|refine Ok.region tok ?_|refine Ok.cond ?_);conv=>whnf)|refine Ok.block ?_|((first|refine Ok.skip ?_|refine nI ?_|refine ix _ (by assumption) ?_);conv=>whnf)|(refine bI ?_ ?_<;>intro<;>(conv=>whnf)<;>(try (exfalso;omega)))|(refine aJ ?_;conv=>whnf)|fail)
        all_goals first
         | (exfalso;omega)
         | skip
        all_goals
         refine⟨(i+1,m+1,Tr.neg x :: r,j),by dsimp only;omega,⟨by dsimp only;omega,by simp[hm],by dsimp only;omega,hb2⟩,?_⟩
         rw[hmI,<- hm,set_top]
         (conv=>whnf)
         rfl
     by_cases hk5:c.kind=5
     . match rs,hn with
       | [],hn=>
        simp only[List.length_nil] at hn
        subst hn
        rw[bld_none hb (hst.trans (sh5 hk5))]
        (try (conv=>whnf));repeat' (first|((first|refine⟨_,eqTest,by kernel_rfl,?_⟩|refine⟨fun h=>absurd hz4 h,fun _=>?_⟩);conv=>whnf)|refine Ok.seq ?_|((first|refine Ok.region tok ?_|refine Ok.cond ?_);conv=>whnf)|refine Ok.block ?_|((first|refine Ok.skip ?_|refine Ok.ret ?_|refine nI ?_|refine ix _ (by assumption) ?_);conv=>whnf)|(refine bI ?_ ?_<;>intro<;>(conv=>whnf)<;>(try (exfalso;omega)))|fail)
        all_goals first
         | (exfalso;omega)
         | (refine Or.inl ?_;(conv=>whnf)
            rfl)
       | [y],hn=>
        simp only[List.length_cons,List.length_nil] at hn
        subst hn
        rw[bld_none hb (hst.trans (sh5 hk5))]
        (try (conv=>whnf));repeat' (first|((first|refine⟨_,eqTest,by kernel_rfl,?_⟩|refine⟨fun h=>absurd hz4 h,fun _=>?_⟩);conv=>whnf)|refine Ok.seq ?_|((first|refine Ok.region tok ?_|refine Ok.cond ?_);conv=>whnf)|refine Ok.block ?_|((first|refine Ok.skip ?_|refine Ok.ret ?_|refine nI ?_|refine ix _ (by assumption) ?_);conv=>whnf)|(refine bI ?_ ?_<;>intro<;>(conv=>whnf)<;>(try (exfalso;omega)))|fail)
        all_goals first
         | (exfalso;omega)
         | (refine Or.inl ?_;(conv=>whnf)
            rfl)
       | y :: x :: r,hn=>
        simp only[List.length_cons] at hn
        obtain⟨m,rfl⟩:∃ m,n=m+2:=⟨n - 2,by omega⟩
        have hm:r.length=m:=by omega
        have hb2:=bld_step hb (hst.trans (sh5 hk5))
        have hmI:(((m+2:Nat):Int) - 1).toNat=m+1:=by omega
        have hmJ:(((m+2:Nat):Int) - 1 - 1).toNat=m:=by omega
        have hg1:((y :: x :: r).reverse++j)[(((m+2:Nat):Int) - 1).toNat]? = some y:=by rw[hmI,<- hm];exact pile_top y (x :: r) j
        have hg2:((y :: x :: r).reverse++j)[(((m+2:Nat):Int) - 1 - 1).toNat]? = some x:=by rw[hmJ,<- hm];exact pile_top2 x y r j
        (try (conv=>whnf));repeat' (first|((first|refine⟨_,eqTest,by kernel_rfl,?_⟩|refine⟨fun h=>absurd hz4 h,fun _=>?_⟩|refine And.intro ⟨by kernel_rfl⟩ ?_|refine rd rfl hg1 ?_|refine rd rfl hg2 ?_|refine st (Tr.and x y) hg2 (by simp) rfl ?_);conv=>whnf)|(refine⟨m+1,rfl,(by show ((m+2:Nat):Int) - 1=((m+1:Nat):Int);omega),(by omega),?_⟩;conv=>whnf)|refine Ok.seq ?_|((first|refine Ok.region tok ?_|refine Ok.region_plan (id:=23) tok follows [(4,11,[]),(8,11,[]),(10,11,[])] [.q 0,.q 1,.q 2,.q 3,.q 4,.q 5,.q 6,.q 7,.q 8,.q 9,.l 10,.l 11] (by kernel_rfl) ?_|refine Ok.cond ?_);conv=>whnf)|refine Ok.block ?_|((first|refine Ok.skip ?_|refine nI ?_|refine ix _ (by assumption) ?_);conv=>whnf)|(refine bI ?_ ?_<;>intro<;>(conv=>whnf)<;>(try (exfalso;omega)))|(refine aJ ?_;conv=>whnf)|fail)
        all_goals first
         | (exfalso;omega)
         | skip
        all_goals
         refine⟨(i+1,m+1,Tr.and x y :: r,y :: j),by dsimp only;omega,⟨by dsimp only;omega,by simp[hm],by simp;omega,hb2⟩,?_⟩
         rw[hmJ,<- hm,set_top2]
         (conv=>whnf)
         rfl
     by_cases hk6:c.kind=6
     . match rs,hn with
       | [],hn=>
        simp only[List.length_nil] at hn
        subst hn
        rw[bld_none hb (hst.trans (sh6 hk6))]
        (try (conv=>whnf));repeat' (first|((first|refine⟨_,eqTest,by kernel_rfl,?_⟩|refine⟨fun h=>absurd hz4 h,fun _=>?_⟩);conv=>whnf)|refine Ok.seq ?_|((first|refine Ok.region tok ?_|refine Ok.cond ?_);conv=>whnf)|refine Ok.block ?_|((first|refine Ok.skip ?_|refine Ok.ret ?_|refine nI ?_|refine ix _ (by assumption) ?_);conv=>whnf)|(refine bI ?_ ?_<;>intro<;>(conv=>whnf)<;>(try (exfalso;omega)))|fail)
        all_goals first
         | (exfalso;omega)
         | (refine Or.inl ?_;(conv=>whnf)
            rfl)
       | [y],hn=>
        simp only[List.length_cons,List.length_nil] at hn
        subst hn
        rw[bld_none hb (hst.trans (sh6 hk6))]
        (try (conv=>whnf));repeat' (first|((first|refine⟨_,eqTest,by kernel_rfl,?_⟩|refine⟨fun h=>absurd hz4 h,fun _=>?_⟩);conv=>whnf)|refine Ok.seq ?_|((first|refine Ok.region tok ?_|refine Ok.cond ?_);conv=>whnf)|refine Ok.block ?_|((first|refine Ok.skip ?_|refine Ok.ret ?_|refine nI ?_|refine ix _ (by assumption) ?_);conv=>whnf)|(refine bI ?_ ?_<;>intro<;>(conv=>whnf)<;>(try (exfalso;omega)))|fail)
        all_goals first
         | (exfalso;omega)
         | (refine Or.inl ?_;(conv=>whnf)
            rfl)
       | y :: x :: r,hn=>
        simp only[List.length_cons] at hn
        obtain⟨m,rfl⟩:∃ m,n=m+2:=⟨n - 2,by omega⟩
        have hm:r.length=m:=by omega
        have hb2:=bld_step hb (hst.trans (sh6 hk6))
        have hmI:(((m+2:Nat):Int) - 1).toNat=m+1:=by omega
        have hmJ:(((m+2:Nat):Int) - 1 - 1).toNat=m:=by omega
        have hg1:((y :: x :: r).reverse++j)[(((m+2:Nat):Int) - 1).toNat]? = some y:=by rw[hmI,<- hm];exact pile_top y (x :: r) j
        have hg2:((y :: x :: r).reverse++j)[(((m+2:Nat):Int) - 1 - 1).toNat]? = some x:=by rw[hmJ,<- hm];exact pile_top2 x y r j
        (try (conv=>whnf));repeat' (first|((first|refine⟨_,eqTest,by kernel_rfl,?_⟩|refine⟨fun h=>absurd hz4 h,fun _=>?_⟩|refine And.intro ⟨by kernel_rfl⟩ ?_|refine rd rfl hg1 ?_|refine rd rfl hg2 ?_|refine st (Tr.or x y) hg2 (by simp) rfl ?_);conv=>whnf)|(refine⟨m+1,rfl,(by show ((m+2:Nat):Int) - 1=((m+1:Nat):Int);omega),(by omega),?_⟩;conv=>whnf)|refine Ok.seq ?_|((first|refine Ok.region tok ?_|refine Ok.region_plan (id:=23) tok follows [(4,11,[]),(8,11,[]),(10,11,[])] [.q 0,.q 1,.q 2,.q 3,.q 4,.q 5,.q 6,.q 7,.q 8,.q 9,.l 10,.l 11] (by kernel_rfl) ?_|refine Ok.cond ?_);conv=>whnf)|refine Ok.block ?_|((first|refine Ok.skip ?_|refine nI ?_|refine ix _ (by assumption) ?_);conv=>whnf)|(refine bI ?_ ?_<;>intro<;>(conv=>whnf)<;>(try (exfalso;omega)))|(refine aJ ?_;conv=>whnf)|fail)
        all_goals first
         | (exfalso;omega)
         | skip
        all_goals
         refine⟨(i+1,m+1,Tr.or x y :: r,y :: j),by dsimp only;omega,⟨by dsimp only;omega,by simp[hm],by simp;omega,hb2⟩,?_⟩
         rw[hmJ,<- hm,set_top2]
         (conv=>whnf)
         rfl
     rw[bld_none hb (hst.trans (sh0 (by omega)))]
     (try (conv=>whnf));repeat' (first|((first|refine⟨_,eqTest,by kernel_rfl,?_⟩|refine⟨fun h=>absurd hz4 h,fun _=>?_⟩);conv=>whnf)|refine Ok.seq ?_|((first|refine Ok.region tok ?_|refine Ok.cond ?_);conv=>whnf)|refine Ok.block ?_|((first|refine Ok.skip ?_|refine Ok.ret ?_|refine nI ?_|refine ix _ (by assumption) ?_);conv=>whnf)|(refine bI ?_ ?_<;>intro<;>(conv=>whnf)<;>(try (exfalso;omega)))|fail)
     all_goals first
      | (exfalso;omega)
      | (refine Or.inl ?_;(conv=>whnf)
         rfl)
 . have hie:i=e.length:=by omega
   subst hie
   rw[List.drop_length] at hb
   have hbe:=bld_end hb
   match rs,hn with
   | [],hn=>
    simp only[List.length_nil] at hn
    subst hn
    rw[hbe]
    (try (conv=>whnf));repeat' (first|refine Ok.seq ?_|((first|refine Ok.region tok ?_|refine Ok.cond ?_|refine Ok.exit ?_|refine Ok.ret ?_);conv=>whnf)|(refine bI ?_ ?_<;>intro<;>(conv=>whnf)<;>(try (exfalso;omega)))|fail)
    all_goals first
     | (exfalso;omega)
     | (refine Or.inl ?_;(conv=>whnf)
        rfl)
   | [x],hn=>
    simp only[List.length_cons,List.length_nil] at hn
    subst hn
    rw[hbe]
    have hg0:([x].reverse++j)[(0:Int).toNat]? = some x:=by simp
    (try (conv=>whnf));repeat' (first|(refine rd rfl hg0 ?_;conv=>whnf)|refine Ok.seq ?_|((first|refine Ok.region tok ?_|refine Ok.cond ?_|refine Ok.skip ?_|refine Ok.exit ?_|refine Ok.ret ?_);conv=>whnf)|(refine bI ?_ ?_<;>intro<;>(conv=>whnf)<;>(try (exfalso;omega)))|(refine aJ ?_;conv=>whnf)|fail)
    all_goals first
     | (exfalso;omega)
     | (refine Or.inl ?_;(conv=>whnf)
        rfl)
   | x :: y :: r,hn=>
    simp only[List.length_cons] at hn
    rw[hbe]
    (try (conv=>whnf));repeat' (first|refine Ok.seq ?_|((first|refine Ok.region tok ?_|refine Ok.cond ?_|refine Ok.exit ?_|refine Ok.ret ?_);conv=>whnf)|(refine bI ?_ ?_<;>intro<;>(conv=>whnf)<;>(try (exfalso;omega)))|fail)
    all_goals first
     | (exfalso;omega)
     | (refine Or.inl ?_;(conv=>whnf)
        rfl)
end Go.Proofs.YtcglkonooeddfaaGreatDoor
namespace Go.Proofs.YtcglkonooeddfaaGreatDoor
open Go Go.Vx Go.Shelf
def TxtOk(e:List Nd):Prop:=∀ c ∈ e,c.t.f.length<=1000000000000/\c.t.pat.length<=1000000000000
end Go.Proofs.YtcglkonooeddfaaGreatDoor
namespace Go.Proofs.YtcglkonooeddfaaGreatDoor
open Go Go.Vx Go.Shelf
open Classical in
/-- The error of a test over a layout. -/
noncomputable def errF(l:List Fd)(t:Tst):Int:=if findI t.f l 0<0 then 41 else match l[(findI t.f l 0).toNat]? with|some c=>errT t c.bits.toNat|none=>0
theorem errF_none{l:List Fd}{t:Tst}(h:findI t.f l 0=-1):errF l t=41:=by unfold errF;rw[if_pos (by omega)]
theorem errF_some{l:List Fd}{t:Tst}{k:Nat}{c:Fd}(h:findI t.f l 0=(k:Nat))(hc:l[k]? = some c):errF l t=errT t c.bits.toNat:=by
 unfold errF;rw[if_neg (by omega),h,Int.toNat_natCast,hc]
theorem find_cases(nm:Str)(l:List Fd):findI nm l 0=-1\/∃ (k:Nat) (c:Fd),findI nm l 0=(k:Nat)/\l[k]? = some c:=by
 obtain⟨_,h1,h2⟩:=findI_ge nm l 0
 by_cases h:findI nm l 0<0
 . exact .inl (by omega)
 . exact .inr ⟨(findI nm l 0).toNat,l[(findI nm l 0).toNat]'(by omega),by omega,List.getElem?_eq_getElem _⟩
end Go.Proofs.YtcglkonooeddfaaGreatDoor
namespace Go.Proofs.YtcglkonooeddfaaGreatDoor
open Go Go.Vx Go.Shelf
theorem xs_bits(n:Nat)(i:Nat):car (xsT n) i=false/\one (xsT n) i=false:=by
 by_cases h:i<n
 . have e:(xsT n)[i]? = some 120:=by simp[xsT,List.getElem?_replicate,h]
   rw[(at_b e).1,(at_b e).2]
   exact⟨rfl,rfl⟩
 . exact at_out (by simp[xsT];omega)
theorem xs_wof{f:Nat->Bool}(h:∀ i,f i=false)(k:Nat):wof f k=0#64:=BitVec.eq_of_getLsbD_eq fun i hi=>by rw[wof_get _ _ _ hi,h];simp
theorem crow_xs(n:Nat):crow (xsT n)=[.i .i64 n,.i .u64 0,.i .u64 0,.i .u64 0,.i .u64 0,.i .u64 0,.i .u64 0,.i .u64 0,.i .u64 0]:=by
 have h1:=xs_wof (fun i=>(xs_bits n i).1)
 have h2:=xs_wof (fun i=>(xs_bits n i).2)
 simp only[crow,cells9,h1,h2,xsT_len]
 rfl
end Go.Proofs.YtcglkonooeddfaaGreatDoor
