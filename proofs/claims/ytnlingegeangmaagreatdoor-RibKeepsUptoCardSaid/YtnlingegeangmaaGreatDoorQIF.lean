/- The walks and the plain laws that a law of networks needs, part 6 of 7. -/
import Derived.Test.YtnlingegeangmaaGreatDoorQIE
import Derived.Shelf.SlSortFuncK.WholeK
import Derived.Shelf.GgSortFunc.Tiny
import Derived.Ground.GgsProg
import Derived.Deep.QuietTactic
import Derived.Lib.RowBridge
import Derived.Lib.SortBridge
set_option linter.unusedVariables false
set_option linter.unusedSimpArgs false
set_option linter.unusedSectionVars false
set_option maxRecDepth 100000
set_option maxHeartbeats 16000000
namespace Go.Vx
open Go.RowKit
section
variable {P : Program} {T : Tab} {H M : aH} {B : aQ} {s : St} {Q : Exit → St → aH → aQ → Prop}
theorem OkB.fC{c:Code}{ι:Type}(L:List Nat)(k kb:Nat)(mk:ι->St)(mo:ι->aH)(bo:ι->aQ)(I:Exit->ι->Prop)
    (h1:OkB P T H c (fun e s' M' B'=>∃ x,I e x/\(mo x).Sublist M'/\(bo x).Sublist B'/\dN L k kb s' (·=mk x)) s M B)(h2:∀ e x,I e x->Q e (mk x) (mo x) (bo x)):OkB P T H c Q s M B:=by
 refine⟨fun w0 F V μ ω a w hS=>wp_mono (h1.run w0 F V μ ω a w hS) ?_⟩;rintro e a' w' ⟨s',V',μ',ω',M',B',⟨x,hI,hsb,hsc,hk⟩,hS'⟩;replace hS':=hS'.sub hsb hsc;obtain⟨s2,μ2,ω2,rfl,hS2⟩:=og hS'.m.sim hk;exact⟨_,V',μ2,ω2,_,_,h2 e x hI,hS'.of hS2⟩
theorem OkB.wS{c:Code}{ι:Type}(L Cs:List Nat)(k kb:Nat)(C:ι->List D)(B':ι->List (List D)->List (List D))(R:ι->Rows->Rows)(mo:ι->aH)(bo:ι->aQ)(I:Exit->ι->Prop)
    (h:dN L k kb s fun s0=>match s0 with
     | ⟨env,box,row,n⟩=>(OkB P T H c (fun e s' M' BB=>∃ x,I e x/\(mo x).Sublist M'/\(bo x).Sublist BB/\dN (je Cs L) k kb s' fun s1=>s1=⟨ak Cs (C x) env,B' x box,R x row,n⟩) s M B) /\
      ∀ e x,I e x->mg Cs (C x) env fun env'=>Q e ⟨env',B' x box,R x row,n⟩ (mo x) (bo x)):OkB P T H c Q s M B:=by
 obtain⟨⟨env,box,row,n⟩,h1,h2⟩:=sZ h;exact OkB.fC (je Cs L) k kb (fun x=>⟨ak Cs (C x) env,B' x box,R x row,n⟩) mo bo I h1 fun e x hx=>by
  have:=h2 e x hx;rwa [qJ] at this
theorem OkB.sub{c:Code}{M':aH}{B':aQ}(hs:M'.Sublist M)(hb:B'.Sublist B)(h:OkB P T H c Q s M' B'):OkB P T H c Q s M B:=⟨fun w0 F V μ ω a w hS=>h.run w0 F V μ ω a w (hS.sub hs hb)⟩
end
structure iJ(P:Program)(T:Tab)(f:FuncId)(ds:List D)(R:D->aH->aQ->Prop):Prop where
 call:∀ args w,(callFunc f args).run P w = .ok (.enter f args) w
 run:∀ (V:Vw) (w:World) (args:Array Value),VOk V w->args.size=ds.length->(∀ (j:Nat) v d,args[j]? = some v->ds[j]? = some d->RI (ah T) V v d) ->
  Calls P f args w fun e w'=>∃ V' v d M B,e = .returned v/\R d M B/\RS (ah T) V' [] [] v d/\Res (ah T) V V' [] [] w w'/\((∀ x ∈ M,w'.heap[x.1]? = some x.2/\noC x.2/\w.heap.size<=x.1)/\(M.map (·.1)).Nodup) /\
   (∀ x ∈ B,w'.heap[x.1]? = some x.2/\w.heap.size<=x.1/\(∀ p u,V' p=some u->p.block ≠ x.1)/\¬ noC x.2)/\(B.map (·.1)).Nodup
def LH(T:Tab)(fn:Func)(R:D->Prop)(s:St):Prop:=
 uM T s fn.results.toList fun ds=>mJ 8 s ds fun ds _=>pK T fn.resultTypes.toList ds fun es=>R (iE es)
def LJ(T:Tab)(fn:Func)(R:D->aH->aQ->Prop):Exit->St->aH->aQ->Prop
 | .normal,s,M,B=>LH T fn (fun d=>R d M B) s
 | .ret,s,M,B=>LH T fn (fun d=>R d M B) s
 | _,_,_,_=>False
theorem iJ.aB{P:Program}{T:Tab}(hT:TOk P T){f:FuncId}{fn:Func}{c:Code}(hf:P.funcs[f]? = some fn)(hb:fn.body=some c)(hcall:∀ args w,(callFunc f args).run P w = .ok (.enter f args) w){ds:List D}{R:D->aH->aQ->Prop}(hn:ds.length<=fn.ntmps)
    (h:OkB P T [] c (LJ T fn R) ⟨fO 0 ds,[],[],fn.ntmps⟩ [] []):iJ P T f ds R:=by
 refine⟨hcall,fun V w args hV hl hR=>uZ hf hb ?_⟩;refine wp_mono (h.run w ⟨V,fun _=>undef,[],[],[]⟩ V [] [] _ w ⟨⟨Ik hn hV hl hR,List.nodup_nil,sI⟩,List.nodup_nil⟩) ?_;rintro e a' w' ⟨s',V',μ',ω',M',B',hq,hS'⟩;have fin:LH T fn (fun d=>R d M' B') s'->LeavesInM Fence.wide 0 P fn a'.tmps (fun e w'=>∃ V' v d M B,e = .returned v/\R d M B/\RS (ah T) V' [] [] v d/\Res (ah T) V V' [] [] w w'/\((∀ x ∈ M,w'.heap[x.1]? = some x.2/\noC x.2/\w.heap.size<=x.1)/\(M.map (·.1)).Nodup) /\
     (∀ x ∈ B,w'.heap[x.1]? = some x.2/\w.heap.size<=x.1/\(∀ p u,V' p=some u->p.block ≠ x.1)/\¬ noC x.2)/\(B.map (·.1)).Nodup) a'.defers .returning w':=by
  intro hr;obtain⟨ms',e1,e2,e3,hS2⟩:=hS'.m.sim.shut;rw[e1];have e4:ms'.map mkD++[]=ms'.map mkD:=List.append_nil _;show LeavesInM _ _ _ _ _ _ (ms'.map mkD++[]) _ _;rw[e4];refine tZ sI ms' w' e2 e3 ?_;obtain⟨vs,ds',hk,hv,hrun⟩:=sW hT hS2 _ _ hr;refine⟨if h:vs.toArray.size=1 then vs.toArray[0] else .tuple vs.toArray,?_,?_⟩
  . rw[yc,Array.mapM_eq_mapM_toList]
    dsimp only at hrun;simp only[Sem.run_bind,Sem.run_map,hrun,Result.andThen_ok,Sem.run_pure]
  . obtain⟨V1,ds1,s1,hk,hv1,hS1,_⟩:=lW 8 hS2 hv hk
    obtain⟨es,hk,hes,hri⟩:=oW _ _ _ _ hv1 hk;refine⟨V1,_,_,M',B',rfl,hk,pz ⟨by rw[hv1.1,hes],fun j v d h1 h2=>.imm _ _ (hri j v d h1 h2)⟩,Res.wB hS1.mem (Pick.start _ _),⟨fun x hx=>hS2.defers.kept x (List.mem_append_left _ hx),by have h:=hS'.m.nodup;have e:(M'++([]:aH))=M':=List.append_nil _;rw[<- e];exact h⟩,
     fun x hx=>?_,by have h:=hS'.nd;have e:(B'++([]:aQ))=B':=List.append_nil _;rw[<- e];exact h⟩
    obtain⟨a1,b1,_,d1,e1⟩:=hS1.mem.away x (List.mem_append_left _ hx);exact⟨a1,b1,d1,e1⟩
 cases e<;>simp only[LJ] at hq
 . exact fin hq
 . exact fin hq
def Ue(P:Program)(T:Tab)(M:aH)(B:aQ)(s:St)(f:FuncId)(ts:List TypeId)(ds:List D)(K:D->St->aH->aQ->Prop):Prop:=
 mJ 8 s ds fun ds s=>pK T ts ds fun ds=>∃ R,iJ P T f ds R/\∀ d M' B',R d M' B'->K d s (M'++M) (B'++B)
section
variable {P : Program} {T : Tab} {H M : aH} {B : aQ} {s : St} {w0 w : World} {F : Fr} {V : Vw} {μ : List Nat} {ω : List Value} {a : Act}
theorem VX(hS:jf (ah T) w0 F V μ ω s a w H M B){dst:Option Nat}{type:TypeId}{pos:String}{after:Array Edge}{guard:Option (Nat × Bool)}{f:FuncId}{args:Array Operand}{argTypes:Array TypeId}{K:D->St->aH->aQ->Prop}
    (h:Ue P T M B s f argTypes.toList (s.gets args.toList) K)(next:Act->World->Prop)(Q:Exit->Act->World->Prop)
    (hn:∀ d v s V' μ' ω' M' B' w',K d s M' B'->RS (ah T) V' μ' ω' v d->jf (ah T) w0 F V' μ' ω' s a w' H M' B'->next (a.put dst v) w'):Oper.wp P ⟨dst,.call ⟨.value (.func f),args,argTypes⟩,type,pos,after,guard⟩ a w next Q:=by
 obtain⟨V1,ds1,s1,h,hv1,hS1,_⟩:=lW 8 hS.m.sim (hS.m.sim.gets _) h;obtain⟨es,⟨R,hf,h⟩,hes,hri⟩:=oW argTypes.toList ds1 _ _ hv1 h;obtain⟨env,box,row,n⟩:=s1;have eH:=hf.run V1 w (args.map a.eval) hS1.mem.vok (by have:=hv1.1;simp at this ⊢;omega) (fun j v d h1 h2=>hri j v d (by simpa using h1) h2);unfold Oper.wp;have hrun:(execOp a.eval ⟨dst,.call ⟨.value (.func f),args,argTypes⟩,type,pos,after,guard⟩).run P w = .ok (.enter f (args.map a.eval)) w:=by
  simp only[execOp,resolve,Act.eval,Deferred.ofValue,invoke,Sem.run_bind,Sem.run_pure,Result.andThen_ok];rw[show (#[]++args.map a.eval)++#[]=args.map a.eval by simp,hf.call]
 rw[hrun];show Calls P f (args.map a.eval) w _;refine eH.mono ?_;rintro e w'' ⟨V',v,d,M',B',rfl,hR,hrs,hres,⟨hM',hnd⟩,hB',hnb⟩;have hMm:=hS1.mem.call hres;simp only[List.append_nil] at hMm;have hk:=h d M' B' hR;have hx:Ext w w'':=hres.below;obtain⟨ms,d1,d2,d3⟩:=hS1.defers.marks;have hlt:∀ x ∈ M++F.kp,x.1<w.heap.size:=fun x hx=>(Array.getElem?_eq_some_iff.1 (hS.m.sim.defers.kept x hx).1).1
 have hlb:∀ x ∈ B++F.kc,x.1<w.heap.size:=fun x hx=>(Array.getElem?_eq_some_iff.1 (hS.m.sim.mem.away x hx).1).1
 have hbase:=hS.m.sim.mem.below.size;refine hn d v _ V' μ ω (M'++M) (B'++B) w'' hk (hrs.mono (VLe.refl V') (fun i u hu=>by simp at hu) (fun i u hu=>by simp at hu)) ⟨⟨⟨hS1.tmps,⟨⟨ms,d1,d2,fun D hD=>?_⟩,fun x hx'=>?_⟩,fun t=>(hS1.env t).mono hres.le (.refl μ) (.refl ω),?_⟩,?_,hS.m.old⟩,?_⟩
 . obtain⟨f1,f2,f3⟩:=d3 D hD
   refine⟨hx.heap f1,f2,fun x hx'=>?_⟩;have hx2:x ∈ M'++M++F.kp:=hx';rw[List.append_assoc] at hx2;rcases bQ.1 hx2 with hx2|hx2
   . have h1:=(hM' x hx2).2.2
     have h2:=(Array.getElem?_eq_some_iff.1 f1).1;omega
   . exact f3 x hx2
 . have hx2:x ∈ M'++M++F.kp:=hx'
   rw[List.append_assoc] at hx2;rcases bQ.1 hx2 with hx2|hx2
   . obtain⟨h1,h2,h3⟩:=hM' x hx2
     exact⟨h1,h2,Nat.le_trans hbase h3⟩
   . obtain⟨h1,h2,h3⟩:=hS.m.sim.defers.kept x hx2
     exact⟨hx.heap h1,h2,h3⟩
 . refine { hMm with away:=fun x hx'=>?_ }
   have hx2:x ∈ B'++B++F.kc:=hx';rw[List.append_assoc] at hx2;rcases bQ.1 hx2 with hx2|hx2
   . obtain⟨h1,h2,h3,h4⟩:=hB' x hx2
     refine⟨h1,Nat.le_trans hbase h2,fun l hl=>?_,h3,h4⟩;have:=(hS1.mem.new l _ hl).2;omega
   . exact hMm.away x hx2
 . rw[List.append_assoc,List.map_append]
   refine List.nodup_append.2 ⟨hnd,hS.m.nodup,fun x hx y hy e=>?_⟩;obtain⟨z,hz,rfl⟩:=List.mem_map.1 hx;obtain⟨z2,hz2,rfl⟩:=List.mem_map.1 hy;have h1:=(hM' z hz).2.2;have h2:=hlt z2 hz2;omega
 . rw[List.append_assoc,List.map_append]
   refine List.nodup_append.2 ⟨hnb,hS.nd,fun x hx y hy e=>?_⟩;obtain⟨z,hz,rfl⟩:=List.mem_map.1 hx;obtain⟨z2,hz2,rfl⟩:=List.mem_map.1 hy;have h1:=(hB' z hz).2.1;have h2:=hlb z2 hz2;omega
end
section
variable {P : Program} {T : Tab}
theorem bW.iK{s:St}{f:FuncId}{ts:List TypeId}{ds:List D}{K:D->St->Prop}(hc:∀ args w,(callFunc f args).run P w = .ok (.enter f args) w)(h:Et P T s f ts ds K):bW P T s f ds K:=by
 refine⟨hc,fun w0 V0 V μ ω a w vs hS hvl hvR=>?_⟩;obtain⟨es,⟨R,hf,h⟩,hes,hri⟩:=xY hS.mem ts ds vs _ hvl hvR h;have eH:=hf.run (fD w) w vs.toArray (.heap hS.mem.vok.gl (Ext.refl w)) (by simp[hes,hvl]) (fun j v d h1 h2=>hri j v d (by simpa using h1) h2);refine eH.mono ?_;rintro e w'' ⟨V',ω0,row0,v,d,rfl,hR,hrs,hres⟩;obtain⟨hg,hk⟩:=h d row0 hR;obtain⟨hd,hk⟩:=jv.1 hk;have hres2:=hres.less hS.mem.vok hg;have BZ:=hrs.vT (V':=fun p=>if p.block<w.heap.size then V p else V' p) hd;obtain⟨env,box,row,n⟩:=s;have hM:=hS.mem.call hres2;have hl:row.length=ω.length:=hS.mem.rl.symm;dsimp only at hk;rw[hl] at hk;obtain⟨d',hk,hr⟩:=sJ (μ:=μ) (ω':=ω++ω0) (VLe.refl _) (fun r u hu=>by rw[List.getElem?_append_right oA,Nat.add_sub_cancel];exact hu) BZ hk;rw[oz] at hk;exact⟨v,d',_,_,μ,ω++ω0,rfl,hk,hr,⟨hS.tmps,hS.defers.ext hres2.below,fun t=>(hS.env t).mono hres2.le (.refl μ) (.append _ _),hM⟩,hres2.le,.refl _,.append _ _,fun q v hq=>by rw[hres2.below.cell (World.block_lt_of_cell? _ _ hq)];exact hq⟩
theorem bW.rF{s:St}{f:FuncId}{r g n N c:Nat}{ds ds':List D}{K:D->St->Prop}(i t0:Nat)(hi:ds[i]? = some (.rsl g n c))(hd:ds'=ds.set i (.own r n))(ht:look s.env t0 = .tie r g N c)(hn:n<=N)(h:bW P T s f ds' K):bW P T s f ds K:=by
 subst hd;refine⟨h.call,fun w0 V0 V μ ω a w vs hS hvl hvR=>h.run w0 V0 V μ ω a w vs hS (by simpa using hvl) fun j v d h1 h2=>?_⟩;by_cases hj:i=j
 . subst hj
   rw[List.getElem?_set_self (aK.1 hi).1] at h2;cases h2;have hv:=hvR i v _ h1 hi;have h0:=hS.env t0;rw[ht] at h0;rw[hv.BR];exact .own r n _ N c h0.zi hn
 . rw[List.getElem?_set_ne hj] at h2
   exact hvR j v d h1 h2
end
section
variable {P : Program} {T : Tab}
theorem bW.uI{s:St}{f:FuncId}{ds ds':List D}{K:D->St->Prop}(i:Nat)(e:TypeId)(hi:ds[i]? = some .rnl)(hd:ds'=ds.set i (.lst e [] []))(h:bW P T s f ds' K):bW P T s f ds K:=by
 subst hd;refine⟨h.call,fun w0 V0 V μ ω a w vs hS hvl hvR=>h.run w0 V0 V μ ω a w vs hS (by simpa using hvl) fun j v d h1 h2=>?_⟩;by_cases hj:i=j
 . subst hj
   rw[List.getElem?_set_self (aK.1 hi).1] at h2;cases h2;have hv:=hvR i v _ h1 hi;rw[hv.BQ];exact .imm _ _ (Tf e)
 . rw[List.getElem?_set_ne hj] at h2
   exact hvR j v d h1 h2
end
def Uf(T:Tab)(fn:Func)(n:Nat)(K:D->St->aH->aQ->Prop):Exit->St->aH->aQ->Prop
 | .normal,s,M,B=>rV T fn n (fun d s=>K d s M B) s
 | .ret,s,M,B=>rV T fn n (fun d s=>K d s M B) s
 | _,_,_,_=>False
def UH(P:Program)(T:Tab)(H M:aH)(B:aQ)(s:St)(f:FuncId)(ds:List D)(K:D->St->aH->aQ->Prop):Prop:=
 ∃ fn c,P.funcs[f]? = some fn/\fn.body=some c/\(∀ args w,(callFunc f args).run P w = .ok (.enter f args) w) /\
  leB ds.length fn.ntmps (match s with|⟨env,box,row,n⟩=>shE fn.ntmps env fun env=>nU (fO 0 ds) env fun env=>OkB P T H c (Uf T fn n K) ⟨env,box,row,fn.ntmps⟩ M B)
section
variable {P : Program} {T : Tab} {H M : aH} {B : aQ} {s : St} {w0 w : World} {F : Fr} {V : Vw} {μ : List Nat} {ω : List Value} {a : Act}
theorem WX(hT:TOk P T)(hS:jf (ah T) w0 F V μ ω s a w H M B){f:FuncId}{ds:List D}{vs:List Value}{K:D->St->aH->aQ->Prop}(hv:iU (ah T) V μ ω vs ds)(h:UH P T H M B s f ds K) :
    (∀ args w,(callFunc f args).run P w = .ok (.enter f args) w)/\Calls P f vs.toArray w fun e w'=>∃ v d s' V' μ' ω' M' B',e = .returned v/\K d s' M' B'/\RS (ah T) V' μ' ω' v d/\jf (ah T) w0 F V' μ' ω' s' a w' H M' B':=by
 obtain⟨fn,c,hf,hb,hcall,h⟩:=h;refine⟨hcall,uZ hf hb ?_⟩;obtain⟨hn,h⟩:=ou.1 h;obtain⟨env,box,row,n⟩:=s;simp only[JK,oz] at h;obtain⟨ms,d1,d2,d3⟩:=hS.m.sim.defers.marks;have hkept:∀ x ∈ M++(F.kp++kE ms),w.heap[x.1]? = some x.2/\noC x.2/\w0.heap.size<=x.1:=by
  intro x hx;rw[<- List.append_assoc] at hx;rcases bQ.1 hx with hx|hx
  . exact hS.m.sim.defers.kept x hx
  . obtain⟨D,hD,rfl⟩:=List.mem_map.1 hx
    exact⟨(d3 D hD).1,(fun _ _ _ e=>by cases e),(d3 D hD).2.1⟩
 have hnd:((M++(F.kp++kE ms)).map (·.1)).Nodup:=by
  rw[<- List.append_assoc,List.map_append,Di];refine List.nodup_append.2 ⟨hS.m.nodup,d2,fun x hx y hy e=>?_⟩;obtain⟨z,hz,rfl⟩:=List.mem_map.1 hx;exact (d3 y hy).2.2 z hz e
 have hS':jf (ah T) w0 ⟨F.V,fun t=>fB (F.has B) n a (t - fn.ntmps),[],F.kp++kE ms,F.kc⟩ V μ ω ⟨fO 0 ds++env.map (fun x=>(x.1+fn.ntmps,x.2)),box,row,fn.ntmps⟩
     { tmps:=vs.toArray++Array.replicate (fn.ntmps - vs.toArray.size) undef,defers:=[] } w H M B:=by
  refine⟨⟨⟨by have:=hv.1;simp;omega,⟨⟨[],rfl,List.nodup_nil,sI⟩,hkept⟩,fun t=>?_,hS.m.sim.mem.fr rfl⟩,hnd,hS.m.old⟩,hS.nd⟩;show RS _ _ _ _ (fB _ fn.ntmps _ t) (look (fO 0 ds++env.map (fun x=>(x.1+fn.ntmps,x.2))) t);unfold fB;split
  . rename_i htn
    show RS _ _ _ _ ((vs.toArray++Array.replicate (fn.ntmps - vs.toArray.size) undef).getD t undef) _;by_cases ht:t<ds.length
    . rw[GH _ _ _ (Dy ds 0 t oA oA),yg,if_pos (Nat.zero_le _),Nat.sub_zero]
      have hta:t<vs.length:=by rw[hv.1];exact ht
      have hd:=aC ht;have ha:=aC hta;have:=hv.2 t _ _ ha hd;have e1:(vs.toArray++Array.replicate (fn.ntmps - vs.toArray.size) undef).getD t undef=vs[t]:=by
       have hv1:=hv.1;simp[Array.getD,hta];omega
      rw[e1];simp only[List.getD,hd,Option.getD_some];exact this
    . rw[xZ _ _ _ (fun x hx=>by have:=vG ds 0 x hx;omega),GN _ _ _ htn]
      exact .imm _ _ (.u _)
  . rename_i htn
    rw[xZ _ _ _ (fun x hx=>by have:=vG ds 0 x hx;omega)];have e2:t=(t - fn.ntmps)+fn.ntmps:=oA;rw[e2,Hu,<- e2];exact hS.m.sim.env (t - fn.ntmps)
 refine wp_mono (h.run w0 _ V μ ω _ w hS') ?_;rintro e a' w' ⟨s',V',μ',ω',M',B',hq,hS2⟩;have fin:rV T fn n (fun d s=>K d s M' B') s'->LeavesInM Fence.wide 0 P fn a'.tmps (fun e w'=>∃ v d s' V' μ' ω' M' B',e = .returned v/\K d s' M' B'/\RS (ah T) V' μ' ω' v d/\jf (ah T) w0 F V' μ' ω' s' a w' H M' B') a'.defers .returning w':=by
  intro hr;obtain⟨ms',e1,e2,e3,hS3⟩:=hS2.m.sim.shut;rw[e1];have e4:ms'.map mkD++[]=ms'.map mkD:=List.append_nil _;show LeavesInM _ _ _ _ _ _ (ms'.map mkD++[]) _ _;rw[e4];refine tZ sI ms' w' e2 e3 ?_;obtain⟨env',eU,row',m⟩:=s';obtain⟨hm,hr⟩:=jJ hr;obtain⟨us,ds',hk,hv',hrun⟩:=sW hT hS3 _ _ hr;refine⟨if h:us.toArray.size=1 then us.toArray[0] else .tuple us.toArray,?_,?_⟩
  . rw[yc,Array.mapM_eq_mapM_toList]
    dsimp only at hrun;simp only[Sem.run_bind,Sem.run_map,hrun,Result.andThen_ok,Sem.run_pure]
  . rw[JL] at hk
    have hkp:∀ x ∈ M'++(F.kp++kE ms),(shut ms' w').heap[x.1]? = some x.2/\noC x.2/\w0.heap.size<=x.1:=hS3.defers.kept;have CJ:((M'++(F.kp++kE ms)).map (·.1)).Nodup:=hS2.m.nodup;rw[<- List.append_assoc,List.map_append,Di] at CJ;obtain⟨n1,n2,n3⟩:=List.nodup_append.1 CJ;refine⟨_,_,_,V',μ',ω',M',B',rfl,hk,pz hv',⟨⟨hS.m.sim.tmps,⟨⟨ms,d1,d2,fun D hD=>?_⟩,fun x hx=>hkp x (by rw[<- List.append_assoc];exact List.mem_append_left _ hx)⟩,fun t=>?_,hS3.mem.fr rfl⟩,n1,hS.m.old⟩,hS2.nd⟩
    . obtain⟨k1,k2,k3⟩:=hkp (D,.deferred (some [])) (List.mem_append_right _ (List.mem_append_right _ (List.mem_map.2 ⟨D,hD,rfl⟩)))
      exact⟨k1,k3,fun x hx e=>n3 x.1 (List.mem_map.2 ⟨x,hx,rfl⟩) D hD e⟩
    have:=hS3.env (t+fn.ntmps);unfold fB at this;rw[if_neg (by show ¬ t+fn.ntmps<m;omega)] at this;show RS _ _ _ _ (fB F n a t) (look (rX fn.ntmps env') t);rw[Ig];have e3:t+fn.ntmps - fn.ntmps=t:=oA;have BF:RS (ah T) V' μ' ω' (fB F n a (t+fn.ntmps - fn.ntmps)) (look env' (t+fn.ntmps)):=this;rw[e3] at BF;exact BF
 cases e<;>simp only[Uf] at hq
 . exact fin hq
 . exact fin hq
def LK(P:Program)(T:Tab)(H M:aH)(B:aQ)(s:St)(o:Oper)(K:D->St->aH->aQ->Prop):Prop:=
 match o.op with
 | .call { callee:=.value (.func f),args,argTypes }=>xK P T H M s o (fun d s M=>K d s M B)\/Ue P T M B s f argTypes.toList (s.gets args.toList) K\/(gX (s.gets args.toList) fun ds=>UH P T H M B s f ds K)
 | .call { callee:=.value (.tmp t),args,argTypes:=_ }=>xK P T H M s o (fun d s M=>K d s M B)\/fnK (s.get (.tmp t)) fun f first cap=>gX (first++s.gets args.toList++cap) fun ds=>bW P T s f ds fun d s=>K d s M B
 | _=>xK P T H M s o fun d s M=>K d s M B
def BJ(P:Program)(T:Tab)(H:aH)(ops:List Oper):List Oper->St->aH->aQ->(St->aH->aQ->Prop)->Prop
 | [],s,M,B,K=>K s M B
 | o :: rest,s,M,B,K=>lC ops s o.guard
     (fun s=>LK P T H M B s o fun d s M B=>gy s o.dst d fun s=>BJ P T H ops rest s M B K)
     (fun s=>gy s o.dst (.tup []) fun s=>BJ P T H ops rest s M B K)
theorem WY(hT:TOk P T)(hS:jf (ah T) w0 F V μ ω s a w H M B){o:Oper}{K:D->St->aH->aQ->Prop}(h:LK P T H M B s o K)(next:Act->World->Prop)(Q:Exit->Act->World->Prop)
    (hn:∀ d v s V' μ' ω' M' B' w',K d s M' B'->RS (ah T) V' μ' ω' v d->jf (ah T) w0 F V' μ' ω' s a w' H M' B'->next (a.put o.dst v) w'):o.wp P a w next Q:=by
 have plain:xK P T H M s o (fun d s M=>K d s M B)->o.wp P a w next Q:=fun h=>
  N9 hT hS.m h next Q fun d v s V' μ' ω' M' w' hk hr hS'=>hn d v s V' μ' ω' M' B w' hk hr ⟨hS',hS.nd⟩
 unfold LK at h;split at h
 . rename_i f args argTypes heq
   rcases h with h|h|h
   . exact plain h
   . obtain⟨dst,op,type,pos,after,guard⟩:=o
     dsimp only at heq;subst heq;exact VX hS h next Q hn
   . obtain⟨dst,op,type,pos,after,guard⟩:=o
     dsimp only at heq;subst heq;rw[iQ] at h;have hg:=hS.m.sim.gets args.toList;obtain⟨hcall,eH⟩:=WX hT hS hg h;unfold Oper.wp;have hrun:(execOp a.eval ⟨dst,.call ⟨.value (.func f),args,argTypes⟩,type,pos,after,guard⟩).run P w = .ok (.enter f (args.toList.map a.eval).toArray) w:=by
      simp only[execOp,resolve,Act.eval,Deferred.ofValue,invoke,Sem.run_bind,Sem.run_pure,Result.andThen_ok];rw[hcall];congr 2;apply Array.ext';simp
     rw[hrun];show Calls P f _ w _;refine eH.mono ?_;rintro e w'' ⟨v,d,s',V',μ',ω',M',B',rfl,hk,hr,hS'⟩;exact hn d v s' V' μ' ω' M' B' w'' hk hr hS'
 . rename_i t args argTypes heq
   rcases h with h|h
   . exact plain h
   obtain⟨dst,op,type,pos,after,guard⟩:=o;dsimp only at heq;subst heq;obtain⟨f,first,cap,vs,us,hv,hs1,hs2,hr1,hr2,h⟩:=Dx (hS.m.sim.get (.tmp t)) h;rw[iQ] at h;have hg:=hS.m.sim.gets args.toList;have hl:(vs.toList++args.toList.map a.eval++us.toList).length=(first++s.gets args.toList++cap).length:=by have:=hg.1;simp at this ⊢;omega
   have eH:=h.run w0 _ V μ ω a w _ hS.m.sim hl (Gf (fun j v d h1 h2=>hr1 j v d (by simpa using h1) h2) hg.2 (fun j v d h1 h2=>hr2 j v d (by simpa using h1) h2) (by simpa using hs1) hg.1);unfold Oper.wp;have hrun:(execOp a.eval ⟨dst,.call ⟨.value (.tmp t),args,argTypes⟩,type,pos,after,guard⟩).run P w = .ok (.enter f (vs.toList++args.toList.map a.eval++us.toList).toArray) w:=by
    simp only[execOp,resolve,hv,Deferred.ofValue,invoke,Sem.run_bind,Sem.run_pure,Result.andThen_ok];rw[h.call];congr 2;apply Array.ext';simp
   rw[hrun];show Calls P f _ w _;refine eH.mono ?_;rintro e w'' ⟨v,d,s',V',μ',ω',rfl,hk,hr,hS',_⟩;exact hn d v s' V' μ' ω' M B w'' hk hr (hS.of hS')
 . exact plain h
theorem Hq(hT:TOk P T){ops:List Oper}{Q:Exit->Act->World->Prop}:∀ (rest:List Oper) (s:St) (M:aH) (B:aQ) (V:Vw) (μ:List Nat) (ω:List Value) (a:Act) (w:World) (K:St->aH->aQ->Prop),jf (ah T) w0 F V μ ω s a w H M B ->
    BJ P T H ops rest s M B K->(∀ s M B V μ ω a w,K s M B->jf (ah T) w0 F V μ ω s a w H M B->Q .normal a w)->wpList P ops.toArray Q rest a w
 | [],s,M,B,V,μ,ω,a,w,K,hS,h,hq=>hq s M B V μ ω a w h hS
 | o :: rest,s,M,B,V,μ,ω,a,w,K,hS,h,hq=>by
  simp only[BJ] at h;unfold wpList;rcases mY hS.m.sim h with⟨hw,s1,h,hS1⟩|⟨hw,s1,h,hS1⟩
  . rw[if_pos hw]
    refine .inl (WY hT (hS.of hS1) h _ _ fun d v s2 V2 μ2 ω2 M2 B2 w2 hk hr hS2=>?_);obtain⟨s3,h,hS3⟩:=gV hS2.m.sim hr hk;exact Hq hT rest s3 M2 B2 _ _ _ _ _ K (hS2.of hS3) h hq
  . rw[if_neg (by rw[hw];simp)]
    obtain⟨s3,h,hS3⟩:=gV hS1 (v:=undef) (d:=.tup []) (RS.tup [] #[] rfl (fun j v d h=>by simp at h)) h;exact Hq hT rest s3 M B _ _ _ _ _ K (hS.of hS3) h hq
theorem OkB.region(hT:TOk P T){Q:Exit->St->aH->aQ->Prop}{id:Nat}{l:List Oper}(h:BJ P T H l l s M B (Q .normal)):OkB P T H (.region id l.toArray false) Q s M B:=by
 refine⟨fun w0 F V μ ω a w hS=>?_⟩;refine wp_region_lit ?_;exact Hq hT l s M B V μ ω a w _ hS h fun s' M' B' V' μ' ω' a' w' hk hS'=>⟨s',V',μ',ω',M',B',hk,hS'⟩
theorem aF.abG(hT:TOk P T){f:FuncId}{fn:Func}{c:Code}(hf:P.funcs[f]? = some fn)(hb:fn.body=some c)(hcall:∀ args w,(callFunc f args).run P w = .ok (.enter f args) w){ds:List D}{R:D->Rows->Prop}(hn:ds.length<=fn.ntmps)
    (h:OkB P T [] c (fun e s _ _=>Cb T fn R e s) ⟨fO 0 ds,[],[],fn.ntmps⟩ [] []):aF P T f ds R:=
 .of_run hT hf hb hcall hn fun w V a hS=>wp_mono (h.run w ⟨V,fun _=>undef,[],[],[]⟩ V [] [] a w ⟨⟨hS,List.nodup_nil,sI⟩,List.nodup_nil⟩) fun _ _ _ ⟨s',V',μ',ω',M',B',hq,hS'⟩=>
  have h2:=hS'.sub (List.nil_sublist M') (List.nil_sublist B')
  ⟨s',V',μ',ω',hq,h2.m.sim.tmps,⟨h2.m.sim.defers.marks,h2.m.sim.defers.kept⟩,h2.m.sim.env,h2.m.sim.mem.fr rfl fun x hx=>by cases hx⟩
end
end Go.Vx
namespace Go.Proofs.YtnlingegeangmaaGreatDoor
open Go Go.Vx
abbrev Key:=Int × Int
structure Hd where
 g:Nat
 n:Nat
 c:Nat
 o:Obj
def Hd.p(h:Hd):Nat × Obj:=(h.g,h.o)
def hdD:Option Hd->D
 | none=>.rnl
 | some h=>.rsl h.g h.n h.c
def cel(h:Option Hd):List D:=[hdD h]
def obD:Obj:=.cells #[] 0 (0,0)
def bt(hs:List (Option Hd)):aQ:=hs.filterMap fun h=>h.map Hd.p
theorem QU(n:Nat):bt (List.replicate n none)=[]:=by
 unfold bt;rw[List.filterMap_eq_nil_iff];intro a ha;rw[List.eq_of_mem_replicate ha];rfl
theorem uj{hs:List (Option Hd)}{i:Nat}{h:Hd}:i<hs.length->(h.p :: bt (hs.set i none)).Perm (bt (hs.set i (some h))):=by
 induction hs generalizing i with
 | nil=>intro hi;cases hi
 | cons x hs ih=>
  intro hi
  cases i with
  | zero=>simp[bt]
  | succ i=>
   have:=ih (i:=i) (by simpa using hi)
   cases x with
   | none=>simpa[bt] using this
   | some x=>exact (List.Perm.swap x.p h.p _).trans (by simpa[bt] using this.cons x.p)
theorem zV{α:Type}:∀ {l:List α} {i:Nat} {x:α},l[i]? = some x->l.set i x=l
 | _ :: _,0,_,h=>by simp at h;simp[h]
 | _ :: l,i+1,_,h=>by simp at h;simp[zV h]
theorem Fv{hs:List (Option Hd)}{i:Nat}{h:Hd}(hh:hs[i]? = some (some h)):(bt hs).Perm (h.p :: bt (hs.set i none)):=by
 have:=(uj (h:=h) (aK.1 hh).1).symm;rwa [zV hh] at this
theorem Ed{hs:List (Option Hd)}{i:Nat}(hh:hs[i]? = some none)(h:Hd):(h.p :: bt hs).Perm (bt (hs.set i (some h))):=by
 have:=uj (h:=h) (aK.1 hh).1;rwa [zV hh] at this
theorem abH(X:aQ){hs:List (Option Hd)}{i:Nat}{h:Hd}(hh:hs[i]? = some (some h)):(X++bt hs).Perm (h.p :: (X++bt (hs.set i none))):=((Fv hh).append_left X).trans List.perm_middle
theorem Ug(X:aQ){hs:List (Option Hd)}{i:Nat}(h:Hd)(hi:i<hs.length):(h.p :: (X++bt (hs.set i none))).Perm (X++bt (hs.set i (some h))):=List.perm_middle.symm.trans ((uj hi).append_left X)
theorem abI(X:aQ){hs:List (Option Hd)}{i:Nat}(hh:hs[i]? = some none)(h:Hd):(h.p :: (X++bt hs)).Perm (X++bt (hs.set i (some h))):=List.perm_middle.symm.trans ((Ed hh h).append_left X)
theorem oD(hs:List (Option Hd))(i g n c:Nat)(o o':Obj):(hs.set i (some ⟨g,n,c,o⟩)).map cel=(hs.set i (some ⟨g,n,c,o'⟩)).map cel:=by
 simp[List.map_set,cel,hdD]
def fK(e:TypeId){α:Type}(f:α->List D)(hs:List (Option Hd))(L:List (List α)):Prop:=
 hs.length=L.length/\∀ (i:Nat) h l,hs[i]? = some h->L[i]? = some l->match h with
  | none=>l=[]
  | some h=>fP (ah T) e h.n h.c (l.map f) h.o
theorem fK.set{e:TypeId}{α:Type}{f:α->List D}{hs:List (Option Hd)}{L:List (List α)}(h:fK e f hs L){i:Nat}{x:Hd}{l:List α}(hb:fP (ah T) e x.n x.c (l.map f) x.o):fK e f (hs.set i (some x)) (L.set i l):=by
 refine⟨by simp[h.1],fun j y m h1 h2=>?_⟩;by_cases hj:i=j
 . subst hj
   have hi:i<hs.length:=by have:=(aK.1 h1).1;simpa using this
   rw[List.getElem?_set_self hi] at h1;rw[List.getElem?_set_self (by rw[<- h.1];exact hi)] at h2;cases h1;cases h2;exact hb
 . rw[List.getElem?_set_ne hj] at h1 h2
   exact h.2 j y m h1 h2
theorem fK.start{e:TypeId}{α:Type}{f:α->List D}(n:Nat):fK e f (List.replicate n none) (List.replicate n []):=
 ⟨sI,fun i h l h1 h2=>by
  rw[List.getElem?_replicate] at h1 h2;split at h1
  . split at h2
    . cases h1;cases h2;trivial
    . cases h1;contradiction
  . cases h1⟩
theorem vY{e:TypeId}{n c:Nat}{xs:List (List D)}{o:Obj}(h:fP (ah T) e n c xs o):n=xs.length/\n<=c:=by
 obtain⟨_,_,_,h1,h2,_⟩:=h;exact⟨h1,h2⟩
section
variable {κ : Type} [DecidableEq κ]
def fS:Option (Option Hd)->D
 | some (some h)=>.rsl h.g h.n h.c
 | _=>.rnl
def bo(l:List (κ × Option Hd × Nat)):aQ:=l.filterMap fun e=>e.2.1.map Hd.p
theorem Sj(e:κ × Option Hd × Nat)(l:List (κ × Option Hd × Nat)):bo (e :: l)=(match e.2.1 with|some h=>[h.p]|none=>[])++bo l:=by
 unfold bo;rw[List.filterMap_cons];cases e.2.1<;>rfl
theorem Jd:∀ {l:List (κ × Option Hd × Nat)} {i:Nat} {k:κ} {h:Hd} {n:Nat},l[i]? = some (k,some h,n)->(bo l).Perm (h.p :: bo (l.eraseIdx i))
 | [],i,_,_,_,h=>by simp at h
 | e :: l,0,_,_,_,h=>by simp at h;subst h;simp[bo]
 | e :: l,i+1,_,h,_,hh=>by
  have:=Jd (l:=l) (i:=i) (by simpa using hh);rw[List.eraseIdx_cons_succ,Sj,Sj];refine (this.append_left _).trans ?_
  cases e.2.1 with
  | none=>exact .refl _
  | some x=>exact .swap _ _ _
theorem MO{α:Type}(g:α->α):∀ (l:List α) (i:Nat),(l.modify i g).eraseIdx i=l.eraseIdx i
 | [],_=>by simp
 | _ :: _,0=>by simp
 | x :: l,i+1=>by simp[List.eraseIdx_cons_succ,MO g l i]
theorem TF{l:List (κ × Option Hd × Nat)}{k:κ}{h:Hd}(hh:lk l k=some (some h)):(bo l).Perm (h.p :: bo (lT l k)):=by
 unfold lk at hh;unfold lT
 cases hm:dB k l 0 with
 | none=>rw[hm] at hh;cases hh
 | some x=>
  obtain⟨i,a⟩:=x;rw[hm] at hh;simp at hh;subst hh;obtain⟨_,n,hn⟩:=Aw hm;simpa using Jd hn
theorem F8(l:List (κ × Option Hd × Nat))(c:Nat)(k:κ)(h:Hd):(h.p :: bo (lT l k)).Perm (bo (aX l c k (some h)).1):=by
 unfold lT aX
 cases hm:dB k l 0 with
 | none=>
  simp only[bo,List.filterMap_append];exact (List.perm_append_comm (l₁:=[h.p])).trans sI
 | some x=>
  obtain⟨i,a⟩:=x;obtain⟨_,n,hn⟩:=Aw hm;dsimp only;have h1:(l.modify i fun e=>(e.1,some h,e.2.2))[i]? = some (k,some h,n):=by
   rw[List.getElem?_modify];simp at hn;simp[hn]
  have h2:=Jd h1;rw[MO] at h2;exact h2.symm
theorem Ya{l:List (κ × Option Hd × Nat)}{k:κ}(h:lk l k=none):lT l k=l:=by
 unfold lk at h;unfold lT
 cases hm:dB k l 0 with
 | none=>rfl
 | some x=>rw[hm] at h;cases h
theorem JD(kd:κ->D)(l:List (κ × Option Hd × Nat))(cl:Nat)(k:κ)(g n c:Nat)(o o':Obj) :
    bG kd fS (aX l cl k (some ⟨g,n,c,o⟩)).1 (aX l cl k (some ⟨g,n,c,o⟩)).2=bG kd fS (aX l cl k (some ⟨g,n,c,o'⟩)).1 (aX l cl k (some ⟨g,n,c,o'⟩)).2:=by
 unfold aX bG
 cases hm:dB k l 0 with
 | none=>simp[dX,fS]
 | some x=>
  obtain⟨i,a⟩:=x;dsimp only;congr 2;apply List.ext_getElem?;intro j;simp only[aN,List.getElem?_modify];split<;>cases l[j]?<;>simp[dX,fS]
theorem Zl(kd:κ->D){l:List (κ × Option Hd × Nat)}(cl:Nat){k:κ}{h:Hd}(hl:lk l k=some (some h))(o':Obj) :
    bG kd fS (aX l cl k (some ⟨h.g,h.n,h.c,o'⟩)).1 (aX l cl k (some ⟨h.g,h.n,h.c,o'⟩)).2=bG kd fS l cl:=by
 unfold lk at hl;unfold aX bG
 cases hm:dB k l 0 with
 | none=>rw[hm] at hl;cases hl
 | some x=>
  obtain⟨i,a⟩:=x;rw[hm] at hl;simp at hl;subst hl;obtain⟨_,n,hn⟩:=Aw hm;dsimp only;congr 2;apply List.ext_getElem?;intro j;simp only[aN,List.getElem?_modify];by_cases hj:i=j
  . subst hj
    simp at hn;simp[hn,dX,fS]
  . cases l[j]?<;>simp[hj]
end
end Go.Proofs.YtnlingegeangmaaGreatDoor
namespace Go.Vx
open Go.RowKit Go.Proofs Go.Sort
structure SortG(P:Program)(f ty:Nat)(k g:Nat){κ:Type}(kv:List Value->κ->Prop)(le:κ->κ->Prop):Prop where
 call:∀ args w,(callFunc f args).run P w = .ok (.enter f args) w
 UJ:P.concrete ty=true
 big:∀ (α:Type) [Inhabited α] (enc:α->List Value) (key:α->κ),(∀ x,(enc x).length=k)->(∀ x,∀ v ∈ enc x,v.oneCell'=true)->(∀ x,kv (enc x) (key x)) ->
  ∀ (blk c Bs:Nat) (d:Array α),2<=d.size->d.size<4611686018427387904->∀ w,HoldsK enc k w blk 0 d->blk<w.heap.size->w.cell? ⟨Bs,0,none⟩=some (.slice (some ⟨blk,0,none⟩) d.size c)->Bs<w.heap.size->Bs ≠ blk ->
  Calls P f #[.iface ty (.slice (some ⟨blk,0,none⟩) d.size c),.func (.func g) #[] #[.pointer (some ⟨Bs,0,none⟩)]] w fun e w'=>
   e = .returned (.tuple #[])/\∃ d' n os,PermIn 0 d.size d d'/\(∀ (i j:Nat),i<j->j<d.size->le (key d'[i]!) (key d'[j]!))/\w'=grow (putRowK enc k (Sort.ahead w n) blk 0 d') os
 tiny:∀ p n c lb w,n<=1->Calls P f #[.iface ty (.slice p n c),.func (.func g) #[] lb] w fun e w'=>e = .returned (.tuple #[])/\∃ os,w'=grow w os
def jZ(sz:TypeId->Nat)(V:Vw)(k:Nat){κ:Type}(rd:List D->κ->Prop):Type:=
 { p:List Value × List D // p.1.length=k/\p.2.length=k/\(∀ v ∈ p.1,v.oneCell'=true)/\(∀ (j:Nat) v d,p.1[j]? = some v->p.2[j]? = some d->RI sz V v d)/\∃ l,rd p.2 l }
noncomputable def jZ.key{sz:TypeId->Nat}{V:Vw}{k:Nat}{κ:Type}{rd:List D->κ->Prop}(x:jZ sz V k rd):κ:=Classical.choose x.2.2.2.2.2
section
variable {P : Program} {T : Tab} {Q : Exit → St → Prop}
theorem Ok.ace(hT:TOk P T){id:Nat}{t1 t2 t3 t4 p:Nat}{f ty g k i r m:Nat}{κ:Type}{kv:List Value->κ->Prop}{le:κ->κ->Prop}{rd:List D->κ->Prop}{e:TypeId}{xs:List (List D)}{env:List (Nat × D)}{box:List (List D)}{row:Rows}{n:Nat}
    {y1 y2 y3 y4:TypeId}{p1 p2 p3 p4:String}{a1 a2 a3 a4:Array Edge}{tys:Array TypeId}(hC:SortG P f ty k g kv le)
    (hload:qop P T ⟨env,box,row,n⟩ ⟨some t1,.load ty (.tmp p),y1,p1,a1,none⟩ (fun d s'=>d = .own r m/\s'=⟨env,box,row,n⟩))
    (hp:look env p = .bp i 0)(hb:box[i]? = some [.own r m])(hr:row[r]? = some (some (e,xs)))(hm:m<=xs.length)(hk:ah T e=k)
    (hn:p<n/\t1<n/\t2<n/\t3<n/\t4<n)(hd:t1 ≠ p/\t2 ≠ p/\t2 ≠ t3/\t3 ≠ t2)
    (hpos:0<k)(hrd:∀ {V:Vw} (vs:List Value) (ds:List D) l,vs.length=k->ds.length=k->(∀ (j:Nat) v d,vs[j]? = some v->ds[j]? = some d->RI (ah T) V v d)->rd ds l->kv vs l)(hkeys:∀ x ∈ xs.take m,∃ l,rd x l)(hm2:m<4611686018427387904)
    (h:∀ ys,ys.Perm (xs.take m)->(∀ (i j:Nat) yi yj,i<j->ys[i]? = some yi->ys[j]? = some yj->∃ a b,rd yi a/\rd yj b/\le a b)->Q .normal ⟨(t4,.u) :: (t3,.u) :: (t2,.u) :: (t1,.u) :: env,box,row.set r (some (e,ys++xs.drop m)),n⟩)(he:e<BIG:=by decide) :
    Ok P T (.region id #[⟨some t1,.load ty (.tmp p),y1,p1,a1,none⟩,⟨some t2,.makeInterface ty (.tmp t1),y2,p2,a2,none⟩,⟨some t3,.makeFunc (.func g) #[] #[.tmp p],y3,p3,a3,none⟩,
     ⟨some t4,.call ⟨.value (.func f),#[.tmp t2,.tmp t3],tys⟩,y4,p4,a4,none⟩] false) Q ⟨env,box,row,n⟩:=by
 refine⟨fun w0 V0 V μ ω a w hS=>wp_region_lit ?_⟩;obtain⟨hpn,hn1,hn2,hn3,hn4⟩:=hn;obtain⟨hd1,hd2,hd3,hd4⟩:=hd;unfold wpList;rw[if_pos (by simp[Region.wanted])];left;refine (Vok.ng (E:=.none) hT hS hload) _ _ ?_;clear hS;rintro _ v1 _ V μ ω w ⟨rfl,rfl⟩ hv1 hS _;have rp:=hS.slot hpn;rw[hp] at rp;obtain⟨g1,hg1,hpv⟩:=rp.bp_;have hsz:a.tmps.size=n:=hS.tmps;obtain⟨A,N,c,hω,hnN,rfl⟩:=hv1.jd;show wpList P _ _ [_,_,_] (a.put (some t1) _) w;unfold wpList;rw[if_pos (by simp[Region.wanted])];left;unfold Oper.wp;have r2:(execOp (a.put (some t1) (.slice A m c)).eval ⟨some t2,.makeInterface ty (.tmp t1),y2,p2,a2,none⟩).run P w = .ok (.value (.iface ty (.slice A m c))) w:=by
  simp only[execOp,IV (a:=a) (t:=t1) (v:=.slice A m c) oA,Sem.run_bind,run_makeInterface w ty _ hC.UJ,Result.andThen_ok,Sem.run_pure]
 rw[r2];show wpList P _ _ [_,_] ((a.put (some t1) _).put (some t2) _) w;unfold wpList;rw[if_pos (by simp[Region.wanted])];left;unfold Oper.wp;have hpe:((a.put (some t1) (.slice A m c)).put (some t2) (.iface ty (.slice A m c))).eval (.tmp p) = .pointer (some ⟨g1,0,none⟩):=by
  rw[Il hd2,Il hd1];exact hpv
 have r3:(execOp ((a.put (some t1) (.slice A m c)).put (some t2) (.iface ty (.slice A m c))).eval ⟨some t3,.makeFunc (.func g) #[] #[.tmp p],y3,p3,a3,none⟩).run P w = .ok (.value (.func (.func g) #[] #[.pointer (some ⟨g1,0,none⟩)])) w:=by
  simp only[execOp,Instr.makeFunc,Sem.run_bind,Sem.run_pure,Result.andThen_ok,List.map_toArray,List.map_cons,List.map_nil,hpe]
 rw[r3];show wpList P _ _ [_] (((a.put (some t1) _).put (some t2) _).put (some t3) _) w;generalize hA3:((a.put (some t1) (.slice A m c)).put (some t2) (.iface ty (.slice A m c))).put (some t3) (.func (.func g) #[] #[.pointer (some ⟨g1,0,none⟩)])=a3';have hs3:a3'.tmps.size=n:=by rw[<- hA3,yD,yD,yD,hsz]
 have e2:a3'.eval (.tmp t2) = .iface ty (.slice A m c):=by rw[<- hA3,Il hd4,IV (by rw[yD];omega)]
 have e3:a3'.eval (.tmp t3) = .func (.func g) #[] #[.pointer (some ⟨g1,0,none⟩)]:=by rw[<- hA3,IV (by rw[yD,yD];omega)]
 have hS3:Sim (ah T) w0 V0 V μ ω ⟨(t3,.u) :: (t2,.u) :: (t1,.u) :: env,box,row,n⟩ a3' w:=by
  rw[<- hA3];exact ((hS.put hn1 (.imm _ _ (.u _))).put hn2 (.imm _ _ (.u _))).put hn3 (.imm _ _ (.u _))
 unfold wpList;rw[if_pos (by simp[Region.wanted])];left;unfold Oper.wp;have r4:(execOp a3'.eval ⟨some t4,.call ⟨.value (.func f),#[.tmp t2,.tmp t3],tys⟩,y4,p4,a4,none⟩).run P w = .ok (.enter f #[.iface ty (.slice A m c),.func (.func g) #[] #[.pointer (some ⟨g1,0,none⟩)]]) w:=by
  simp only[execOp,resolve,Act.eval,Deferred.ofValue,invoke,Sem.run_bind,Sem.run_pure,Result.andThen_ok,List.map_toArray,List.map_cons,List.map_nil] at e2 e3 ⊢;rw[e2,e3,hC.call];rfl
 rw[r4];show Calls P f _ w _;have fin:∀ (w':World) (ys:List (List D)),(∀ ds,gY w0 V0 ds w->gY w0 V0 ds w')->ys.Perm (xs.take m)->(∀ (i j:Nat) yi yj,i<j->ys[i]? = some yi->ys[j]? = some yj->∃ a b,rd yi a/\rd yj b/\le a b)->Mem (ah T) w0 V0 V μ ω box (row.set r (some (e,ys++xs.drop m))) w' ->
     ∃ s' V' μ' ω',Q .normal s'/\Sim (ah T) w0 V0 V' μ' ω' s' (a3'.put (some t4) (.tuple #[])) w':=fun w' ys hx h1 h2 hM=>
  let hP:=hS3.put (v:=.tuple #[]) hn4 (.imm _ _ (.u _))
  ⟨_,V,μ,ω,h ys h1 h2,Sim.mk hP.tmps (hx _ hP.defers) hP.env hM⟩
 by_cases hm1:m<=1
 . refine (hC.tiny A m c _ w hm1).mono ?_
   rintro e' w' ⟨rfl,os,rfl⟩;have hrl:r<row.length:=(aK.1 hr).1;have hEx:Ext w (grow w os):=⟨rfl,rfl,rfl,by show w.heap.size<=(w.heap++os).size;simp,fun j hj=>by show (w.heap++os)[j]? = _;rw[Array.getElem?_append_left hj]⟩;refine fin _ (xs.take m) (fun ds h=>h.ext hEx) (.refl _) (fun i j yi yj hij _ h2=>by have:=(aK.1 h2).1;simp at this;omega) ?_
   . rw[List.take_append_drop]
     have hrow:row.set r (some (e,xs))=row:=by
      apply List.ext_getElem?;intro q;by_cases hq:q=r
      . subst hq;rw[List.getElem?_set_self hrl,hr]
      . rw[List.getElem?_set_ne (Ne.symm hq)]
     rw[hrow];exact hS.mem.ext hEx
 . have acR:2<=m:=oA
   obtain⟨A2,c2,vals,e1,hc,hmx,hA,hA2,hown,hR⟩:=hS.mem.vJ he hω hr;cases e1;subst hk;obtain⟨blk,hblk⟩:∃ blk,A=some ⟨blk,0,none⟩:=by
    rcases hown.2 with⟨q,q2⟩|⟨g',cap,cur,q,_⟩
    . omega
    . cases q;exact⟨g',rfl⟩
   subst hblk;have hvl:vals.length=xs.length*ah T e:=hown.1;have hF:∀ i:Fin m,∃ x:jZ (ah T) V (ah T e) rd,xs[i.1]? = some x.1.2/\∀ j,j<ah T e->x.1.1[j]? = vals[i.1*ah T e+j]?:=by
    intro i;have hi:i.1<xs.length:=oA;have hx:=aC hi;have hle:(i.1+1)*ah T e<=xs.length*ah T e:=Nat.mul_le_mul_right _ hi;rw[Nat.add_mul,Nat.one_mul] at hle;have hget:∀ j,j<ah T e->((vals.drop (i.1*ah T e)).take (ah T e))[j]? = vals[i.1*ah T e+j]?:=fun j hj=>by
     rw[List.getElem?_take_of_lt hj,List.getElem?_drop]
    have hlen:=hR.len i.1 _ hx;refine⟨⟨((vals.drop (i.1*ah T e)).take (ah T e),xs[i.1]),?_,hlen,?_,?_,?_⟩,hx,hget⟩
    . rw[List.length_take,List.length_drop];omega
    . intro v hv
      exact hR.one v (List.mem_of_mem_drop (List.mem_of_mem_take hv))
    . intro j v d h1 h2
      have hj:j<ah T e:=by rw[<- hlen];exact (aK.1 h2).1
      dsimp only at h1;rw[hget j hj] at h1;obtain⟨u,hu1,hu2⟩:=hR.rel i.1 _ j d hx h2;rw[h1] at hu1;cases hu1;exact hu2
    . exact hkeys _ (by
        have:(xs.take m)[i.1]? = some xs[i.1]:=by rw[List.getElem?_take_of_lt i.2];exact hx
        exact aU this)
   let F:Fin m->jZ (ah T) V (ah T e) rd:=fun i=>Classical.choose (hF i)
   have hF1:∀ i,xs[i.1]? = some (F i).1.2:=fun i=>(Classical.choose_spec (hF i)).1
   have hF2:∀ i j,j<ah T e->(F i).1.1[j]? = vals[i.1*ah T e+j]?:=fun i=>(Classical.choose_spec (hF i)).2
   letI:Inhabited (jZ (ah T) V (ah T e) rd):=⟨F ⟨0,oA⟩⟩
   let d:=Array.ofFn F
   have hds:d.size=m:=Array.size_ofFn;have hdg:∀ i (hi:i<m),d[i]! = F ⟨i,hi⟩:=fun i hi=>by
    rw[getElem!_pos d i (by rw[hds];exact hi)];simp[d]
   have hkey:∀ x:jZ (ah T) V (ah T e) rd,kv x.1.1 x.key:=fun x=>hrd _ _ _ x.2.1 x.2.2.1 x.2.2.2.2.1 (Classical.choose_spec x.2.2.2.2.2)
   have hheap:∃ cur,w.heap[blk]? = some (.cells cur e (0,0)):=by
    rcases hown.2 with⟨q,_⟩|⟨g',cap,cur,q,_,hh,_⟩
    . cases q
    . cases q;exact⟨cur,hh⟩
   obtain⟨cur,hheap⟩:=hheap;have acf:HoldsK (fun x:jZ (ah T) V (ah T e) rd=>x.1.1) (ah T e) w blk 0 d:=by
    intro j hj;rw[size_flatK,hds] at hj;have hjk:j / ah T e<m:=Nat.div_lt_of_lt_mul (by rw[Nat.mul_comm];exact hj);have hjm:=Nat.mod_lt j hpos;refine⟨?_,by simp[World.frozen?,hheap]⟩;rw[get_flatK _ _ _ _ (by rw[hds];exact hj),hdg _ hjk];have h3:=hF2 ⟨j / ah T e,hjk⟩ (j % ah T e) hjm;have h4:(F ⟨j / ah T e,hjk⟩).1.1[j % ah T e]? = some (F ⟨j / ah T e,hjk⟩).1.1[j % ah T e]!:=by
     rw[getElem!_pos _ _ (by rw[(F ⟨j / ah T e,hjk⟩).2.1];exact hjm)];exact aC _
    rw[h4,Nat.mul_comm,Nat.div_add_mod] at h3;have:=hown.cells (g:=blk) rfl j _ h3.symm;rw[add_lit] at this;exact this
   obtain⟨vs,tb,hh,hs,ho,hRb,_⟩:=hS.mem.hbox i g1 _ hg1 hb;have acS:0<vs.size:=by rw[hs];simp
   have hvs:∃ v,vs[0]? = some v:=⟨vs[0],Array.getElem?_eq_getElem acS⟩;obtain⟨v0,hv0⟩:=hvs;obtain⟨Ab,Nb,cb,hωb,_,hvb⟩:=(hRb 0 v0 _ hv0 rfl).jd;rw[hω] at hωb;cases hωb;have hBs:w.cell? ⟨g1,0,none⟩=some (.slice (some ⟨blk,0,none⟩) m c):=by
    rw[cell_of_row w g1 0 vs tb (0,0) hh,hv0,hvb]
   have hgl:g1<w.heap.size:=(Array.getElem?_eq_some_iff.1 hh).1;have hne:g1 ≠ blk:=fun e'=>by
    have:=hS.mem.uniq (.inl i) (.inr r) g1 hg1 ⟨_,_,hω,hr,by rw[e'];rfl⟩;cases this
   have hcall:=hC.big (jZ (ah T) V (ah T e) rd) (fun x=>x.1.1) jZ.key (fun x=>x.2.1) (fun x=>x.2.2.2.1) hkey blk c g1 d (by rw[hds];exact acR) (by rw[hds];exact hm2) w acf (Array.getElem?_eq_some_iff.1 hheap).1 (by rw[hds];exact hBs) hgl hne;rw[hds] at hcall;refine hcall.mono ?_;rintro e' w' ⟨rfl,d',q,os,hperm,hord,rfl⟩;have hds':d'.size=m:=by rw[hperm.1,hds]
   obtain⟨hgrow,hown'⟩:=WA (q:=q) (enc:=fun x:jZ (ah T) V (ah T e) rd=>x.1.1) (d:=d') (os:=os) hown hm hds';have acg:d.toList.map (fun x=>x.1.2)=xs.take m:=by
    apply List.ext_getElem?;intro j;rw[aN,Array.getElem?_toList];by_cases hj:j<m
    . rw[Array.getElem?_eq_getElem (by rw[hds];exact hj),List.getElem?_take_of_lt hj,hF1 ⟨j,hj⟩]
      simp[d]
    . rw[Array.getElem?_eq_none (by rw[hds];omega),List.getElem?_take,if_neg hj]
      rfl
   have hpl:d'.toList.Perm d.toList:=by
    have:=hperm.2.2;rwa [show d'.extract 0 m=d' from by rw[<- hds'];simp,show d.extract 0 m=d from by rw[<- hds];simp] at this
   have LM:∀ (j:Nat) (x:jZ (ah T) V (ah T e) rd),d'.toList[j]? = some x->d'[j]! = x:=fun j x hx=>by
    rw[Array.getElem?_toList] at hx;obtain⟨hj,rfl⟩:=Array.getElem?_eq_some_iff.1 hx;exact getElem!_pos d' j hj
   refine fin _ (d'.toList.map fun x=>x.1.2) (fun ds h=>h.DZ hS.mem hω hr hgrow) (by rw[<- acg];exact hpl.map _) (fun i j yi yj hij hyi hyj=>by
    rw[aN] at hyi hyj;obtain⟨x,hx,rfl⟩:=Option.map_eq_some_iff.1 hyi;obtain⟨y,hy,rfl⟩:=Option.map_eq_some_iff.1 hyj;have hjm:j<m:=by have:=(aK.1 hy).1;rw[Array.length_toList,hds'] at this;exact this
    have h9:=hord i j hij oA;rw[LM i x hx,LM j y hy] at h9;exact⟨_,_,Classical.choose_spec x.2.2.2.2.2,Classical.choose_spec y.2.2.2.2.2,h9⟩) ?_
   . have hlen':((d'.toList.map fun x=>x.1.2)++xs.drop m).length=xs.length:=by
       rw[List.length_append,bV,Array.length_toList,hds',List.length_drop];omega
     have hωs:ω.set r (.slice (some ⟨blk,0,none⟩) xs.length c)=ω:=by
      apply List.ext_getElem?;intro q;by_cases hq:q=r
      . subst hq;rw[List.getElem?_set_self (aK.1 hω).1,hω]
      . rw[List.getElem?_set_ne (Ne.symm hq)]
     have hfl:(flatK (fun x:jZ (ah T) V (ah T e) rd=>x.1.1) (ah T e) d').toList.length=m*ah T e:=by rw[Array.length_toList,size_flatK,hds']
     have UK:∀ j,j<m*ah T e->(flatK (fun x:jZ (ah T) V (ah T e) rd=>x.1.1) (ah T e) d').toList[j]? = some (d'[j / ah T e]!.1.1[j % ah T e]!):=fun j hj=>by
      rw[Array.getElem?_toList,Array.getElem?_eq_getElem (by rw[size_flatK,hds'];exact hj)];have:=get_flatK (fun x:jZ (ah T) V (ah T e) rd=>x.1.1) (ah T e) d' j (by rw[hds'];exact hj);rw[getElem!_pos _ _ (by rw[size_flatK,hds'];exact hj)] at this;rw[this]
     have hM:=hS.mem.Ap (w':=grow (putRowK (fun x:jZ (ah T) V (ah T e) rd=>x.1.1) (ah T e) (Sort.ahead w q) blk 0 d') os) (v':=.slice (some ⟨blk,0,none⟩) xs.length c) (e:=e) (ys:=(d'.toList.map fun x=>x.1.2)++xs.drop m)
      (vals:=(flatK (fun x:jZ (ah T) V (ah T e) rd=>x.1.1) (ah T e) d').toList++vals.drop (m*ah T e)) hω hr hgrow (by rw[hlen'];exact hown') ?_ (.inl rfl) (eU:=box) rfl ?_ (fun i cs cs' h1 h2 t h=>by rw[h1] at h2;cases h2;exact h)
     . rw[hωs] at hM
       exact hM
     . refine⟨fun u hu=>?_,fun i1 rw1 h1=>?_,fun i1 rw1 j1 d1 h1 h2=>?_⟩
       . rcases bQ.1 hu with hu|hu
         . obtain⟨j,hj⟩:=List.mem_iff_getElem?.1 hu
           have hjl:j<m*ah T e:=by rw[<- hfl];exact (aK.1 hj).1
           rw[UK j hjl] at hj;cases hj;generalize d'[j / ah T e]! = x;refine x.2.2.2.1 _ ?_;have hx:j % ah T e<x.1.1.length:=by rw[x.2.1];exact Nat.mod_lt j hpos
           rw[getElem!_pos x.1.1 _ hx];exact List.getElem_mem hx
         . exact hR.one u (List.mem_of_mem_drop hu)
       . by_cases hi1:i1<m
         . rw[List.getElem?_append_left (by rw[bV,Array.length_toList,hds'];exact hi1),aN] at h1
           obtain⟨x,_,rfl⟩:=Option.map_eq_some_iff.1 h1;exact x.2.2.1
         . rw[List.getElem?_append_right (by rw[bV,Array.length_toList,hds'];omega),List.getElem?_drop] at h1
           exact hR.len _ rw1 h1
       . by_cases hi1:i1<m
         . rw[List.getElem?_append_left (by rw[bV,Array.length_toList,hds'];exact hi1),aN] at h1
           obtain⟨x,hx,rfl⟩:=Option.map_eq_some_iff.1 h1;have hj1:j1<ah T e:=by rw[<- x.2.2.1];exact (aK.1 h2).1
           have hlt:i1*ah T e+j1<m*ah T e:=by
            have:(i1+1)*ah T e<=m*ah T e:=Nat.mul_le_mul_right _ hi1;rw[Nat.add_mul] at this;omega
           have hdv:(i1*ah T e+j1) / ah T e=i1:=by rw[Nat.mul_comm,Nat.mul_add_div hpos,Nat.div_eq_of_lt hj1,Nat.add_zero]
           have hmd:(i1*ah T e+j1) % ah T e=j1:=by rw[Nat.mul_comm,Nat.mul_add_mod,Nat.mod_eq_of_lt hj1]
           have hdx:=LM i1 x hx;have hx1:x.1.1[j1]? = some x.1.1[j1]!:=by
            rw[getElem!_pos _ _ (by rw[x.2.1];exact hj1)];exact aC _
           refine⟨x.1.1[j1]!,?_,x.2.2.2.2.1 j1 _ d1 hx1 h2⟩;rw[List.getElem?_append_left (by rw[hfl];exact hlt),UK _ hlt,hdv,hmd,hdx]
         . rw[List.getElem?_append_right (by rw[bV,Array.length_toList,hds'];omega),List.getElem?_drop,bV,Array.length_toList,hds',show m+(i1 - m)=i1 by omega] at h1
           obtain⟨u,hu1,hu2⟩:=hR.rel i1 rw1 j1 d1 h1 h2;have hge:m*ah T e<=i1*ah T e:=Nat.mul_le_mul_right _ oA;exact⟨u,by rw[List.getElem?_append_right (by rw[hfl];omega),hfl,List.getElem?_drop,show m*ah T e+(i1*ah T e+j1 - m*ah T e)=i1*ah T e+j1 by omega];exact hu1,hu2⟩
     . intro i1 cs cs' h1 h2
       rw[h1] at h2;cases h2;refine⟨rfl,fun j u dd dd' h3 h4 hrs=>?_⟩;rw[h3] at h4;cases h4;rw[hωs];exact hrs
end
section
variable {T : Tab} {B : aQ} {K : St → aQ → Prop}
theorem GoH.reRow{env:List (Nat × D)}{box:List (List D)}{row:Rows}{nn r:Nat}{e:TypeId}{xs:List (List D)}(xs':List (List D))(hr:row[r]? = some (some (e,xs)))(hl:xs'.length=xs.length)
    (hx:∀ (i:Nat) ys',xs'[i]? = some ys'->∃ ys,xs[i]? = some ys/\ys'.length=ys.length/\∀ (j:Nat) d',ys'[j]? = some d'->∃ d,ys[j]? = some d/\∀ (V:Vw) (v:Value),RI (ah T) V v d->RI (ah T) V v d')
    (h:fH row r (some (e,xs')) fun row'=>K ⟨env,box,row',nn⟩ B):GoH T ⟨env,box,row,nn⟩ B K:=by
 obtain⟨hrl,h⟩:=gW _ _ _ _ h;intro w0 F V μ ω a w hS;have hM:=hS.sim.mem;dsimp only at hM;have own:∀ l g,Own μ ω (row.set r (some (e,xs'))) l g->Own μ ω row l g:=by
  intro l g hl
  cases l with
  | inl i=>exact hl
  | inr q=>
   obtain⟨u,y,h1,h2,h3⟩:=hl;by_cases hq:q=r
   . subst hq
     exact⟨u,_,h1,hr,h3⟩
   . rw[List.getElem?_set_ne (Ne.symm hq)] at h2
     exact⟨u,y,h1,h2,h3⟩
 refine⟨_,V,μ,ω,B,h,⟨⟨hS.sim.tmps,hS.sim.defers,hS.sim.env,?_⟩,hS.nodup⟩⟩;refine { hM with rl:=by simp[hM.rl],hrow:=fun q v e2 ys h1 h2=>?_,uniq:=fun l l' g a b=>hM.uniq l l' g (own l g a) (own l' g b),new:=fun l g a=>hM.new l g (own l g a),eF:=fun p u l hp a=>hM.eF p u l hp (own l _ a),away:=fun x hx=>?_ }
 . dsimp only at h2
   by_cases hq:q=r
   . subst hq
     rw[List.getElem?_set_self hrl] at h2;cases h2;obtain⟨vals,a1,b1,c1,f1⟩:=hM.hrow q v e xs h1 hr;refine⟨vals,by rw[hl];exact a1,b1,fun k rw_ hk=>?_,fun k rw_ m x hk hm=>?_⟩
     . obtain⟨ys,g1,g2,_⟩:=hx k rw_ hk
       rw[g2];exact c1 k ys g1
     . obtain⟨ys,g1,_,g3⟩:=hx k rw_ hk
       obtain⟨d,g4,g5⟩:=g3 m x hm;obtain⟨u,hu,hR⟩:=f1 k ys m d g1 g4;exact⟨u,hu,g5 V u hR⟩
   . rw[List.getElem?_set_ne (Ne.symm hq)] at h2
     exact hM.hrow q v e2 ys h1 h2
 . obtain⟨a1,b1,c1,d1,e1⟩:=hM.away x hx
   exact⟨a1,b1,fun l hl=>c1 l (own l _ hl),d1,e1⟩
theorem GoH.Uh{env:List (Nat × D)}{box:List (List D)}{row:Rows}{nn r n:Nat}{e:TypeId}(d':D)(hr:row[r]? = some (some (e,List.replicate n [.aO])))(hd:∀ (V:Vw),RI (ah T) V (.slice none 0 0) d')
    (h:fH row r (some (e,List.replicate n [d'])) fun row'=>K ⟨env,box,row',nn⟩ B):GoH T ⟨env,box,row,nn⟩ B K:=by
 refine GoH.reRow (List.replicate n [d']) hr sI (fun i ys' hy=>?_) h;rw[List.getElem?_replicate] at hy;split at hy
 . rename_i hi
   cases hy;refine⟨[.aO],by rw[List.getElem?_replicate,if_pos hi],rfl,fun j d1 hj=>?_⟩
   match j with
   | 0=>
    simp at hj;subst hj;refine⟨.aO,rfl,fun V v hv=>?_⟩;rw[(RS.imm (μ:=[]) (ω:=[]) _ _ hv).iY];exact hd V
   | j+1=>simp at hj
 . cases hy
end
end Go.Vx
namespace Go.Proofs.YtnlingegeangmaaGreatDoor
open Go Go.Vx
def keyOf(p:Pfx):Key:=(p.value,p.len)
def kU(i:Int)(ps:List Pfx):List (Key × Int):=ps.map fun p=>(keyOf p,i)
def dJ(bs:List Box)(n:Nat):List (Key × Int):=(bs.take n).zipIdx.flatMap fun x=>kU x.2 x.1.owns.l
theorem PD{bs:List Box}{n:Nat}{b:Box}(h:bs[n]? = some b):dJ bs (n+1)=dJ bs n++kU n b.owns.l:=by
 unfold dJ;have hl:n<bs.length:=(aK.1 h).1;rw[List.take_add_one,h];simp only[Option.toList,List.zipIdx_append,List.flatMap_append,List.length_take];rw[Nat.min_eq_left oA];simp
theorem IE{i:Int}{ps:List Pfx}{m:Nat}{p:Pfx}(h:ps[m]? = some p):kU i (ps.take (m+1))=kU i (ps.take m)++[(keyOf p,i)]:=by
 unfold kU;rw[List.take_add_one,h];simp
def byF(L:List (Key × Int))(k:Key):List Int:=(L.filter fun x=>decide (x.1=k)).map (·.2)
theorem Zm(L:List (Key × Int))(k:Key)(i:Int)(k':Key):byF (L++[(k,i)]) k'=byF L k'++if k'=k then [i] else []:=by
 unfold byF;rw[List.filter_append,List.map_append];congr 1;by_cases h:k=k'
 . subst h;simp
 . rw[if_neg (fun e=>h e.symm)];simp[h]
theorem aaR(L:List (Key × Int))(k:Key):(byF L k).length<=L.length:=by
 unfold byF;rw[bV];exact List.length_filter_le _ _
abbrev iw:=List (Key × Option Hd × Nat)
structure OI(L:List (Key × Int))(l:iw)(cl:Nat):Prop where
 wf:mWf l cl
 keys:jR l
 len:l.length<=L.length
 at_:∀ k,match lk l k with
  | none=>byF L k=[]
  | some none=>False
  | some (some h)=>byF L k ≠ []/\fP (ah T) 3 h.n h.c ((byF L k).map ay) h.o
theorem OI.nil:OI [] [] 0:=⟨mWf.nil,List.nodup_nil,Nat.le_refl _,fun _=>rfl⟩
theorem Zn{κ α:Type}[DecidableEq κ](l:List (κ × α × Nat))(c:Nat)(k:κ)(a:α):(aX l c k a).1.length<=l.length+1:=by
 unfold aX;split<;>simp
theorem OI.put{L:List (Key × Int)}{l:iw}{cl:Nat}(h:OI L l cl){k:Key}{i:Int}{x:Hd}(hb:fP (ah T) 3 x.n x.c ((byF L k++[i]).map ay) x.o) :
    OI (L++[(k,i)]) (aX l cl k (some x)).1 (aX l cl k (some x)).2:=by
 refine⟨DF h.wf _ _,zS h.keys _ _,?_,fun k'=>?_⟩
 . have:=Zn l cl k (some x)
   have:=h.len;simp;omega
 . rw[ug,Zm]
   by_cases hk:k'=k
   . subst hk
     rw[if_pos rfl,if_pos rfl];exact⟨sI,hb⟩
   . rw[if_neg hk,if_neg hk,List.append_nil]
     exact h.at_ k'
theorem OI.re{L:List (Key × Int)}{l:iw}{cl:Nat}(h:OI L l cl){k:Key}{x:Hd}(hl:lk l k=some (some x)){o:Obj}(hb:fP (ah T) 3 x.n x.c ((byF L k).map ay) o) :
    OI L (aX l cl k (some ⟨x.g,x.n,x.c,o⟩)).1 (aX l cl k (some ⟨x.g,x.n,x.c,o⟩)).2:=by
 refine⟨DF h.wf _ _,zS h.keys _ _,?_,fun k'=>?_⟩
 . have h1:=h.len
   unfold lk at hl;unfold aX
   cases hm:dB k l 0 with
   | none=>rw[hm] at hl;cases hl
   | some x=>simpa using h1
 . rw[ug]
   by_cases hk:k'=k
   . subst hk
     rw[if_pos rfl];have:=h.at_ k';rw[hl] at this;exact⟨this.1,hb⟩
   . rw[if_neg hk]
     exact h.at_ k'
theorem OI.cases{L:List (Key × Int)}{l:iw}{cl:Nat}(h:OI L l cl)(k:Key):(lk l k=none/\byF L k=[])\/∃ x:Hd,lk l k=some (some x)/\byF L k ≠ []/\fP (ah T) 3 x.n x.c ((byF L k).map ay) x.o:=by
 have:=h.at_ k
 cases hl:lk l k with
 | none=>rw[hl] at this;exact .inl ⟨rfl,this⟩
 | some o=>
  rw[hl] at this
  cases o with
  | none=>exact this.elim
  | some x=>exact .inr ⟨x,rfl,this⟩
theorem qI(xs:List Int):∀ x ∈ xs.map ay,grounds x=true:=by
 intro x hx;obtain⟨_,_,rfl⟩:=List.mem_map.1 hx;rfl
def bM(k:Key):List D:=[.i .i64 k.1,.i .i64 k.2]
theorem Je{bs:List Box}(hb:∀ b ∈ bs,b.owns.l.length<=70):∀ n,(dJ bs n).length<=70*n
 | 0=>by simp[dJ]
 | n+1=>by
  have ih:=Je hb n
  cases h:bs[n]? with
  | none=>
   have e:dJ bs (n+1)=dJ bs n:=by unfold dJ;rw[List.take_add_one,h];simp
   rw[e];omega
  | some b=>
   rw[PD h,List.length_append];have h1:=hb b (aU h);have h2:(kU n b.owns.l).length=b.owns.l.length:=by simp[kU]
   omega
end Go.Proofs.YtnlingegeangmaaGreatDoor
namespace Go.Proofs.YtnlingegeangmaaGreatDoor
open Go Go.Vx Go.Shelf Go.RowKit Go.Lib Go.Sort
theorem qE:MTy Tryz.prog 150 kP fS:=by
 refine⟨⟨155,74,Tryz.underlying150,acQ Tryz.underlying155 rfl rfl Tryz.underlying3 Tryz.underlying3 (EqT.KZ tok (ti:=_) rfl rfl kR),fun w=>?_⟩,fun o=>?_⟩
 . kernel_rfl
 . rcases o with _|_|_<;>rfl
def lM(a b:Key):Bool:=if a.2=b.2 then decide (a.1<b.1) else decide (a.2<b.2)
theorem aaS{α:Type}(key:α->Key):SWO (fun x y:α=>lM (key x) (key y)) where
 irrefl:=fun x=>by simp[lM]
 trans:=fun x y z h k=>by
  unfold lM at *;split at h<;>split at k<;>split<;>simp at *<;>omega
 ntrans:=fun x y z h k=>by
  unfold lM at *;split at h<;>split at k<;>split<;>simp at *<;>omega
theorem Zo(blk c Bs size:Nat)(W:World)(G:Nat->Key)(hs:W.cell? ⟨Bs,0,none⟩=some (.slice (some ⟨blk,0,none⟩) size c))
    (hc0:∀ t,t<size->W.cell? ⟨blk,0+(t*2+0),none⟩=some (.int .i64 (G t).1))(hc1:∀ t,t<size->W.cell? ⟨blk,0+(t*2+1),none⟩=some (.int .i64 (G t).2))(i j:Nat)(hi:i<size)(hj:j<size)(_hsz:size<4611686018427387904) :
    Calls Tryz.prog 128 #[.int .i64 i,.int .i64 j,.pointer (some ⟨Bs,0,none⟩)] W fun e w'=>e = .returned (.bool (lM (G i) (G j)))/\∃ q,w'=W.drewN q:=by
 have ci:=hc1 i hi;have cj:=hc1 j hj;have di:=hc0 i hi;have dj:=hc0 j hj;rw[Nat.zero_add] at ci cj di dj;rw[Nat.add_zero] at di dj
 go_enter Tryz.func128,Tryz.ntmps128
 go_wp2
 go_quiet (fail)
 go_wp2
 all_goals go_quiet (fail)
 all_goals go_wp2
 all_goals go_ret
 . rename_i q2 h
   refine⟨?_,_,World.drewN_drewN _ _ _⟩;show Ending.returned (.bool (decide ((G i).2<(G j).2)))=_;unfold lM;rw[if_neg (by simpa using h)]
 . rename_i q2 h
   refine⟨?_,_,World.drewN_drewN _ _ _⟩;show Ending.returned (.bool (decide ((G i).1<(G j).1)))=_;unfold lM;rw[if_pos (by simpa using h)]
noncomputable def LP:TypeInfo:=(Tryz.prog.info? 151).get kR
noncomputable def zy:TypeInfo:=(Tryz.prog.info? 155).get kR
theorem acT(n:Nat)(h2:2<=n):Lib.swapperK n zy 25=9:=by
 have a:zy.hasPointers=false:=kR;have b:zy.bytes=16:=kR;have c:(n == 0)=false:=by simp;omega
 have d:(n == 1)=false:=by simp;omega
 simp[Lib.swapperK,a,b,c,d]
def kvK(vs:List Value)(k:Key):Prop:=vs[0]? = some (.int .i64 k.1)/\vs[1]? = some (.int .i64 k.2)
theorem Zp:SortG Tryz.prog 127 151 2 128 kvK (fun a b=>lM b a=false) where
 call:=Tryz.call127
 UJ:=kR
 big:=fun α _ enc key hk h1 hkey blk c Bs d h2 hsz w hH hblk hBs hB1 hB2=>by
  have hless:LessReadsK Tryz.prog 128 #[.pointer (some ⟨Bs,0,none⟩)] enc 2 (fun x y=>lM (key x) (key y)) blk 0 d.size w:=by
   intro m os dk hs i j hi hj;have e:sortWorldK enc 2 w blk 0 m dk os=putRowK enc 2 (grow (Sort.ahead w m) os) blk 0 dk:=by
    unfold sortWorldK;rw[putRowK_grow _ _ (Sort.ahead w m) _ blk 0 _ hblk]
   have hHg:HoldsK enc 2 (grow (Sort.ahead w m) os) blk 0 d:=holdsK_grow _ _ _ _ blk 0 d hblk (holdsK_ahead _ _ _ _ _ _ _ hH);refine Zo blk c Bs d.size _ (fun t=>key dk[t]!) ?_ (fun t ht=>?_) (fun t ht=>?_) i j hi hj oA
   . rw[e,cell?_putRowK_other _ _ _ blk 0 dk _ (by exact hB2),cell?_grow _ _ _ (by exact hB1)];exact hBs
   . rw[e]
     have h3:=((holdsK_putRowK _ _ _ blk 0 d dk hHg hs).cell (i:=t) (c:=0) oA oA).1;refine h3.trans ?_;exact congrArg some (List.getElem!_of_getElem? (hkey dk[t]!).1)
   . rw[e]
     have h3:=((holdsK_putRowK _ _ _ blk 0 d dk hHg hs).cell (i:=t) (c:=1) oA oA).1;refine h3.trans ?_;exact congrArg some (List.getElem!_of_getElem? (hkey dk[t]!).2)
  refine (Any.sort_Slice_cells_sorted Tryz.vxSort 151 155 LP zy kR kR kR kR 25 (fun _=>by kernel_rfl) enc 2 hk kR (fun _=>by kernel_rfl)
   h1 _ (aaS key) 128 _
   (enters_of Tryz.func128 kR rfl) blk 0 c d h2 hsz 187 (by rw[acT _ h2];kernel_rfl) false
   (fun args W=>run_callFunc_extern Tryz.func187 kR kR kR (e:=Extern.ReflectliteSwapper.swap false) kR args W) w hless hH hblk).mono ?_
  rintro e w' ⟨h1,d',n,os,hp,hs,hw⟩;exact⟨h1,d',n,os,hp,fun i j hij hj=>hs i j (Nat.zero_le _) hij hj,hw⟩
 tiny:=fun p n c lb w h1=>by
  rcases Nat.eq_zero_or_pos n with h|h
  . subst h
    exact Any.sort_Slice_tiny Tryz.vxSort 151 155 LP zy kR kR kR kR 25 (fun _=>by kernel_rfl) p 0 c h1 179 kR (.func 128) #[] lb w
  . obtain rfl:n=1:=oA
    exact Any.sort_Slice_tiny Tryz.vxSort 151 155 LP zy kR kR kR kR 25 (fun _=>by kernel_rfl) p 1 c h1 180 kR (.func 128) #[] lb w
end Go.Proofs.YtnlingegeangmaaGreatDoor
namespace Go.Proofs.YtnlingegeangmaaGreatDoor
open Go Go.Vx
theorem Zq{κ α:Type}{l:List (κ × α × Nat)}:(l.map (·.1)).Nodup->∀ {x y:κ × α × Nat},x ∈ l->y ∈ l->x.1=y.1->x=y:=by
 induction l with
 | nil=>intro _ x y hx;cases hx
 | cons z l ih=>
  intro h x y hx hy he;rw[List.map_cons,List.nodup_cons] at h;rcases List.mem_cons.1 hx with rfl|hx'<;>rcases List.mem_cons.1 hy with rfl|hy'
  . rfl
  . exact absurd (List.mem_map.2 ⟨y,hy',he.symm⟩) h.1
  . exact absurd (List.mem_map.2 ⟨x,hx',he⟩) h.1
  . exact ih h.2 hx' hy' he
def ltK(a b:Key):Prop:=lM a b=true
theorem Sl(a:Key):¬ ltK a a:=by simp[ltK,lM]
theorem aaT(a b:Key)(h:lM b a=false)(hn:a ≠ b):ltK a b:=by
 unfold ltK;unfold lM at *;obtain⟨a1,a2⟩:=a;obtain⟨b1,b2⟩:=b;dsimp only at *;have hn':¬ (a1=b1/\a2=b2):=fun h=>hn (by rw[h.1,h.2])
 by_cases he:b2=a2
 . rw[if_pos he] at h
   rw[if_pos he.symm];simp at h ⊢;omega
 . rw[if_neg he] at h
   rw[if_neg (Ne.symm he)];simp at h ⊢;omega
theorem Yb{a b:Key}(h:ltK a b):¬ ltK b a:=by
 unfold ltK lM at *;split at h<;>split<;>simp at *<;>omega
theorem QK:∀ {l l':List Key},l.Pairwise ltK->l'.Pairwise ltK->(∀ k,k ∈ l ↔ k ∈ l')->l=l'
 | [],[],_,_,_=>rfl
 | [],b :: l',_,_,h=>absurd ((h b).2 List.mem_cons_self) sI
 | a :: l,[],_,_,h=>absurd ((h a).1 List.mem_cons_self) sI
 | a :: l,b :: l',h1,h2,h=>by
  rw[List.pairwise_cons] at h1 h2;have hab:a=b:=by
   rcases List.mem_cons.1 ((h a).1 List.mem_cons_self) with e|e
   . exact e
   . rcases List.mem_cons.1 ((h b).2 List.mem_cons_self) with e'|e'
     . exact e'.symm
     . exact absurd (h2.1 a e) (Yb (h1.1 b e'))
  subst hab;rw[QK h1.2 h2.2 fun k=>?_];have hk:=h k;rw[List.mem_cons,List.mem_cons] at hk;constructor
  . intro hk1
    rcases hk.1 (.inr hk1) with rfl|h3
    . exact absurd (h1.1 k hk1) (Sl k)
    . exact h3
  . intro hk1
    rcases hk.2 (.inr hk1) with rfl|h3
    . exact absurd (h2.1 k hk1) (Sl k)
    . exact h3
theorem QL{a b:Key}(h:bM a=bM b):a=b:=by
 simp[bM] at h;exact Prod.ext h.1 h.2
theorem rdK{V:Vw}(vs:List Value)(ds:List D)(l:Key)(h1:vs.length=2)(h2:ds.length=2)(hr:∀ (j:Nat) v d,vs[j]? = some v->ds[j]? = some d->RI (ah T) V v d)(h:ds=bM l):kvK vs l:=by
 subst h
 match vs,h1 with
 | [a,b],_=>
  have e1:=(RS.imm (μ:=[]) (ω:=[]) _ _ (hr 0 a _ rfl rfl)).fQ;have e2:=(RS.imm (μ:=[]) (ω:=[]) _ _ (hr 1 b _ rfl rfl)).fQ;exact⟨by rw[e1];rfl,by rw[e2];rfl⟩
theorem Yc(c:Config)(hc:c.Ok)(hn:c.boxes.l.length<=18)(ho:∀ b ∈ c.boxes.l,b.owns.l.length<=70) :
    iJ Tryz.prog T 86 [.agg c.row] (fun d M B=>∃ (gm:Nat) (l:iw) (cl:Nat) (ks:List Key),d = .tup [.mv (some gm),.lst 155 (ks.map bM) []]/\M=[(gm,bG kP fS l cl)]/\B=bo l/\OI (dJ c.boxes.l c.boxes.l.length) l cl/\(∀ k,k ∈ ks ↔ (lk l k).isSome=true)/\ks.length<=1260/\ks.Pairwise ltK):=by
 have hbl:(c.boxes.l.map Box.row).length=c.boxes.l.length:=sI;refine iJ.aB tok Tryz.func86 rfl Tryz.call86 sI ?_;(try (conv=>whnf));repeat' (first|(refine⟨_,_,_,_,_,qE,fun _ _=>?_⟩;conv=>whnf)|refine OkB.seq ?_|(refine OkB.aA (OkM.region tok ?_);conv=>whnf)|refine OkB.block ?_|fail)
 rename_i gm hgm;refine OkB.aT [4,14,15] [16] 0 1 (fun (x:Nat × iw × Nat)=>[.i .i64 (x.1:Nat)]) (fun (x:Nat × iw × Nat) (_:List (List D))=>[c.row]) (fun _ r=>r) (fun (x:Nat × iw × Nat)=>[(gm,bG kP fS x.2.1 x.2.2)]) (fun (x:Nat × iw × Nat)=>bo x.2.1) (fun (x:Nat × iw × Nat)=>x.1<=c.boxes.l.length/\OI (dJ c.boxes.l x.1) x.2.1 x.2.2) (fun (x:Nat × iw × Nat)=>c.boxes.l.length - x.1) ((0,[],0)) (⟨Nat.zero_le _,.nil⟩) sS sS ?_;(conv=>whnf);refine⟨by ((conv=>whnf);first|rfl|(simp[ak, au, SI.row, Node.row, Pfx.row, Link.row, aG, Line.row, Rule.row, Box.row, Slc.row, Config.row, ay, bM];done)|(simp[ak, au, SI.row, Node.row, Pfx.row, Link.row, aG, Line.row, Rule.row, Box.row, Slc.row, Config.row, ay, bM];rw[IntKind.wrap_i64];omega)),?_⟩;rintro⟨n,l,cl⟩ ⟨hn1,hO⟩;dsimp only at hn1 hO ⊢;(conv=>whnf);by_cases hlt:n<c.boxes.l.length
 . obtain⟨b,hb⟩:∃ b,c.boxes.l[n]? = some b:=⟨_,aC hlt⟩
   have hbI:c.boxes.l[((n:Nat):Int).toNat]? = some b:=hb;have hbr:(c.boxes.l.map Box.row)[((n:Nat):Int).toNat]? = some b.row:=by rw[aN,hbI];rfl
   have hol:(b.owns.l.map Pfx.row).length=b.owns.l.length:=sI;have ho1:=ho b (aU hb)
   repeat' (first|refine OkB.seq ?_|((first|refine OkB.aA (OkM.region tok ?_)|refine OkB.cond ?_);conv=>whnf)|refine OkB.block ?_|((first|refine OkB.skip ?_|refine ix _ aS ?_);conv=>whnf)|(refine bI ?_ ?_<;>intro<;>first|omega|conv=>whnf)|fail)
   refine OkB.aT [4,5,14,15,16,22,23] [24] 0 1 (fun (y:Nat × iw × Nat)=>[.i .i64 (y.1:Nat)]) (fun (y:Nat × iw × Nat) (_:List (List D))=>[c.row]) (fun _ r=>r) (fun (y:Nat × iw × Nat)=>[(gm,bG kP fS y.2.1 y.2.2)]) (fun (y:Nat × iw × Nat)=>bo y.2.1) (fun (y:Nat × iw × Nat)=>y.1<=b.owns.l.length/\OI (dJ c.boxes.l n++kU n (b.owns.l.take y.1)) y.2.1 y.2.2) (fun (y:Nat × iw × Nat)=>b.owns.l.length - y.1) ((0,l,cl)) (⟨Nat.zero_le _,by simpa[kU] using hO⟩) sS sS ?_;(conv=>whnf);refine⟨by ((conv=>whnf);first|rfl|(simp[ak, au, SI.row, Node.row, Pfx.row, Link.row, aG, Line.row, Rule.row, Box.row, Slc.row, Config.row, ay, bM];done)|(simp[ak, au, SI.row, Node.row, Pfx.row, Link.row, aG, Line.row, Rule.row, Box.row, Slc.row, Config.row, ay, bM];rw[IntKind.wrap_i64];omega)),?_⟩;clear hO l cl;rintro⟨m,l,cl⟩ ⟨hm1,hO⟩;dsimp only at hm1 hO ⊢;(conv=>whnf);by_cases hlm:m<b.owns.l.length
   . obtain⟨o,hoo⟩:∃ o,b.owns.l[m]? = some o:=⟨_,aC hlm⟩
     have hoI:b.owns.l[((m:Nat):Int).toNat]? = some o:=hoo;have hor:(b.owns.l.map Pfx.row)[((m:Nat):Int).toNat]? = some o.row:=by rw[aN,hoI];rfl
     have hll:=aaR (dJ c.boxes.l n++kU n (b.owns.l.take m)) (keyOf o);have hl1:=Je ho n;have hl2:(dJ c.boxes.l n++kU n (b.owns.l.take m)).length<=2000:=by simp[kU];omega
     rcases hO.cases (keyOf o) with⟨hlk,hbe⟩|⟨h,hlk,hne,hbk⟩
     . have hp:∀ x:Hd,(x.p :: bo l).Perm (bo (aX l cl (keyOf o) (some x)).1):=fun x=>by have:=F8 l cl (keyOf o) x;rwa [Ya hlk] at this
       (try (conv=>whnf));repeat' (first|(refine⟨_,_,_,_,_,_,_,0,keyOf o,none,qE,rfl,rfl,rfl,?_⟩;rw[hlk];conv=>whnf)|(refine⟨500,?_⟩;(conv=>whnf);refine⟨sI,_,.inl ⟨rfl,rfl⟩,?_⟩;(conv=>whnf);refine⟨sI,sI,[ay (n:Int)],1,rfl,rfl,fun g' c' hc'=>?_⟩;(conv=>whnf))|((first|refine⟨_,_,_,kP,fS,l,cl,0,keyOf o,none,some ⟨_,_,_,obD⟩,qE.vg,hO.wf,rfl,rfl,rfl,?_⟩|refine OkB.go (c:=.region 10 _ _) (GoH.close tok (t0:=500) (ti:=_) rfl rfl rfl (qI [(n:Int)]) fun o' ho'=>?_));conv=>whnf)|(refine OkB.perm (c:=.region 10 _ _) (hp ⟨g',1,c',o'⟩) ?_)|refine OkB.seq ?_|((first|refine OkB.aA (OkM.region tok ?_)|refine OkB.cond ?_);conv=>whnf)|refine OkB.block ?_|((first|refine OkB.skip ?_|refine nI ?_|refine ix _ aS ?_);conv=>whnf)|(refine bI ?_ ?_<;>intro<;>first|omega|conv=>whnf)|fail)
       refine⟨(m+1,(aX l cl (keyOf o) (some ⟨g',1,c',o'⟩)).1,(aX l cl (keyOf o) (some ⟨g',1,c',o'⟩)).2),by dsimp only;omega,⟨by dsimp only;omega,?_⟩,?_,.refl _,?_⟩
       . dsimp only
         rw[IE hoo,<- List.append_assoc];exact hO.put (by rw[hbe];exact ho')
       . dsimp only
         rw[JD kP l cl (keyOf o) g' 1 c' o' obD];exact .refl _
       . (conv=>whnf);(first|rfl|simp[ak, au, SI.row, Node.row, Pfx.row, Link.row, aG, Line.row, Rule.row, Box.row, Slc.row, Config.row, ay, bM])
     . have hnl:=(vY hbk).1
       have hil:((byF (dJ c.boxes.l n++kU n (b.owns.l.take m)) (keyOf o)).map ay).length=(byF (dJ c.boxes.l n++kU n (b.owns.l.take m)) (keyOf o)).length:=sI;(try (conv=>whnf));repeat' (first|(refine OkB.perm (c:=.region 9 _ _) (TF hlk) ?_)|(refine OkB.go (c:=.region 9 _ _) (GoH.open 500 hbk ?_);conv=>whnf)|(refine⟨_,_,_,_,_,_,_,0,keyOf o,none,qE,rfl,rfl,rfl,?_⟩;rw[hlk];conv=>whnf)|(refine⟨500,501,0,rfl,?_⟩;conv=>whnf)|(refine⟨(byF (dJ c.boxes.l n++kU n (b.owns.l.take m)) (keyOf o)++[(n:Int)]).map ay,h.n+1,by simp[ay],by simp;omega,?_⟩;conv=>whnf)|(refine⟨fun _=>?_,fun _=>⟨0,by (conv=>whnf);exact True.intro,fun g' c' hc'=>?_⟩⟩<;>(conv=>whnf))|((first|refine⟨_,_,_,kP,fS,l,cl,0,keyOf o,some h,some ⟨_,_,_,obD⟩,qE.vg,hO.wf,rfl,rfl,rfl,?_⟩|refine OkB.go (c:=.region 10 _ _) (GoH.close tok (t0:=501) (ti:=_) rfl rfl rfl (qI _) fun o' ho'=>?_)|refine OkB.go (c:=.region 10 _ _) (GoH.close tok (t0:=500) (ti:=_) rfl rfl rfl (qI _) fun o' ho'=>?_));conv=>whnf)|(refine OkB.perm (c:=.region 10 _ _) (F8 l cl (keyOf o) ⟨h.g,h.n+1,h.c,o'⟩) ?_)|(refine OkB.perm (c:=.region 10 _ _) (F8 l cl (keyOf o) ⟨g',h.n+1,c',o'⟩) ?_)|refine OkB.seq ?_|((first|refine OkB.aA (OkM.region tok ?_)|refine OkB.cond ?_);conv=>whnf)|refine OkB.block ?_|((first|refine OkB.skip ?_|refine nI ?_|refine ix _ aS ?_|refine⟨_,.inl ⟨rfl,rfl⟩,?_⟩);conv=>whnf)|(refine bI ?_ ?_<;>intro<;>first|omega|conv=>whnf)|(refine aJ ?_;conv=>whnf)|fail)
       all_goals first
        | (refine⟨(m+1,(aX l cl (keyOf o) (some ⟨g',h.n+1,c',o'⟩)).1,(aX l cl (keyOf o) (some ⟨g',h.n+1,c',o'⟩)).2),by dsimp only;omega,⟨by dsimp only;omega,by dsimp only;rw[IE hoo,<- List.append_assoc];exact hO.put ho'⟩,by dsimp only;rw[JD kP l cl (keyOf o) g' (h.n+1) c' o' obD];exact .refl _,.refl _,?_⟩
           (conv=>whnf);(first|rfl|simp[ak, au, SI.row, Node.row, Pfx.row, Link.row, aG, Line.row, Rule.row, Box.row, Slc.row, Config.row, ay, bM]);done)
        | (refine⟨(m+1,(aX l cl (keyOf o) (some ⟨h.g,h.n+1,h.c,o'⟩)).1,(aX l cl (keyOf o) (some ⟨h.g,h.n+1,h.c,o'⟩)).2),by dsimp only;omega,⟨by dsimp only;omega,by dsimp only;rw[IE hoo,<- List.append_assoc];exact hO.put ho'⟩,by dsimp only;rw[JD kP l cl (keyOf o) h.g (h.n+1) h.c o' obD];exact .refl _,.refl _,?_⟩
           (conv=>whnf);(first|rfl|simp[ak, au, SI.row, Node.row, Pfx.row, Link.row, aG, Line.row, Rule.row, Box.row, Slc.row, Config.row, ay, bM]);done)
   . obtain rfl:m=b.owns.l.length:=oA
     rw[List.take_length] at hO;(try (conv=>whnf));repeat' (first|refine OkB.seq ?_|((first|refine OkB.aA (OkM.region tok ?_)|refine OkB.cond ?_|refine OkB.exit ?_|refine nI ?_);conv=>whnf)|(refine bI ?_ ?_<;>intro<;>first|omega|conv=>whnf)|fail)
     refine⟨(n+1,l,cl),by dsimp only;omega,⟨by dsimp only;omega,by dsimp only;rw[PD hb];exact hO⟩,.refl _,.refl _,?_⟩;(conv=>whnf);(first|rfl|simp[ak, au, SI.row, Node.row, Pfx.row, Link.row, aG, Line.row, Rule.row, Box.row, Slc.row, Config.row, ay, bM])
 . obtain rfl:n=c.boxes.l.length:=oA
   have hll:=hO.len;have hl1:=Je ho c.boxes.l.length;(try (conv=>whnf));repeat' (first|((first|refine⟨0,l.length,rfl,rfl,Nat.zero_le _,oA,?_⟩|refine⟨_,_,_,_,_,_,_,_,qE,mH,rfl,?_⟩|refine⟨_,_,_,_,_,_,_,qE,mG,fun _ _=>?_⟩);conv=>whnf)|refine OkB.seq ?_|((first|refine OkB.aA (OkM.region tok ?_)|refine OkB.cond ?_);conv=>whnf)|refine OkB.block ?_|(refine OkB.exit ?_;conv=>whnf)|(refine bI ?_ ?_<;>intro<;>first|omega|conv=>whnf)|(refine⟨_,rfl,?_⟩;conv=>whnf)|fail)
   rename_i gi hgi;refine OkB.aT [4,10,47] [] 1 2 (fun (x:List Key × List Nat)=>[]) (fun (x:List Key × List Nat) (_:List (List D))=>[c.row,[.own 0 x.1.length]]) (fun (x:List Key × List Nat) (_:Vx.Rows)=>[some (155,x.1.map bM)]) (fun (x:List Key × List Nat)=>[(gi,oN gm cl x.2),(gm,bG kP fS l cl)]) (fun (x:List Key × List Nat)=>bo l) (fun (x:List Key × List Nat)=>(∀ k,k ∈ x.1 ↔ ∃ e ∈ l,e.2.2 ∈ x.2/\e.1=k)/\x.1.Nodup/\x.1.length+(l.filter fun e=>decide (e.2.2 ∉ x.2)).length<=l.length) (fun (x:List Key × List Nat)=>(l.filter fun e=>decide (e.2.2 ∉ x.2)).length) (([],[])) (⟨sI,List.nodup_nil,by have:=List.length_filter_le (fun e:Key × Option Hd × Nat=>decide (e.2.2 ∉ ([]:List Nat))) l;simpa using this⟩) sS sS ?_;(conv=>whnf);refine⟨by ((conv=>whnf);first|rfl|(simp[ak, au, SI.row, Node.row, Pfx.row, Link.row, aG, Line.row, Rule.row, Box.row, Slc.row, Config.row, ay, bM];done)|(simp[ak, au, SI.row, Node.row, Pfx.row, Link.row, aG, Line.row, Rule.row, Box.row, Slc.row, Config.row, ay, bM];rw[IntKind.wrap_i64];omega)),?_⟩;rintro⟨ks,seen⟩ ⟨hks,LQ,hkl⟩;dsimp only at hks LQ hkl ⊢;(conv=>whnf);have hkm:(ks.map bM).length=ks.length:=sI;refine OkB.seq ?_;refine OkB.aA (OkM.region tok ?_);(conv=>whnf);refine⟨_,_,inferInstance,_,_,_,_,0,_,_,fun _=>rfl,qE.vg,hO.wf,rfl,.tail _ (.head _),?_,?_⟩;rotate_left
   . rintro⟨ek,eo,en⟩ he hns
     have hsl:=DK he hns;dsimp only at hsl;obtain⟨h,rfl⟩:∃ h,eo=some h:=by
      have h1:=FX hO.keys he;rcases hO.cases ek with⟨h2,_⟩|⟨h,h2,_⟩
      . rw[h1] at h2;cases h2
      . rw[h1] at h2;cases h2;exact⟨h,rfl⟩
     (conv=>whnf)
     repeat' (first|(refine⟨_,_,inferInstance,_,_,_,_,0,_,_,(ek,some h,en),fun _=>rfl,qE.vg,hO.wf,rfl,.tail _ (.head _),he,?_⟩;conv=>whnf)|refine OkB.seq ?_|((first|refine OkB.aA (OkM.region tok ?_)|refine OkB.cond ?_);conv=>whnf)|refine OkB.block ?_|((first|refine OkB.skip ?_|refine bU.l (aI ?_)|refine⟨_,.inl ⟨rfl,rfl⟩,?_⟩|refine⟨_,_,rfl,rfl,?_⟩|refine aJ ?_);conv=>whnf)|fail)
     refine⟨(ks++[ek],seen++[en]),hsl,⟨fun k=>?_,?_,by simp only[List.length_append,List.length_singleton];omega⟩,.refl _,.refl _,?_⟩
     . dsimp only
       rw[bQ,hks k,List.mem_singleton];constructor
       . rintro (⟨e',a1,a2,a3⟩|rfl)
         . exact⟨e',a1,List.mem_append_left _ a2,a3⟩
         . exact⟨_,he,sI,rfl⟩
       . rintro⟨e',a1,a2,a3⟩
         rcases bQ.1 a2 with a2|a2
         . exact .inl ⟨e',a1,a2,a3⟩
         . right
           rw[<- a3,born_inj hO.wf.1 a1 he (List.mem_singleton.1 a2)]
     . dsimp only
       refine List.nodup_append.2 ⟨LQ,sI,fun x hx y hy e=>?_⟩;rw[List.mem_singleton.1 hy] at e;obtain⟨e',a1,a2,a3⟩:=(hks x).1 hx;have h9:=Zq hO.keys a1 he (a3.trans e);rw[h9] at a2;exact hns a2
     . (conv=>whnf);(first|rfl|simp[ak, au, SI.row, Node.row, Pfx.row, Link.row, aG, Line.row, Rule.row, Box.row, Slc.row, Config.row, ay, bM])
   . intro hall
     have Gu:∀ k,k ∈ ks ↔ (lk l k).isSome=true:=by
      intro k;rw[hks k];constructor
      . rintro⟨e',a1,_,rfl⟩
        rw[FX hO.keys a1];rfl
      . intro hk
        obtain⟨a,ha⟩:=Option.isSome_iff_exists.1 hk;obtain⟨nn,hm⟩:=JO ha;exact⟨_,hm,hall _ hm,rfl⟩
     (conv=>whnf)
     repeat' (first|(refine OkB.aA (OkM.aB (Ok.ace tok Zp (rd:=fun ds k=>ds=bM k) (by (conv=>whnf);exact⟨rfl,rfl⟩) rfl rfl rfl sI rfl dC dC dC rdK (fun x hx=>let ⟨k,_,hk⟩:=List.mem_map.1 (List.mem_of_mem_take hx);⟨k,hk.symm⟩) oA ?_)))|refine OkB.seq ?_|((first|refine OkB.cond ?_|refine OkB.exit ?_);conv=>whnf)|fail)
     intro ys hys hord;obtain⟨ks',hk',rfl⟩:=VG hys ks (au sI);rw[zZ,List.append_nil];(conv=>whnf);have hkl':=hk'.length_eq;have hpw:ks'.Pairwise ltK:=by
      rw[List.pairwise_iff_getElem];intro i j hi hj hij;obtain⟨a,b,ha,hb,hle⟩:=hord i j _ _ hij (by rw[aN,aC hi];rfl) (by rw[aN,aC hj];rfl);rw[<- QL ha,<- QL hb] at hle;refine aaT _ _ hle fun e=>?_
      have h8:=(List.nodup_iff_pairwise_ne.1 (hk'.nodup_iff.2 LQ));exact (List.pairwise_iff_getElem.1 h8) i j hi hj hij e
     have adq:(ks'.map bM).length=ks'.length:=sI;refine OkB.sub (M':=[(gm,bG kP fS l cl)]) (B':=bo l) (.cons _ (.refl _)) (.refl _) ?_;(try (conv=>whnf));repeat' (first|refine OkB.seq ?_|((first|refine OkB.aA (OkM.aB (Ok.bH tok follows kR ?_))|refine OkB.ret ?_);conv=>whnf)|fail)
     refine⟨gm,l,cl,ks',?_,rfl,rfl,hO,fun k=>by rw[hk'.mem_iff];exact Gu k,oA,hpw⟩;rw[<- hkl',tu,zZ];rfl
end Go.Proofs.YtnlingegeangmaaGreatDoor
namespace Go.Proofs.YtnlingegeangmaaGreatDoor
open Go Go.Vx
def fE(o:Option Eg):D:=.agg (o.getD ⟨0,0,0,0⟩).row
theorem Gv:MTy Tryz.prog 214 (D.i .i64) fE:=by
 refine⟨⟨3,122,Tryz.underlying214,acD Tryz.underlying3,fun w=>?_⟩,fun o=>rfl⟩
 kernel_rfl
theorem Zr{c:bC}{s:Str}(hs:s ∈ aP c.boxes):∃ p:Prt,(mQ 0 c.boxes)[(plc (aP c.boxes) s).toNat]? = some p/\BH c (plc (aP c.boxes) s)=(p.box:Int):=by
 have h2:=A8 (aP c.boxes) s;have h1:=(rD hs).1;have hl:(mQ 0 c.boxes).length=(aP c.boxes).length:=by rw[<- zK 0,bV]
 have hk:(plc (aP c.boxes) s).toNat<(mQ 0 c.boxes).length:=oA;refine⟨_,aC hk,?_⟩;unfold BH;rw[aC hk];rfl
theorem Yd(c:Config)(hc:c.Ok)(ht:c.Tx)(h0:(fZ c.b).1=0) :
    dL Tryz.prog T [] 85 [.agg c.row] (fun d rows M=>(d = .tup [.own 0 (dS c.b).length,.i .i64 0]/\rows=[some (122,(dS c.b).map Eg.row)])/\M=[]):=by
 have hck:=IB Jz Jy c hc ht;rw[h0] at hck;obtain⟨_,h1,h2,_,h4,_⟩:=Dk h0;have hpn:(aP c.b.boxes).length<=48:=by rw[zO];exact (qQ h1).2.1
 have hlk:=(qQ h1).2.2.1;have hnum:=Dj c hc (Ai ht) oA;have hpr:((bY c.b.boxes).map bP).length=(bY c.b.boxes).length:=sI;have hll:(c.links.l.map Link.row).length=c.links.l.length:=sI;have hL:=hc.links;have hpl:(bY c.b.boxes).length=(aP c.b.boxes).length:=by rw[EW,bV,<- zK 0,bV]
 refine dL.oI tok Tryz.func85 rfl Tryz.call85 sI ?_;(try (conv=>whnf));repeat' (first|(refine⟨_,_,_,_,_,Gv,fun _ _=>?_⟩;conv=>whnf)|(refine Or.inr (Or.inl ?_);(conv=>whnf);(repeat (refine aI ?_;conv=>whnf));refine⟨_,hnum , ?_⟩;rintro _ _ _ ⟨gn,lst,cn,rfl,rfl,rfl,hnm,hwf,hky⟩<;>(conv=>whnf))|refine OkM.seq ?_|((first|refine OkM.region tok ?_|refine OkM.cond ?_);conv=>whnf)|refine OkM.block ?_|(refine OkM.skip ?_;conv=>whnf)|(refine Or.inl ?_;(conv=>whnf);refine Or.inl ?_;(conv=>whnf);(repeat (refine aI ?_;conv=>whnf));refine⟨_,hck,rfl,?_⟩;conv=>whnf)|(refine bI ?_ ?_<;>intro<;>first|omega|conv=>whnf)|fail)
 rename_i gb hgb;have hN:qm c.b lst:=⟨zJ h2,hnm,hky⟩;have hat:∀ s,s ∈ aP c.b.boxes->∃ p:Prt,((bY c.b.boxes).map bP)[((lk lst s).getD 0).toNat]? = some (bP (p.box,p.inn))/\BH c.b (plc (aP c.b.boxes) s)=(p.box:Int)/\(lk lst s).getD 0=plc (aP c.b.boxes) s/\0<=(lk lst s).getD 0/\(lk lst s).getD 0<((bY c.b.boxes).length:Nat):=by
  intro s hs;obtain⟨_,_,e1,_⟩:=hN.some hs;obtain⟨p,hp,hb⟩:=Zr hs;obtain⟨g0,_⟩:=rD hs;have g2:=A8 (aP c.b.boxes) s;rw[e1];simp only[Option.getD_some];refine⟨p,?_,hb,trivial,g0,oA⟩;rw[EW,List.map_map,aN,hp];rfl
 refine OkM.aT [6,7,8,32,33] [34] 1 1 (fun (x:Nat × List (Int × Eg × Nat) × Nat)=>[.i .i64 (x.1:Nat)]) (fun (x:Nat × List (Int × Eg × Nat) × Nat) (_:List (List D))=>[c.row]) (fun (x:Nat × List (Int × Eg × Nat) × Nat) (_:Vx.Rows)=>[some (211,(bY c.b.boxes).map bP)]) (fun (x:Nat × List (Int × Eg × Nat) × Nat)=>[(gb,bG (D.i .i64) fE x.2.1 x.2.2),(gn,bG D.s fI lst cn)]) (fun (x:Nat × List (Int × Eg × Nat) × Nat)=>x.1<=c.links.l.length/\∀ k,lk x.2.1 k=wL c.b (c.b.links.take x.1) k) (fun (x:Nat × List (Int × Eg × Nat) × Nat)=>c.links.l.length - x.1) ((0,[],0)) (⟨Nat.zero_le _,fun k=>rfl⟩) sT ?_;(conv=>whnf);refine⟨by ((conv=>whnf);first|rfl|(simp[ak, au, SI.row, Node.row, Pfx.row, Link.row, aG, Line.row, Rule.row, Box.row, Slc.row, Config.row, bP, Eg.row];done)|(simp[ak, au, SI.row, Node.row, Pfx.row, Link.row, aG, Line.row, Rule.row, Box.row, Slc.row, Config.row, bP, Eg.row];rw[IntKind.wrap_i64];omega)),?_⟩;rintro⟨n,lb,cb⟩ ⟨hn,hlb⟩;dsimp only at hn hlb ⊢;(conv=>whnf);by_cases hlt:n<c.links.l.length
 . obtain⟨x,hx⟩:∃ x,c.links.l[n]? = some x:=⟨_,aC hlt⟩
   have hxI:c.links.l[((n:Nat):Int).toNat]? = some x:=hx;have hxr:(c.links.l.map Link.row)[((n:Nat):Int).toNat]? = some x.row:=by rw[aN,hxI];rfl
   obtain⟨hxf,hxt⟩:=zQ h4 (aU hx);obtain⟨p,f1,f2,f3,f4,f5⟩:=hat x.frm hxf;obtain⟨q,t1,t2,t3,t4,t5⟩:=hat x.dst hxt;have heg:D.agg [.i .i64 (p.box:Nat),.i .i64 (q.box:Nat),.i .i64 x.cost,.i .i64 ((lk lst x.frm).getD 0)]=fE (some (uX c.b x)):=by
    unfold fE uX Eg.row;simp only[Option.getD_some,f2,f3,t2]
   (try (conv=>whnf));repeat' (first|((first|refine⟨_,_,_,_,_,_,_,0,_,uX c.b x,Gv,rfl,rfl,heg,?_⟩|refine⟨_,_,_,_,_,_,_,_,dH,mH,rfl,?_⟩);conv=>whnf)|refine OkM.seq ?_|((first|refine OkM.region tok ?_|refine OkM.dP (id:=9) tok follows [(2,3,[]),(6,7,[])] (.q 0 (.q 1 (.q 2 (.q 4 (.q 5 (.q 6 (.alt 3 (.q 8 (.l 7 (.q 9 .nil))) (.alt 7 (.l 3 (.q 8 (.q 9 .nil))) .nil)))))))) kR ?_|refine OkM.dP (id:=10) tok follows [(6,16,[]),(11,16,[]),(13,16,[])] (.q 0 (.q 1 (.q 2 (.q 3 (.q 4 (.q 5 (.q 6 (.q 7 (.q 8 (.q 9 (.q 10 (.q 11 (.q 12 (.q 13 (.q 14 (.q 15 (.l 16 .nil))))))))))))))))) kR ?_|refine OkM.cond ?_);conv=>whnf)|refine OkM.block ?_|((first|refine OkM.skip ?_|refine nI ?_|refine ix _ aS ?_|refine⟨_,aS,?_⟩);conv=>whnf)|(refine bI ?_ ?_<;>intro<;>first|omega|conv=>whnf)|(refine aJ ?_;conv=>whnf)|(exact True.intro)|(refine And.intro ?_ ?_<;>(conv=>whnf))|fail)
   all_goals
    refine⟨(n+1,(aX lb cb ((lk lst x.frm).getD 0) (uX c.b x)).1,(aX lb cb ((lk lst x.frm).getD 0) (uX c.b x)).2),by dsimp only;omega,⟨by dsimp only;omega,fun k=>?_⟩,List.Sublist.refl _,?_⟩
    . dsimp only
      rw[ug,VR (l:=c.b.links) (x:=x) hx k,hlb,f3]
    . (conv=>whnf)
      rfl
 . obtain rfl:n=c.links.l.length:=oA
   have htl:c.b.links.take c.links.l.length=c.b.links:=au (Nat.le_refl _);rw[htl] at hlb;(try (conv=>whnf));repeat' (first|refine OkM.seq ?_|((first|refine OkM.region tok ?_|refine OkM.cond ?_);conv=>whnf)|refine OkM.block ?_|(refine OkM.exit ?_;conv=>whnf)|(refine bI ?_ ?_<;>intro<;>first|omega|conv=>whnf)|fail)
   refine OkM.ghost 13 122 rfl ?_;(conv=>whnf);have hel:∀ k:Nat,k<=(bY c.b.boxes).length->(jY c.b k).length<=2304:=fun k hk=>by have:=QH (c:=c.b) hlk k;omega
   refine OkM.aT [8,64] [13,65] 2 1 (fun (k:Nat)=>[.own 1 (jY c.b k).length,.i .i64 (k:Nat)]) (fun (k:Nat) (_:List (List D))=>[c.row]) (fun (k:Nat) (_:Vx.Rows)=>[some (211,(bY c.b.boxes).map bP),some (122,(jY c.b k).map Eg.row)]) (fun (k:Nat)=>[(gb,bG (D.i .i64) fE lb cb),(gn,bG D.s fI lst cn)]) (fun (k:Nat)=>k<=(bY c.b.boxes).length) (fun (k:Nat)=>(bY c.b.boxes).length - k) (0) (Nat.zero_le _) sT ?_;(conv=>whnf);refine⟨by ((conv=>whnf);first|rfl|(simp[ak, au, SI.row, Node.row, Pfx.row, Link.row, aG, Line.row, Rule.row, Box.row, Slc.row, Config.row, bP, Eg.row];done)|(simp[ak, au, SI.row, Node.row, Pfx.row, Link.row, aG, Line.row, Rule.row, Box.row, Slc.row, Config.row, bP, Eg.row];rw[IntKind.wrap_i64];omega)),?_⟩;rintro k hk;(conv=>whnf);have hem:((jY c.b k).map Eg.row).length=(jY c.b k).length:=sI;have hek:=hel k hk;by_cases hkl:k<(bY c.b.boxes).length
   . have CS:=hlb k
     cases he:wL c.b c.b.links k with
     | none=>
      rw[he] at CS;have hes:jY c.b (k+1)=jY c.b k:=by rw[DN,Py h4,he];simp
      (try (conv=>whnf));repeat' (first|(refine⟨_,_,_,_,_,_,_,_,Gv,mH,rfl,?_⟩;conv=>whnf)|refine OkM.seq ?_|((first|refine OkM.region tok ?_|refine OkM.cond ?_);conv=>whnf)|refine OkM.block ?_|((first|refine OkM.skip ?_|refine nI ?_|refine bU.l (aI ?_)|refine⟨_,.inl ⟨rfl,rfl⟩,?_⟩|refine⟨_,_,rfl,rfl,?_⟩);conv=>whnf)|(refine bI ?_ ?_<;>intro<;>first|omega|conv=>whnf)|(refine aJ ?_;conv=>whnf)|fail)
      all_goals first
       | (exfalso;rename_i hx;rw[CS] at hx;cases hx;done)
       | (refine⟨k+1,oA,oA,List.Sublist.refl _,?_⟩
          rw[hes];(conv=>whnf);rfl)
     | some e=>
      rw[he] at CS;have hes:jY c.b (k+1)=jY c.b k++[e]:=by rw[DN,Py h4,he];simp
      (try (conv=>whnf));repeat' (first|(refine⟨_,_,_,_,_,_,_,_,Gv,mH,rfl,?_⟩;conv=>whnf)|refine OkM.seq ?_|((first|refine OkM.region tok ?_|refine OkM.cond ?_);conv=>whnf)|refine OkM.block ?_|((first|refine OkM.skip ?_|refine nI ?_|refine bU.l (aI ?_)|refine⟨_,.inl ⟨rfl,rfl⟩,?_⟩|refine⟨_,_,rfl,rfl,?_⟩);conv=>whnf)|(refine bI ?_ ?_<;>intro<;>first|omega|conv=>whnf)|(refine aJ ?_;conv=>whnf)|fail)
      all_goals first
       | (exfalso;rename_i hx;exact hx (by rw[CS];rfl))
       | (refine⟨k+1,oA,oA,List.Sublist.refl _,?_⟩
          rw[hes,CS];(conv=>whnf);(first|rfl|simp[ak, au, SI.row, Node.row, Pfx.row, Link.row, aG, Line.row, Rule.row, Box.row, Slc.row, Config.row, bP, Eg.row]);done)
   . obtain rfl:k=(bY c.b.boxes).length:=oA
     (try (conv=>whnf));repeat' (first|refine OkM.seq ?_|((first|refine OkM.region tok ?_|refine OkM.cond ?_|refine OkM.exit ?_|refine OkM.ret ?_);conv=>whnf)|(refine bI ?_ ?_<;>intro<;>first|omega|conv=>whnf)|fail)
     refine Or.inr (Or.inl ?_);(conv=>whnf);refine⟨?_,?_⟩<;>(rw[hpl];rfl)
end Go.Proofs.YtnlingegeangmaaGreatDoor
namespace Go.Proofs.YtnlingegeangmaaGreatDoor
open Go Go.Vx
theorem filter_lt{α:Type}(f:α->Int)(n:Int):∀ l:List α,(l.filter fun x=>decide (f x<n+1)).length=(l.filter fun x=>decide (f x<n)).length+(l.filter fun x=>decide (f x=n)).length
 | []=>rfl
 | x :: l=>by
  have ih:=filter_lt f n l;simp only[List.filter_cons];by_cases h1:f x<n
  . rw[if_pos (by simpa using by omega),if_pos (by simpa using h1),if_neg (by simpa using by omega)]
    simp only[List.length_cons];omega
  . by_cases h2:f x=n
    . rw[if_pos (by simpa using by omega),if_neg (by simpa using by omega),if_pos (by simpa using h2)]
      simp only[List.length_cons];omega
    . rw[if_neg (by simpa using by omega),if_neg (by simpa using by omega),if_neg (by simpa using h2)]
      exact ih
theorem Ox{c:bC}(h:∀ x ∈ c.links,0<=plc (aP c.boxes) x.frm):∀ n:Nat,(jY c n).length=(c.links.filter fun x=>decide (plc (aP c.boxes) x.frm<n)).length
 | 0=>by
  rw[show (c.links.filter fun x=>decide (plc (aP c.boxes) x.frm<(0:Nat)))=[] from List.filter_eq_nil_iff.2 fun x hx=>by have:=h x hx;simp;omega];rfl
 | n+1=>by
  rw[DN,List.length_append,Ox h n];have:=filter_lt (fun x:Link=>plc (aP c.boxes) x.frm) n c.links;simp only[xO,qC,bV];rw[<- this];rfl
theorem Zt{c:bC}(h:(lK c).1=0):(dS c).length=c.links.length:=by
 unfold dS;rw[Ox fun x hx=>(rD (zQ h hx).1).1,List.filter_eq_self.2];intro x hx;have:=A8 (aP c.boxes) x.frm;simpa using this
end Go.Proofs.YtnlingegeangmaaGreatDoor
namespace Go.Proofs.YtnlingegeangmaaGreatDoor
open Go Go.Vx
theorem Zu{c:bC}(h:(ql c).1=0){b:bf}(hb:b ∈ c.boxes):(aV (oP c b) [] b.owns).1=0/\(aV (qj c b) [] b.routes).1=0:=by
 obtain⟨i,hi⟩:=List.getElem?_of_mem hb;have h1:=sU h i b hi;unfold oM at h1;by_cases a1:(aV (guardE c b) [] b.guards).1=0
 . rw[lG _ a1] at h1
   by_cases a2:(aV (qh c b) [] b.rules).1=0
   . rw[lG _ a2] at h1
     by_cases a3:(aV (oP c b) [] b.owns).1=0
     . rw[lG _ a3] at h1
       exact⟨a3,h1⟩
     . rw[rO _ a3] at h1;exact absurd h1 a3
   . rw[rO _ a2] at h1;exact absurd h1 a2
 . rw[rO _ a1] at h1;exact absurd h1 a1
structure Ui(c:bC)(b:bf)(p:Pfx):Prop where
 l0:0<=p.len
 l1:p.len<=cu c
 v0:0<=p.value
 v1:p.value<(tw (cu c).toNat:Int)
 md:p.value % (tw (cu c - p.len).toNat:Int)=0
 out:p.dst ∈ b.outs
theorem Oy{c:bC}{b:bf}{pre:List Pfx}{p:Pfx}(h:mP c b pre p=0):Ui c b p:=by
 unfold mP at h;split at h
 . cases h
 split at h
 . cases h
 split at h
 . cases h
 rename_i h1 h2 h3;refine⟨oA,oA,oA,oA,oA,?_⟩;rw[o8] at h;refine Classical.byContradiction fun hn=>?_
 by_cases hi:p.dst ∈ b.ins
 . rw[vC hn hi] at h;cases h
 . rw[qO hn hi] at h;cases h
theorem PE{e:Int}{t:Str}(h:(told e t).1=0):e=0:=by
 unfold told at h;split at h
 . exact absurd h aS
 . omega
theorem abJ{c:bC}(h:(ql c).1=0){b:bf}(hb:b ∈ c.boxes){p:Pfx}(hp:p ∈ b.owns\/p ∈ b.routes):Ui c b p:=by
 obtain⟨h1,h2⟩:=Zu h hb;rcases hp with hp|hp
 . obtain⟨i,hi⟩:=List.getElem?_of_mem hp
   exact Oy (PE (sU h1 i p hi))
 . obtain⟨i,hi⟩:=List.getElem?_of_mem hp
   exact Oy (PE (sU h2 i p hi))
theorem PG{all:List Fd}:∀ (r:List Fd) (i:Nat) (sum:Int),r=all.drop i->(kD all r i sum).1=0->∀ (j:Nat) f,i<=j->all[j]? = some f->∀ g ∈ all.take j,g.name ≠ f.name
 | [],i,sum,hr,_,j,f,hj,hf=>by
  have:=(aK.1 hf).1;have h2:(all.drop i).length=0:=by rw[<- hr];rfl
  rw[List.length_drop] at h2;omega
 | x :: r,i,sum,hr,h,j,f,hj,hf=>by
  have hx:all[i]? = some x:=by
   have:(all.drop i)[0]? = some x:=by rw[<- hr];rfl
   rwa [List.getElem?_drop,Nat.add_zero] at this
  have hr':r=all.drop (i+1):=by
   have:(all.drop i).drop 1=r:=by rw[<- hr];rfl
   rw[<- this,List.drop_drop]
  by_cases hb:uT (all.take i) x sum
  . rw[Dc hb] at h;cases h
  . rw[Du hb] at h
    rcases Nat.eq_or_lt_of_le hj with e|e
    . subst e
      rw[hx] at hf;cases hf;intro g hg he;exact hb (.inr (.inr (.inr (.inl ⟨g,hg,he⟩))))
    . exact PG r (i+1) _ hr' h j f e hf
theorem Zv{c:bC}(h:wK c){i j:Nat}{f g:SI}(hi:c.fields[i]? = some f)(hj:c.fields[j]? = some g)(he:f.s=g.s):i=j:=by
 have h0:=h.chk;have h1:(kD (fds c.fields) (fds c.fields) 0 0).1=0:=by
  unfold dh at h0;split at h0
  . cases h0
  split at h0
  . cases h0
  rw[h0]
 have key:∀ {i j:Nat} {f g:SI},c.fields[i]? = some f->c.fields[j]? = some g->f.s=g.s->¬ i<j:=by
  intro i j f g hi hj he hlt;have h2:(fds c.fields)[j]? = some g.fd:=by unfold fds;rw[aN,hj];rfl
  have h3:(fds c.fields)[i]? = some f.fd:=by unfold fds;rw[aN,hi];rfl
  exact PG _ 0 0 rfl h1 j g.fd (Nat.zero_le _) h2 f.fd (aU (by rw[List.getElem?_take_of_lt hlt];exact h3)) he
 rcases Nat.lt_trichotomy i j with h|h|h
 . exact absurd h (key hi hj he)
 . exact h
 . exact absurd h (key hj hi he.symm)
def Gw(c:Config)(b:Box)(p:Pfx):Int:=plc (aP c.b.boxes) (dot b.name p.dst)
def rtO(c:Config)(b:Box)(k:Int)(p:Pfx):aj:=⟨k,p.value,p.len,Gw c b p⟩
def LU(c:Config)(b:Box):List aj:=b.owns.l.map (rtO c b 1)++b.routes.l.map (rtO c b 2)
def CU(c:Config)(j:Nat):List aj:=match c.boxes.l[j]? with|some b=>LU c b|none=>[]
def wlF(c:Config)(i:Nat)(e:List aj):List (List aj):=(List.range c.boxes.l.length).map fun j=>if j<i then CU c j else if j=i then e else []
theorem EZ{c:Config}{i:Nat}(e:List aj)(h:i<c.boxes.l.length):(wlF c i e)[i]? = some e:=by
 unfold wlF;rw[aN,List.getElem?_range h];simp
theorem Sm{c:Config}{i:Nat}(e e':List aj):(wlF c i e).set i e'=wlF c i e':=by
 unfold wlF;apply List.ext_getElem?;intro j;by_cases hj:i=j
 . subst hj
   by_cases hl:i<c.boxes.l.length
   . rw[List.getElem?_set_self (by simpa using hl),aN,List.getElem?_range hl]
     simp
   . rw[List.getElem?_eq_none sO,List.getElem?_eq_none sO]
 . rw[List.getElem?_set_ne hj,aN,aN]
   by_cases hl:j<c.boxes.l.length
   . rw[List.getElem?_range hl]
     simp only[Option.map_some];congr 1;split
     . rfl
     . rw[if_neg (fun e=>hj e.symm),if_neg (fun e=>hj e.symm)]
   . rw[List.getElem?_eq_none (l:=List.range _) sO]
     rfl
theorem Zw{c:Config}{i:Nat}{b:Box}(h:c.boxes.l[i]? = some b):wlF c i (LU c b)=wlF c (i+1) []:=by
 unfold wlF;apply List.map_congr_left;intro j _;by_cases h1:j<i
 . rw[if_pos h1,if_pos oA]
 . by_cases h2:j=i
   . subst h2
     rw[if_neg h1,if_pos rfl,if_pos oA];unfold CU;rw[h]
   . rw[if_neg h1,if_neg h2,if_neg oA]
     split<;>rfl
theorem Zx(c:Config):wlF c 0 []=List.replicate c.boxes.l.length []:=by
 unfold wlF;apply List.ext_getElem?;intro j;rw[aN,List.getElem?_replicate];by_cases hl:j<c.boxes.l.length
 . rw[List.getElem?_range hl,if_pos hl]
   simp
 . rw[List.getElem?_eq_none sO,if_neg hl]
   rfl
noncomputable def oU(c:Config)(k:Key):List Int:=fJ c.boxes.l.length (dS c.b) (byF (dJ c.boxes.l c.boxes.l.length) k)
noncomputable def qF(c:Config)(k:Key):List Int:=fA c.boxes.l.length (dS c.b) (byF (dJ c.boxes.l c.boxes.l.length) k)
noncomputable def UL(c:Config)(k:Key)(i:Nat):Int:=(((dS c.b)[(((qF c k)[i]?).getD 0).toNat]?).map Eg.out).getD 0
noncomputable def sF(c:Config)(i:Nat)(k:Key):List aj:=if 0<((oU c k)[i]?).getD 0 then [⟨3,k.1,k.2,UL c k i⟩] else []
noncomputable def dw(c:Config)(ks:List Key)(n i:Nat):List aj:=CU c i++(ks.take n).flatMap (sF c i)
noncomputable def clF(c:Config)(ks:List Key)(n i:Nat):List (List aj):=(List.range c.boxes.l.length).map fun j=>dw c ks (if j<i then n+1 else n) j
theorem PI{c:Config}{ks:List Key}{n:Nat}{k:Key}(h:ks[n]? = some k)(i:Nat):dw c ks (n+1) i=dw c ks n i++sF c i k:=by
 unfold dw;rw[List.take_add_one,h];simp[List.flatMap_append]
theorem JE{c:Config}{ks:List Key}{n i:Nat}(h:i<c.boxes.l.length):(clF c ks n i)[i]? = some (dw c ks n i):=by
 unfold clF;rw[aN,List.getElem?_range h];simp
theorem Sr{c:Config}{ks:List Key}{n i:Nat}:(clF c ks n i).set i (dw c ks (n+1) i)=clF c ks n (i+1):=by
 unfold clF;apply List.ext_getElem?;intro j;by_cases hj:i=j
 . subst hj
   by_cases hl:i<c.boxes.l.length
   . rw[List.getElem?_set_self (by simpa using hl),aN,List.getElem?_range hl]
     simp
   . rw[List.getElem?_eq_none sO,List.getElem?_eq_none sO]
 . rw[List.getElem?_set_ne hj,aN,aN]
   by_cases hl:j<c.boxes.l.length
   . rw[List.getElem?_range hl]
     simp only[Option.map_some];congr 2;by_cases h1:j<i
     . rw[if_pos h1,if_pos oA]
     . rw[if_neg h1,if_neg oA]
   . rw[List.getElem?_eq_none (l:=List.range _) sO]
     rfl
theorem Zy{c:Config}{ks:List Key}{n i:Nat}(h:dw c ks (n+1) i=dw c ks n i):clF c ks n (i+1)=clF c ks n i:=by
 rw[<- Sr,h];by_cases hl:i<c.boxes.l.length
 . exact zV (JE hl)
 . apply List.ext_getElem?
   intro j;by_cases hj:i=j
   . subst hj
     have e:(clF c ks n i).length=c.boxes.l.length:=by unfold clF;simp
     rw[List.getElem?_eq_none sO,List.getElem?_eq_none oA]
   . rw[List.getElem?_set_ne hj]
theorem Zz(c:Config)(ks:List Key)(n:Nat):clF c ks n c.boxes.l.length=clF c ks (n+1) 0:=by
 unfold clF;apply List.map_congr_left;intro j hj;rw[if_pos (List.mem_range.1 hj),if_neg oA]
theorem ZA(c:Config)(ks:List Key):clF c ks 0 0=wlF c c.boxes.l.length []:=by
 unfold clF wlF;apply List.map_congr_left;intro j hj;rw[if_neg oA,if_pos (List.mem_range.1 hj)];simp[dw]
end Go.Proofs.YtnlingegeangmaaGreatDoor
namespace Go.Proofs.YtnlingegeangmaaGreatDoor
open Go Go.Vx
def UM(bn name:Str):Prop:=bn.length<name.length/\name.take bn.length=bn/\name[bn.length]? = some 46
instance (bn name:Str):Decidable (UM bn name):=by unfold UM;infer_instance
end Go.Proofs.YtnlingegeangmaaGreatDoor
namespace Go.Proofs.YtnlingegeangmaaGreatDoor
open Go Go.Vx
noncomputable def kV(gB:Prop)(bits:Int)(l:List aj):List aj:=by classical exact if gB then dK bits l else dR bits l
section
variable {c : Config} {ks : List Key}
theorem ZB(hg:∀ k ∈ ks,eP c.boxes.l.length (dS c.b) (byF (dJ c.boxes.l c.boxes.l.length) k)=0){k:Key}(hk:k ∈ ks) :
    jk c.boxes.l.length (dS c.b) (byF (dJ c.boxes.l c.boxes.l.length) k) (oU c k)/\kZ c.boxes.l.length (dS c.b) (oU c k) (qF c k) 0 (dS c.b).length/\∀ e ∈ dS c.b,1<=e.cost:=by
 obtain⟨N,far,fst,h1,h2,h3,h4,h5⟩:=QJ (hg k hk);obtain rfl:c.boxes.l.length=N:=oA;unfold oU qF;rw[h4,h5];obtain⟨_,_,_,_,hE,_⟩:=IC (hg k hk);exact⟨h2,h3,fun e he=>(hE e he).2.2.2.2.1⟩
end
end Go.Proofs.YtnlingegeangmaaGreatDoor
namespace Go.Vx
open Go.RowKit
inductive gG(g c n:Nat)(e:TypeId)(xs:List (List D)):List D->List D->Prop
 | nil:gG g c n e xs [] []
 | same (d) {l l':List D} (h:gG g c n e xs l l'):gG g c n e xs (d :: l) (d :: l')
 | raw (m) (hm:m<=n) {l l':List D} (h:gG g c n e xs l l'):gG g c n e xs (.rsl g m c :: l) (.lst e (xs.take m) (xs.drop m) :: l')
 | rnl (e') {l l':List D} (h:gG g c n e xs l l'):gG g c n e xs (.rnl :: l) (.lst e' [] [] :: l')
theorem gG.len{g c n:Nat}{e:TypeId}{xs:List (List D)}{l l':List D}(h:gG g c n e xs l l'):l'.length=l.length:=by
 induction h<;>simp[*]
theorem gG.get{g c n:Nat}{e:TypeId}{xs:List (List D)}{sz:TypeId->Nat}{V:Vw}{l l':List D}(h:gG g c n e xs l l')(hp:∀ m,m<=n->RI sz V (.slice (some ⟨g,0,none⟩) m c) (.lst e (xs.take m) (xs.drop m))) :
    ∀ (j:Nat) d',l'[j]? = some d'->∃ d,l[j]? = some d/\∀ v,RI sz V v d->RI sz V v d':=by
 induction h with
 | nil=>intro j d' hj;simp at hj
 | same d h ih=>
  intro j d' hj
  cases j with
  | zero=>simp at hj;subst hj;exact⟨d,rfl,fun _ h=>h⟩
  | succ j=>exact ih j d' (by simpa using hj)
 | raw m hm h ih=>
  intro j d' hj
  cases j with
  | zero=>simp at hj;subst hj;exact⟨_,rfl,fun v hv=>by cases hv;exact hp m hm⟩
  | succ j=>exact ih j d' (by simpa using hj)
 | rnl e' h ih=>
  intro j d' hj
  cases j with
  | zero=>simp at hj;subst hj;exact⟨_,rfl,fun v hv=>by cases hv;exact Tf e'⟩
  | succ j=>exact ih j d' (by simpa using hj)
section
variable {w0 w : World} {V0 : Fr} {V : Vw} {μ : List Nat} {ω : List Value} {box : List (List D)} {row : Rows} {T : Tab} {B : aQ} {K : St → aQ → Prop}
theorem Mem.TG{sz:TypeId->Nat}(h:Mem sz w0 V0 V μ ω box row w){r i:Nat}{e:TypeId}{ys:List (List D)}{cs cs':List D}(hr:row[r]? = some (some (e,ys)))(hi:ys[i]? = some cs)(hl:cs'.length=cs.length)
    (hd:∀ (j:Nat) d',cs'[j]? = some d'->∃ d,cs[j]? = some d/\∀ v,RI sz V v d->RI sz V v d'):Mem sz w0 V0 V μ ω box (row.set r (some (e,ys.set i cs'))) w:=by
 have hrl:r<row.length:=(aK.1 hr).1;have hil:i<ys.length:=(aK.1 hi).1;have own:∀ l g,Own μ ω (row.set r (some (e,ys.set i cs'))) l g->Own μ ω row l g:=by
  intro l g hl
  cases l with
  | inl i=>exact hl
  | inr q=>
   obtain⟨u,y,h1,h2,h3⟩:=hl;by_cases hq:q=r
   . subst hq
     exact⟨u,_,h1,hr,h3⟩
   . rw[List.getElem?_set_ne (Ne.symm hq)] at h2
     exact⟨u,y,h1,h2,h3⟩
 refine { h with rl:=by simp[h.rl],hrow:=fun q v e2 xs h1 h2=>?_,uniq:=fun l l' g a b=>h.uniq l l' g (own l g a) (own l' g b),new:=fun l g a=>h.new l g (own l g a),eF:=fun p u l hp a=>h.eF p u l hp (own l _ a),away:=fun x hx=>?_ }
 . by_cases hq:q=r
   . subst hq
     rw[List.getElem?_set_self hrl] at h2;cases h2;obtain⟨vals,a,b,c,f⟩:=h.hrow q v e ys h1 hr;refine⟨vals,by simpa using a,b,fun k rw_ hk=>?_,fun k rw_ m x hk hm=>?_⟩
     . by_cases hki:i=k
       . subst hki
         rw[List.getElem?_set_self hil] at hk;cases hk;rw[hl];exact c i cs hi
       . rw[List.getElem?_set_ne hki] at hk
         exact c k rw_ hk
     . by_cases hki:i=k
       . subst hki
         rw[List.getElem?_set_self hil] at hk;cases hk;obtain⟨d,h5,h6⟩:=hd m x hm;obtain⟨u,hu,hR⟩:=f i cs m d hi h5;exact⟨u,hu,h6 u hR⟩
       . rw[List.getElem?_set_ne hki] at hk
         exact f k rw_ m x hk hm
   . rw[List.getElem?_set_ne (Ne.symm hq)] at h2
     exact h.hrow q v e2 xs h1 h2
 . obtain⟨a,b,c,d1,e1⟩:=h.away x hx
   exact⟨a,b,fun l hl=>c l (own l _ hl),d1,e1⟩
theorem GoH.sG{env:List (Nat × D)}{nn:Nat}(t0 r2 i:Nat){r g n cap:Nat}{e e2:TypeId}{xs ys:List (List D)}{cs:List D}(cs':List D)(ht:look env t0 = .tie r g n cap)(hr:row[r]? = some (some (e,xs)))
    (hr2:row[r2]? = some (some (e2,ys)))(hne:r ≠ r2)(hi:ys[i]? = some cs)(hc:gG g cap n e xs cs cs')
    (h:nS r (fun m=>.lst e (xs.take m) (xs.drop m)) env fun env=>nT r (fun m=>.lst e (xs.take m) (xs.drop m)) box fun box=>fH row r none fun row=>fH row r2 (some (e2,ys.set i cs')) fun row=>K ⟨env,box,row,nn⟩ B):GoH T ⟨env,box,row,nn⟩ B K:=by
 intro w0 F V μ ω a w hS;have hv:=hS.sim.env t0;dsimp only at hv;rw[ht] at hv;have hω:=hv.zi;obtain⟨V',hle,hM,hconv⟩:=hS.sim.mem.pub hω hr;simp only[tX,tY] at h;obtain⟨_,h⟩:=gW _ _ _ _ h;obtain⟨_,h⟩:=gW _ _ _ _ h;have hri:∀ m,m<=n->RI (ah T) V' (.slice (some ⟨g,0,none⟩) m cap) (.lst e (xs.take m) (xs.drop m)):=fun m hm=>Eo (hconv m _ (.own r m _ n cap hω hm)) rfl
 refine⟨_,V',μ,ω,B,h,⟨⟨hS.sim.tmps,hS.sim.defers,fun t=>?_,hM.TG (by rw[List.getElem?_set_ne hne];exact hr2) hi hc.len (hc.get hri)⟩,hS.nodup⟩⟩;show RS _ _ _ _ _ (look (env.map fun x=>(x.1,jM r (fun m=>.lst e (xs.take m) (xs.drop m)) x.2)) t);rw[tq];exact (hS.sim.env t).sub hle (fun _ _ _ h=>h) hconv
theorem Mem.abK{F:Fr}{M:aQ}{g n c:Nat}{e:TypeId}{xs:List (List D)}{o:Obj}(h:Mem (ah T) w0 (F.has ((g,o) :: M)) V μ ω box row w)(hn:(((g,o) :: (M++F.kc)).map (·.1)).Nodup)(hb:fP (ah T) e n c xs o) :
    ∃ V',VLe V V'/\Mem (ah T) w0 (F.has M) V' μ ω box row w/\∀ m,m<=n->RI (ah T) V' (.slice (some ⟨g,0,none⟩) m c) (.lst e (xs.take m) (xs.drop m)):=by
 obtain⟨cur,vals,rfl,hnx,q1,q2,q3,q4,q5,hR⟩:=hb;obtain⟨a1,b1,c1,d1,_⟩:=h.away (g,.cells cur e (0,0)) (by show _ ∈ _ :: (M++F.kc);simp);dsimp only at a1 b1 c1 d1;rw[List.map_cons,List.nodup_cons] at hn
 let V':Vw:=xw V w (some ⟨g,0,none⟩) (n*ah T e)
 have hout:∀ p:Addr,p.block ≠ g->V' p=V p:=fun p hp=>DY fun ad e hh=>by cases e;exact hp hh.1
 have hle:VLe V V':=fun p u hp=>by
  rw[hout p (d1 p u hp)];exact hp
 have hri:∀ m,m<=n->RI (ah T) V' (.slice (some ⟨g,0,none⟩) m c) (.lst e (xs.take m) (xs.drop m)):=fun m hm=>
  fU.lst (V:=V) (hR.mono (fun _ _ h=>by cases h)) hle oA q2 (fun e=>by cases e) (fun ad e1 j u hu=>by
   cases e1;have hj:j<n*ah T e:=by rw[<- q5];exact (aK.1 hu).1
   rw[add_lit,Nat.zero_add];refine (Eu (V:=V) (w:=w) (ad:=⟨g,0,none⟩) (p:=⟨g,j,none⟩) ⟨rfl,hj⟩).trans ?_;rw[cell_of_row w g j cur e (0,0) a1,<- Array.getElem?_toList,<- List.getElem?_take_of_lt hj,q4,hu]) oA
 refine⟨V',hle,⟨h.below,⟨⟨fun p u hp=>hle p u (h.vok.1.1 p u hp),h.vok.1.2⟩,fun p u hp=>?_⟩,fun p u hp=>hle _ _ (h.vle p u hp),fun p hp=>?_,h.bl,fun i b cs h1 h2=>?_,h.rl,fun r v e2 ys h1 h2=>?_,h.uniq,h.new,fun p u l hp hl=>?_,fun x hx=>?_⟩,hri⟩
 . by_cases hb:p.block=g/\p.off<n*ah T e
   . have:V' p=w.cell? p:=Eu (ad:=⟨g,0,none⟩) hb
     rw[<- this];exact hp
   . have:V' p=V p:=DY fun ad e hh=>by cases e;exact hb hh
     rw[this] at hp;exact h.vok.2 p u hp
 . rw[hout p oA]
   exact h.gu p hp
 . obtain⟨us,t',x1,x2,x3,x4,x5⟩:=h.hbox i b cs h1 h2
   exact⟨us,t',x1,x2,x3,fun j v d e f=>(x4 j v d e f).mono hle (.refl μ) (.refl ω),x5⟩
 . obtain⟨vals',x1,x2,x3,x4⟩:=h.hrow r v e2 ys h1 h2
   exact⟨vals',x1,x2,x3,fun i rw_ j d e f=>let ⟨x,y,z⟩:=x4 i rw_ j d e f;⟨x,y,z.mono hle⟩⟩
 . by_cases hb:p.block=g
   . rw[hb] at hl
     exact c1 l hl
   . rw[hout p hb] at hp
     exact h.eF p u l hp hl
 . obtain⟨y1,y2,y3,y4,y5⟩:=h.away x (List.mem_cons_of_mem _ hx)
   refine⟨y1,y2,y3,fun p u hp hb=>?_,y5⟩;by_cases hpg:p.block=g
   . exact hn.1 (List.mem_map.2 ⟨x,hx,by rw[<- hb,hpg]⟩)
   . rw[hout p hpg] at hp
     exact y4 p u hp hb
theorem PK{α:Type}{l:List α}{r:Nat}{x:α}(h:l[r]? = some x):l.set r x=l:=by
 apply List.ext_getElem?;intro q;by_cases hq:r=q
 . subst hq
   rw[List.getElem?_set_self (aK.1 h).1,h]
 . rw[List.getElem?_set_ne hq]
theorem Mem.Gx{F:Fr}{e e2:TypeId}{r:Nat}(f:Nat->List D):∀ (E:List (Nat × Obj)) (k:Nat) (pre:List (List D)) (V:Vw) (row:Rows),Mem (ah T) w0 (F.has (E++B)) V μ ω box row w->((E++(B++F.kc)).map (·.1)).Nodup ->
    (∀ (j:Nat) x,E[j]? = some x->fP (ah T) e 1 1 [f (k+j)] x.2)->pre.length=k->row[r]? = some (some (e2,pre++E.map fun x=>[.rsl x.1 1 1])) ->
    ∃ V',VLe V V'/\Mem (ah T) w0 (F.has B) V' μ ω box (row.set r (some (e2,pre++(List.range' k E.length).map fun j=>[.lst e [f j] []]))) w
 | [],k,pre,V,row,h,_,_,_,hr=>by
  refine⟨V,fun _ _ h=>h,?_⟩;have e0:row.set r (some (e2,pre++(List.range' k ([]:List (Nat × Obj)).length).map fun j=>[D.lst e [f j] []]))=row:=PK hr;rw[e0];exact h
 | x :: E,k,pre,V,row,h,hn,hE,hk,hr=>by
  have hrl:r<row.length:=(aK.1 hr).1;have hb:=hE 0 x rfl;rw[Nat.add_zero] at hb;obtain⟨V1,hle,hM,hri⟩:=Mem.abK (g:=x.1) (o:=x.2) (M:=E++B) h (by rw[List.append_assoc];exact hn) hb;have hM2:=hM.TG (i:=k) (cs:=[.rsl x.1 1 1]) (cs':=[.lst e [f k] []]) hr (by rw[<- hk,List.getElem?_append_right (Nat.le_refl _),Nat.sub_self];rfl) rfl ((gG.raw 1 (Nat.le_refl _) .nil:gG x.1 1 1 e [f k] _ _).get hri);have e1:(pre++((x :: E).map fun x=>[D.rsl x.1 1 1])).set k [.lst e [f k] []]=(pre++[[.lst e [f k] []]])++E.map fun x=>[.rsl x.1 1 1]:=by
   rw[List.set_append_right _ _ oA,<- hk,Nat.sub_self,List.map_cons,List.set_cons_zero,List.append_assoc];rfl
  rw[e1] at hM2;rw[List.cons_append,List.map_cons,List.nodup_cons] at hn;obtain⟨V2,hle2,hM3⟩:=Mem.Gx (r:=r) f E (k+1) (pre++[[.lst e [f k] []]]) V1 _ hM2 hn.2 (fun j y hj=>by rw[Nat.add_assoc,Nat.add_comm 1 j];exact hE (j+1) y hj) (by simp[hk]) (List.getElem?_set_self hrl);refine⟨V2,fun p u h=>hle2 p u (hle p u h),?_⟩;rw[List.set_set,List.append_assoc] at hM3;exact hM3
theorem GoH.Gx{env:List (Nat × D)}{nn:Nat}(r:Nat){e e2:TypeId}(f:Nat->List D){E:List (Nat × Obj)}(hE:∀ (j:Nat) x,E[j]? = some x->fP (ah T) e 1 1 [f j] x.2)(hr:row[r]? = some (some (e2,E.map fun x=>[.rsl x.1 1 1])))
    (h:fH row r (some (e2,(List.range E.length).map fun j=>[.lst e [f j] []])) fun row=>K ⟨env,box,row,nn⟩ B):GoH T ⟨env,box,row,nn⟩ (E++B) K:=by
 intro w0 F V μ ω a w hS;obtain⟨_,h⟩:=gW _ _ _ _ h;obtain⟨V',hle,hM⟩:=Mem.Gx (r:=r) (B:=B) (F:=F) f E 0 [] V row hS.sim.mem (by rw[<- List.append_assoc];exact hS.nodup) (fun j x hj=>by rw[Nat.zero_add];exact hE j x hj) rfl hr;rw[List.nil_append,<- List.range_eq_range'] at hM;exact⟨_,V',μ,ω,B,h,⟨⟨hS.sim.tmps,⟨hS.sim.defers.marks,hS.sim.defers.kept⟩,fun t=>(hS.sim.env t).mono hle (.refl μ) (.refl ω),hM⟩,by
  have:=hS.nodup;rw[List.append_assoc,List.map_append] at this;exact (List.nodup_append.1 this).2.1⟩⟩
theorem GoH.aaU{env:List (Nat × D)}{nn:Nat}(t kb:Nat)(L:List Nat){cs:List D}(ht:look env t = .bp kb 0)(hb:box[kb]? = some cs)(hi:uJ cs=true)
    (h:dN L 0 kb ⟨env,box,row,nn⟩ fun s=>match s with|⟨env',eU,row',n'⟩=>K ⟨(t,.ep cs) :: env',eU,row',n'⟩ B):GoH T ⟨env,box,row,nn⟩ B K:=by
 intro w0 F V μ ω a w hS;simp only[dN] at h;obtain⟨env',h,hE⟩:=G8 (s:=⟨env,box,row,nn⟩) hS.sim.env L _ h;obtain⟨h,_⟩:=qM h;rw[jv] at h;obtain⟨hf,h⟩:=h;obtain⟨h,_⟩:=qM h;have hM0:=hS.sim.mem;dsimp only at hM0;have hM:=hM0.take (k:=0) hf;have hv:=hS.sim.env t;dsimp only at hv;rw[ht] at hv;obtain⟨g,hg,hpv⟩:=hv.bp_;obtain⟨vs,ty,hh,hs,ho,hR,_⟩:=hM0.hbox kb g cs hg hb;have hnew:=hM0.new (.inl kb) g hg;have hown:∀ l,¬ Own (μ.take kb) (ω.take 0) (row.take 0) l g:=fun l hl=>by
  cases l with
  | inl i=>
   have h1:(μ.take kb)[i]? = some g:=hl;have h2:=jy h1;have h3:i<kb:=by
    have:=(aK.1 h1).1;rw[List.length_take] at this;omega
   have h4:=hM0.uniq (.inl i) (.inl kb) g h2 hg;injection h4 with h4
   omega
  | inr r=>
   obtain⟨v,x,h1,_⟩:=hl;simp at h1
 let V':Vw:=fun p=>if p.block=g then w.cell? p else V p
 have hout:∀ p:Addr,p.block ≠ g->V' p=V p:=fun p hp=>if_neg hp
 have hin:∀ p:Addr,p.block=g->V' p=w.cell? p:=fun p hp=>if_pos hp
 have hle:VLe V V':=fun p u hp=>by
  by_cases hb:p.block=g
  . rw[hin p hb]
    exact hM0.vok.2 p u hp
  . rw[hout p hb]
    exact hp
 have hep:RI (ah T) V' (.pointer (some ⟨g,0,none⟩)) (.ep cs):=by
  refine .ep _ _ (fun j=>vs.getD j undef) (fun j d hd=>?_) fun j d hd=>?_
  . have hlt:j<vs.size:=by rw[hs];exact (aK.1 hd).1
    rw[add_lit,Nat.zero_add,hin _ rfl,cell_of_row w g j vs ty (0,0) hh];refine⟨by simp[Array.getD,hlt],?_⟩;rw[show vs.getD j undef=vs[j] by simp[Array.getD,hlt]];exact ho _ sI
  . have hlt:j<vs.size:=by rw[hs];exact (aK.1 hd).1
    rw[show vs.getD j undef=vs[j] by simp[Array.getD,hlt]];exact (Ak (hR _ _ d (Array.getElem?_eq_getElem hlt) hd) (En hi _ d hd)).mono hle
 refine⟨_,V',μ.take kb,ω.take 0,B,h,⟨⟨hS.sim.tmps,⟨hS.sim.defers.marks,hS.sim.defers.kept⟩,fun x=>?_,?_⟩,hS.nodup⟩⟩
 . show RS _ _ _ _ _ (look ((t,.ep cs) :: env') x)
   unfold look;split
   . rename_i hb
     have:=dO hb;subst this;exact .imm _ _ (by rw[hpv];exact hep)
   . exact (hE x).mono hle (.refl _) (.refl _)
 . refine⟨hM.below,⟨⟨fun p u hp=>hle p u (hM.vok.1.1 p u hp),hM.vok.1.2⟩,fun p u hp=>?_⟩,fun p u hp=>hle _ _ (hM.vle p u hp),fun p hp=>?_,hM.bl,fun i b cs h1 h2=>?_,hM.rl,fun r v e2 ys h1 h2=>?_,hM.uniq,hM.new,fun p u l hp hl=>?_,fun x hx=>?_⟩
   . by_cases hb:p.block=g
     . rw[hin p hb] at hp
       exact hp
     . rw[hout p hb] at hp
       exact hM.vok.2 p u hp
   . rw[hout p oA]
     exact hM.gu p hp
   . obtain⟨us,t',x1,x2,x3,x4,x5⟩:=hM.hbox i b cs h1 h2
     exact⟨us,t',x1,x2,x3,fun j v d e f=>(x4 j v d e f).mono hle (.refl _) (.refl _),x5⟩
   . obtain⟨vals',x1,x2,x3,x4⟩:=hM.hrow r v e2 ys h1 h2
     exact⟨vals',x1,x2,x3,fun i rw_ j d e f=>let ⟨x,y,z⟩:=x4 i rw_ j d e f;⟨x,y,z.mono hle⟩⟩
   . by_cases hb:p.block=g
     . rw[hb] at hl
       exact hown l hl
     . rw[hout p hb] at hp
       exact hM.eF p u l hp hl
   . obtain⟨y1,y2,y3,y4,y5⟩:=hM.away x hx
     refine⟨y1,y2,y3,fun p u hp hb=>?_,y5⟩;by_cases hpg:p.block=g
     . exact (hM0.away x hx).2.2.1 (.inl kb) (by rw[<- hb,hpg];exact hg)
     . rw[hout p hpg] at hp
       exact y4 p u hp hb
theorem GoH.oG(i j:Nat)(e:TypeId){env:List (Nat × D)}{cs:List D}{n:Nat}(hi:box[i]? = some cs)(hj:cs[j]? = some .aO)
    (h:gZ row (some (e,[])) fun row'=>natLit row.length fun r=>fH cs j (.own r 0) fun cs'=>fH box i cs' fun eU=>K ⟨env,eU,row',n⟩ B):GoH T ⟨env,box,row,n⟩ B K:=by
 intro w0 F V μ ω a w hS;simp only[kY,kW] at h;obtain⟨hjl,h⟩:=gW _ _ _ _ h;obtain⟨hil,h⟩:=gW _ _ _ _ h;have hM:=hS.sim.mem.newRow (w':=w) (Ext.refl w) (v:=.slice none 0 0) (e:=e) (xs:=[]) (vals:=[]) ⟨sI,.inl ⟨rfl,rfl⟩⟩ ⟨sI,sI,sI⟩ (by simp[Value.ownBlock]);have hl:row.length=ω.length:=hS.sim.mem.rl.symm;have hown:RS (ah T) V μ (ω++[.slice none 0 0]) (.slice none 0 0) (.own row.length 0):=by
  refine .own _ 0 none 0 0 ?_ (Nat.le_refl _);rw[hl,List.getElem?_append_right (Nat.le_refl _)];simp
 refine⟨_,V,μ,ω++[.slice none 0 0],B,h,⟨⟨hS.sim.tmps,hS.sim.defers,fun x=>(hS.sim.env x).mono (.refl V) (.refl μ) (.append _ _),?_⟩,hS.nodup⟩⟩;refine⟨hM.below,hM.vok,hM.vle,hM.gu,by simpa using hM.bl,?_,hM.rl,hM.hrow,hM.uniq,hM.new,hM.eF,hM.away⟩;intro q g cs2 h1 h2;by_cases hq:q=i
 . subst hq
   rw[List.getElem?_set_self hil] at h2;cases h2;obtain⟨us,t',a1,b,c',d,ty⟩:=hM.hbox q g cs h1 hi;refine⟨us,t',a1,by simpa using b,c',fun k v d' e1 e2=>?_,Ej ty j rfl⟩;by_cases hk:k=j
   . subst hk
     rw[List.getElem?_set_self hjl] at e2;cases e2;have:=d k v _ e1 hj;rw[this.iY];exact hown
   . rw[List.getElem?_set_ne (Ne.symm hk)] at e2
     exact d k v d' e1 e2
 . rw[List.getElem?_set_ne (Ne.symm hq)] at h2
   exact hM.hbox q g cs2 h1 h2
end
section
variable {P : Program} {T T' : Tab}
theorem OkB.tab{H M:aH}{B:aQ}{s:St}{Q:Exit->St->aH->aQ->Prop}{c:Code}(hT:ah T'=ah T)(h:OkB P T' H c Q s M B):OkB P T H c Q s M B:=⟨by rw[<- hT];exact h.run⟩
theorem iJ.tab{f:FuncId}{ds:List D}{R:D->aH->aQ->Prop}(hT:ah T'=ah T)(h:iJ P T' f ds R):iJ P T f ds R:=⟨h.call,by rw[<- hT];exact h.run⟩
theorem iJ.nil{f:FuncId}{ds:List D}{R R':D->aH->aQ->Prop}(h:iJ P T f ds R)(hR:∀ d M B,R d M B->R' d M B\/∃ x,d = .tup [.aO,x]/\R' (.tup [.rnl,x]) M B):iJ P T f ds R':=by
 refine⟨h.call,fun V w args hV hl hr=>(h.run V w args hV hl hr).mono ?_⟩;rintro e w' ⟨V',v,d,M,B,rfl,hk,hrs,rest⟩;rcases hR d M B hk with h1|⟨x,rfl,h1⟩
 . exact⟨V',v,d,M,B,rfl,h1,hrs,rest⟩
 . refine⟨V',v,_,M,B,rfl,h1,?_,rest⟩
   obtain⟨vs,rfl,hs,hv⟩:=hrs.xk;refine .tup _ vs hs fun j u d h2 h3=>?_
   match j with
   | 0=>
    simp at h3;subst h3;rw[(hv 0 u .aO h2 rfl).iY];exact .imm _ _ .rnl
   | j+1=>exact hv (j+1) u d h2 h3
end
structure GoE(T:Tab)(s:St)(M:aQ)(K:St->aQ->Prop):Prop where
 go:GoH T s M K
theorem OkB.fin{P:Program}{T:Tab}{H M:aH}{B:aQ}{s:St}{Q:Exit->St->aH->aQ->Prop}{c:Code}(h:OkB P T H c (fun e s M B=>GoE T s B fun s' B'=>Q e s' M B') s M B):OkB P T H c Q s M B:=by
 refine⟨fun w0 F V μ ω a w hS=>wp_mono (h.run w0 F V μ ω a w hS) ?_⟩;rintro e a' w' ⟨s',V',μ',ω',M',B',hk,hS'⟩;obtain⟨s2,V2,μ2,ω2,B2,hk2,hS2⟩:=hk.go w0 (F.with M') V' μ' ω' a' w' ⟨hS'.m.sim,hS'.nd⟩;exact⟨s2,V2,μ2,ω2,M',B2,hk2,⟨⟨hS2.sim,hS'.m.nodup,hS'.m.old⟩,hS2.nodup⟩⟩
theorem GoH.skip{T:Tab}{s:St}{M:aQ}{K:St->aQ->Prop}(h:K s M):GoH T s M K:=GoH.perm (.refl _) h
theorem GoH.bind{T:Tab}{s:St}{M:aQ}{K:St->aQ->Prop}(h:GoH T s M fun s' M'=>GoH T s' M' K):GoH T s M K:=fun w0 F V μ ω a w hS=>by
 obtain⟨s',V',μ',ω',M',hk,hS'⟩:=h w0 F V μ ω a w hS;exact hk w0 F V' μ' ω' a w hS'
end Go.Vx
namespace Go.Proofs.YtnlingegeangmaaGreatDoor
open Go Go.Vx
def lU:Nat->Code->Code
 | 0,c=>c
 | n+1,.seq _ y=>lU n y
 | _+1,c=>c
noncomputable def ksF(c:Config):List Key:=by
 classical exact if h:∃ ks:List Key,ks.Pairwise ltK/\∀ k,k ∈ ks ↔ byF (dJ c.boxes.l c.boxes.l.length) k ≠ [] then Classical.choose h else []
theorem abL{c:Config}{ks:List Key}(h1:ks.Pairwise ltK)(h2:∀ k,k ∈ ks ↔ byF (dJ c.boxes.l c.boxes.l.length) k ≠ []):ksF c=ks:=by
 have h:∃ ks:List Key,ks.Pairwise ltK/\∀ k,k ∈ ks ↔ byF (dJ c.boxes.l c.boxes.l.length) k ≠ []:=⟨ks,h1,h2⟩;unfold ksF;rw[dif_pos h];obtain⟨g1,g2⟩:=Classical.choose_spec h;exact QK g1 h1 fun k=>(g2 k).trans (h2 k).symm
noncomputable def ku(c:Config)(ks:List Key)(j:Nat):List (List aj):=(List.range c.boxes.l.length).map fun a=>if a<j then kV c.gB (cu c.b) (dw c ks ks.length a) else dw c ks ks.length a
theorem Ee(c:Config)(ks:List Key)(j:Nat):(ku c ks j).length=c.boxes.l.length:=by simp[ku]
theorem QM{c:Config}{ks:List Key}{j:Nat}(h:j<c.boxes.l.length):(ku c ks j)[j]? = some (dw c ks ks.length j):=by
 unfold ku;rw[aN,List.getElem?_range h];simp
theorem Ef{c:Config}{ks:List Key}{j:Nat}:(ku c ks j).set j (kV c.gB (cu c.b) (dw c ks ks.length j))=ku c ks (j+1):=by
 apply List.ext_getElem?;intro a;unfold ku;by_cases ha:j=a
 . subst ha
   by_cases hl:j<c.boxes.l.length
   . rw[List.getElem?_set_self (by simpa using hl),aN,List.getElem?_range hl]
     simp
   . rw[List.getElem?_eq_none sO,List.getElem?_eq_none sO]
 . rw[List.getElem?_set_ne ha]
   by_cases hl:a<c.boxes.l.length
   . rw[aN,aN,List.getElem?_range hl]
     simp only[Option.map_some,Option.some.injEq];by_cases h:a<j
     . rw[if_pos h,if_pos oA]
     . rw[if_neg h,if_neg oA]
   . rw[List.getElem?_eq_none sO,List.getElem?_eq_none sO]
theorem Ye(c:Config)(ks:List Key):ku c ks 0=clF c ks ks.length 0:=by
 unfold ku clF;simp
noncomputable def fV(c:Config):List (List aj):=by
 classical exact if (fZ c.b).1 ≠ 0 then [] else if c.routing=[] then List.replicate c.boxes.l.length [] else
  if (∀ k ∈ ksF c,eP c.boxes.l.length (dS c.b) (byF (dJ c.boxes.l c.boxes.l.length) k)=0)/\(∀ j,j<c.boxes.l.length->dV (cu c.b) (dw c (ksF c) (ksF c).length j)=0) then ku c (ksF c) c.boxes.l.length else []
theorem ZC{c:Config}(h:(fZ c.b).1 ≠ 0):fV c=[]:=by unfold fV;rw[if_pos h]
theorem Sv{c:Config}(h:(fZ c.b).1=0)(hr:c.routing=[]):fV c=List.replicate c.boxes.l.length []:=by unfold fV;rw[if_neg (by simp[h]),if_pos hr]
theorem ZE{c:Config}(h:(fZ c.b).1=0)(hr:c.routing ≠ [])(hg:¬ ∀ k ∈ ksF c,eP c.boxes.l.length (dS c.b) (byF (dJ c.boxes.l c.boxes.l.length) k)=0):fV c=[]:=by
 unfold fV;rw[if_neg (by simp[h]),if_neg hr,if_neg fun hh=>hg hh.1]
theorem ZF{c:Config}{ks:List Key}(hk:ksF c=ks)(h:(fZ c.b).1=0)(hr:c.routing ≠ [])(hg:∀ k ∈ ks,eP c.boxes.l.length (dS c.b) (byF (dJ c.boxes.l c.boxes.l.length) k)=0) :
    ((∀ j,j<c.boxes.l.length->dV (cu c.b) (dw c ks ks.length j)=0)->fV c=ku c ks c.boxes.l.length)/\((¬ ∀ j,j<c.boxes.l.length->dV (cu c.b) (dw c ks ks.length j)=0)->fV c=[]):=by
 subst hk;unfold fV;rw[if_neg (by simp[h]),if_neg hr];exact⟨fun hh=>by rw[if_pos ⟨hg,hh⟩],fun hh=>by rw[if_neg fun x=>hh x.2]⟩
theorem Ib(hs:List (Option Hd)):∀ x ∈ hs.map cel,grounds x=true:=by
 intro x hx;obtain⟨h,_,rfl⟩:=List.mem_map.1 hx;cases h<;>rfl
theorem fK.set0{e:TypeId}{α:Type}{f:α->List D}{hs:List (Option Hd)}{L:List (List α)}(h:fK e f hs L){i:Nat}:fK e f (hs.set i none) (L.set i []):=by
 refine⟨by simp[h.1],fun j y m h1 h2=>?_⟩;by_cases hj:i=j
 . subst hj
   have hi:i<hs.length:=by have:=(aK.1 h1).1;simpa using this
   rw[List.getElem?_set_self hi] at h1;rw[List.getElem?_set_self (by rw[<- h.1];exact hi)] at h2;cases h1;cases h2;trivial
 . rw[List.getElem?_set_ne hj] at h1 h2
   exact h.2 j y m h1 h2
def xQ(t0:TypeId)(k:TK):Tab:=fun t=>match Nat.beq t t0 with|true=>(T t0).map fun x=>{ x with kind:=k }|false=>T t
theorem Gy{t0 a b e:Nat}{z:List D}(k:TK)(hx:T t0=some ⟨a,b,.slice e,z⟩)(hk:k = .other\/k = .wo e):TOk Tryz.prog (xQ t0 k):=by
 intro t ti h;unfold xQ at h;split at h
 . rename_i hb
   have:=dO hb;subst this;rw[hx] at h;cases h;have g:=tok _ _ hx;rcases hk with rfl|rfl
   . exact⟨g.info,trivial,g.agg,g.small⟩
   . exact⟨g.info,g.kind,g.agg,g.small⟩
 . exact tok t ti h
theorem yS(t0:TypeId)(k:TK):ah (xQ t0 k)=ah T:=by
 funext e
 unfold ah xQ;by_cases hb:Nat.beq e t0=true
 . have:=dO hb
   subst this;rw[hb];cases T e<;>rfl
 . rw[Bool.eq_false_iff.2 hb]
@[reducible] def zA(c:Config)(d:D)(B:aQ):Prop:=
 (∃ e:Int,d = .tup [.rnl,.i .i64 e]/\fV c=[]) \/
  ∃ (e:Int) (g cap:Nat) (hs:List (Option Hd)) (o:Obj),d = .tup [.rsl g hs.length cap,.i .i64 e]/\B=(g,o) :: bt hs/\fP (ah T) 55 hs.length cap (hs.map cel) o/\fK 57 aj.row hs (fV c)
@[reducible] def UN(c:Config)(d:D)(B:aQ):Prop:=(∃ e:Int,d = .tup [.aO,.i .i64 e]/\fV c=[])\/zA c d B
def LV:Tab:=xQ 31 .other
end Go.Proofs.YtnlingegeangmaaGreatDoor
namespace Go.Proofs.YtnlingegeangmaaGreatDoor
open Go Go.Vx
def dI:List Nat->Code->Code
 | [],c=>c
 | 0 :: p,.seq x _=>dI p x
 | 1 :: p,.seq _ y=>dI p y
 | 2 :: p,.block _ c=>dI p c
 | 2 :: p,.loop c=>dI p c
 | 2 :: p,.scope c=>dI p c
 | 3 :: p,.cond _ x _=>dI p x
 | 4 :: p,.cond _ _ y=>dI p y
 | _ :: _,c=>c
theorem Sz(l:List aj):(jo l).length<=l.length:=by
 unfold jo;split
 . rename_i h
   rw[bV];exact Rn h.choose_spec
 . simp
theorem JF(w:Int)(l:List aj):(dR w l).length<=l.length:=by
 unfold dR;split
 . simp
 . exact Sz l
theorem Jf(w:Int)(l:List aj):(dK w l).length<=l.length:=by
 unfold dK;split
 . simp
 . have h1:=OL w (mW w (jo l)) (mW w (jo l)).length
   have h2:(mW w (jo l)).length<=(jo l).length:=List.length_filter_le _ _;have h3:=Sz l;unfold yZ;omega
structure ER where
 l:D
 g:D
 ks:aQ
 was:List aj
 no:Nat
@[reducible] def aZ(x:ER):List D:=[x.l,x.g,.lst 57 (x.was.map aj.row) rmK,.i .i64 (x.no:Nat)]
structure EN where
 l:D
 g:D
 ks:aQ
 was:List Int
 no:Nat
@[reducible] def bg(x:EN):List D:=[x.l,x.g,.lst 3 (x.was.map ay) [],.i .i64 (x.no:Nat)]
structure ET where
 l:D
 g:D
 ks:aQ
 no:Nat
@[reducible] def bF(x:ET):List D:=[x.l,x.g,.i .i64 (x.no:Nat)]
theorem pq(l:List aj):∀ x ∈ l.map aj.row++rmK,grounds x=true:=by
 intro x hx;rcases bQ.1 hx with hx|hx
 . obtain⟨_,_,rfl⟩:=List.mem_map.1 hx
   rfl
 . simp[rmK] at hx
   rcases hx with rfl|rfl<;>rfl
def bkR(es:List ER):aQ:=es.flatMap ER.ks
def bkN(es:List EN):aQ:=es.flatMap EN.ks
def bkT(es:List ET):aQ:=es.flatMap ET.ks
theorem pF(es:List ER)(e:ER):bkR (es++[e])=bkR es++e.ks:=by simp[bkR]
theorem tN(es:List EN)(e:EN):bkN (es++[e])=bkN es++e.ks:=by simp[bkN]
theorem QN(es:List ET)(e:ET):bkT (es++[e])=bkT es++e.ks:=by simp[bkT]
inductive kC(i:Nat):ER->Prop
 | nil:kC i ⟨.rnl,.lst 57 [] [],[],[],i⟩
 | raw (g n c o m) (hn:n=m.length) (hl:n<=3000000) (hb:fP (ah T) 57 n c (m.map aj.row) o):kC i ⟨.rsl g n c,.lst 57 [] [],[(g,o)],m,i⟩
inductive lV(i:Nat):EN->Prop
 | nil:lV i ⟨.rnl,.lst 3 [] [],[],[],100000*(i+1)⟩
 | raw (g n c o m) (hn:n=m.length) (hl:n<=3000000) (hb:fP (ah T) 3 n c (m.map ay) o):lV i ⟨.rsl g n c,.lst 3 [] [],[(g,o)],m,100000*(i+1)⟩
inductive oV(i:Nat):ET->Prop
 | nil:oV i ⟨.rnl,.lst 55 [] [],[],100000*(i+1)⟩
 | raw (g n c o xs) (hn:n=xs.length) (hl:n<=16) (hx:∀ x ∈ xs,grounds x=true) (hb:fP (ah T) 55 n c xs o):oV i ⟨.rsl g n c,.lst 55 [] [],[(g,o)],100000*(i+1)⟩
def hlf(l:List aj):List aj:=l.take (l.length / 2)
noncomputable def qG(w:Int)(l:List aj)(c:Config):List (List aj):=[dR w l,dR w (hlf l),dK w l,dK w (hlf l)]++fV c
structure Shf(er:List ER)(en:List EN)(et:List ET)(R:List (List aj))(N:List (List Int)):Prop where
 r:∀ i e,er[i]? = some e->kC i e
 n:∀ i e,en[i]? = some e->lV i e
 t:∀ i e,et[i]? = some e->oV i e
 wr:er.map ER.was=R
 wn:en.map EN.was=N
theorem l7{α:Type}{P:Nat->α->Prop}{l:List α}{x:α}(h:∀ i e,l[i]? = some e->P i e)(hx:P l.length x):∀ i e,(l++[x])[i]? = some e->P i e:=by
 intro i e hi;rcases Nat.lt_trichotomy i l.length with h1|h1|h1
 . rw[List.getElem?_append_left h1] at hi
   exact h i e hi
 . subst h1
   rw[List.getElem?_append_right (Nat.le_refl _),Nat.sub_self] at hi;cases hi;exact hx
 . rw[List.getElem?_append_right oA,show i - l.length=(i - l.length - 1)+1 by omega] at hi
   cases hi
theorem AB{α:Type}(f:α->aQ):∀ {es:List α} {k:Nat} {e:α},es[k]? = some e->(es.flatMap f).Perm (f e++(es.eraseIdx k).flatMap f)
 | [],k,e,h=>by simp at h
 | x :: es,0,e,h=>by simp at h;subst h;exact .refl _
 | x :: es,k+1,e,h=>by
  have ih:=AB f (es:=es) (k:=k) (e:=e) (by simpa using h);rw[List.eraseIdx_cons_succ,List.flatMap_cons,List.flatMap_cons];refine (ih.append_left (f x)).trans ?_;rw[<- List.append_assoc,<- List.append_assoc];exact List.perm_append_comm.append_right _
theorem Jg{α:Type}(f:α->aQ){es:List α}{k:Nat}{e e':α}(h:es[k]? = some e):(f e'++(es.eraseIdx k).flatMap f).Perm ((es.set k e').flatMap f):=by
 have hk:=(aK.1 h).1;have h2:=AB f (es:=es.set k e') (k:=k) (e:=e') (List.getElem?_set_self hk);rw[List.eraseIdx_set_eq] at h2;exact h2.symm
theorem l9{α β:Type}{f:α->β}{l:List α}{i:Nat}{a a':α}(h:l[i]? = some a)(hf:f a'=f a):(l.set i a').map f=l.map f:=by
 apply List.ext_getElem?;intro q;rw[aN,aN];by_cases hq:i=q
 . subst hq
   rw[List.getElem?_set_self (aK.1 h).1,h];exact congrArg some hf
 . rw[List.getElem?_set_ne hq]
theorem SA{α:Type}{P:Nat->α->Prop}{l:List α}{i:Nat}{x:α}(h:∀ i e,l[i]? = some e->P i e)(hi:i<l.length)(hx:P i x):∀ q e,(l.set i x)[q]? = some e->P q e:=by
 intro q e hq;by_cases hqi:i=q
 . subst hqi
   rw[List.getElem?_set_self hi] at hq;cases hq;exact hx
 . rw[List.getElem?_set_ne hqi] at hq
   exact h q e hq
def frm(sv:Bool)(w:Int)(l:List aj)(r2:List (List D))(rounds:Int)(i:Nat)(cs:List D):List (Nat × D):=match sv with
 | true=>[(102,.i .i64 w),(103,.lst 57 (l.map aj.row) r2),(105,.i .i64 rounds),(108,.bp 0 0),(111,.lst 57 (l.map aj.row) rmK),(112,.bp 1 0),(113,.i .i64 (i:Nat)),(114,.u)]
 | false=>[(102,.i .i64 w),(103,.lst 57 (l.map aj.row) r2),(105,.u),(108,.bp 0 0),(111,.lst 57 (l.map aj.row) rmK),(112,.ep cs),(113,.u),(114,.bp 1 0)]
end Go.Proofs.YtnlingegeangmaaGreatDoor
namespace Go.Proofs.YtnlingegeangmaaGreatDoor
open Go Go.Vx
def fR(i k:Nat):List D:=aj.row (mkR i k)
def fN(no k:Nat):List D:=[.i .i64 ((no:Int)+(k:Nat))]
def tK(no k:Nat):List D:=aj.row ⟨0,(no:Int)+(k:Nat),0,0⟩
def wrt(f:Nat->List D)(n:Nat):List (List D):=(List.range n).map f
theorem lg(f:Nat->List D)(n:Nat):(wrt f n).length=n:=by simp[wrt]
theorem yT(f:Nat->List D){n k:Nat}(h:k<n):(wrt f n)[k]? = some (f k):=by simp[wrt,h]
theorem SB(f:Nat->List D){n j:Nat}{m:List (List D)}(hm:m.length=n)(h:j<n):((wrt f n).take j++m.drop j).set j (f j)=(wrt f n).take (j+1)++m.drop (j+1):=by
 have e1:(wrt f n)[j]? = some (f j):=yT f h;have hl:((wrt f n).take j).length=j:=by rw[List.length_take,lg];omega
 rw[List.take_add_one,e1,List.drop_eq_getElem_cons oA,List.set_append_right _ _ oA,hl,Nat.sub_self,List.set_cons_zero,List.append_assoc];rfl
theorem SC{n:Nat}(f:Nat->List D){m:List (List D)}(hm:m.length=n):(wrt f n).take n++m.drop n=wrt f n:=by
 rw[au (by rw[lg];exact Nat.le_refl _),List.drop_of_length_le oA,List.append_nil]
theorem stR{l:List (List D)}{n:Nat}{ds rw_:List D}{K:List (List D)->Prop}(ha:l[n]? = some rw_)(hl:rw_.length=ds.length)(h:K (l.set n ds)):∃ rw,l[n]? = some rw/\0+ds.length<=rw.length/\∃ xs',xs'=l.set n (setCells rw 0 ds)/\K xs':=
 ⟨rw_,ha,oA,_,rfl,by rw[MK hl.symm];exact h⟩
def Tw{α:Type}(P R:Nat->α->Prop)(k:Nat)(l:List α):Prop:=∀ i e,l[i]? = some e->(i<k->P i e)/\(k<=i->R i e)
theorem Tw.start{α:Type}{P R:Nat->α->Prop}{l:List α}(h:∀ i e,l[i]? = some e->R i e):Tw P R 0 l:=fun i e he=>⟨fun h=>absurd h (Nat.not_lt_zero _),fun _=>h i e he⟩
theorem Tw.done{α:Type}{P R:Nat->α->Prop}{l:List α}{k:Nat}(h:Tw P R k l)(hk:l.length<=k):∀ i e,l[i]? = some e->P i e:=fun i e he=>(h i e he).1 (by have:=(aK.1 he).1;omega)
theorem Tw.next{α:Type}{P R:Nat->α->Prop}{l:List α}{k:Nat}{x:α}(h:Tw P R k l)(hk:k<l.length)(hx:P k x):Tw P R (k+1) (l.set k x):=by
 intro i e he;by_cases hik:k=i
 . subst hik
   rw[List.getElem?_set_self hk] at he;cases he;exact⟨fun _=>hx,fun h=>absurd h oA⟩
 . rw[List.getElem?_set_ne hik] at he
   exact⟨fun h1=>(h i e he).1 oA,fun h1=>(h i e he).2 oA⟩
theorem Tw.same{α:Type}{P R:Nat->α->Prop}{l:List α}{k:Nat}{x:α}(h:Tw P R k l)(hk:l[k]? = some x)(hx:P k x):Tw P R (k+1) l:=by
 have:=h.next (aK.1 hk).1 hx;rwa [PK hk] at this
theorem qX{α:Type}(f:α->aQ){es:List α}{k:Nat}{e:α}(h:es[k]? = some e){M Z:aQ}(hM:M.Perm (es.flatMap f++Z)):M.Perm (f e++((es.eraseIdx k).flatMap f++Z)):=by
 rw[<- List.append_assoc];exact hM.trans ((AB f h).append_right _)
theorem rG{α:Type}(f:α->aQ){es:List α}{k:Nat}{e:α}(e':α)(h:es[k]? = some e){M Z:aQ}(hM:M.Perm ((es.set k e').flatMap f++Z)):(f e'++((es.eraseIdx k).flatMap f++Z)).Perm M:=by
 rw[<- List.append_assoc];exact ((Jg f h).append_right _).trans hM.symm
theorem pmN(X N Y:aQ):(X++(N++Y)).Perm (N++(X++Y)):=by
 rw[<- List.append_assoc,<- List.append_assoc];exact List.perm_append_comm.append_right _
theorem pmT(X Y N:aQ):(X++(Y++N)).Perm (N++(X++Y)):=by
 rw[<- List.append_assoc];exact List.perm_append_comm
inductive xR(i:Nat):ER->Prop
 | nil (was):xR i ⟨.rnl,.lst 57 [] [],[],was,i⟩
 | raw (g n c o was) (hn:n<=3000000) (hb:fP (ah T) 57 n c (wrt (fR i) n) o):xR i ⟨.rsl g n c,.lst 57 [] [],[(g,o)],was,i⟩
inductive xU(i:Nat):EN->Prop
 | nil (was no) (hno:no<=1000000000):xU i ⟨.rnl,.lst 3 [] [],[],was,no⟩
 | raw (g n c o was no) (hno:no<=1000000000) (hn:n<=3000000) (hb:fP (ah T) 3 n c (wrt (fN no) n) o):xU i ⟨.rsl g n c,.lst 3 [] [],[(g,o)],was,no⟩
inductive xW(i:Nat):ET->Prop
 | nil (no) (hno:no<=1000000000):xW i ⟨.rnl,.lst 55 [] [],[],no⟩
 | raw (g n c o no) (hno:no<=1000000000) (E:List (Nat × Obj)) (hn:n=E.length) (hn16:n<=16) (hE:∀ (j:Nat) x,E[j]? = some x->fP (ah T) 57 1 1 [tK no j] x.2) (hb:fP (ah T) 55 n c (E.map fun x=>[.rsl x.1 1 1]) o):xW i ⟨.rsl g n c,.lst 55 [] [],(g,o) :: E,no⟩
noncomputable def kpW(w:Int)(l:List aj)(r2:List (List D))(c:Config)(er:List ER)(en:List EN)(et:List ET):St:=
 ⟨[(0,.bp 1 0),(136,.i .i64 w),(137,.lst 57 (l.map aj.row) r2),(142,.bp 0 0),(145,.lst 57 (l.map aj.row) rmK),(146,.bp 1 0)],[c.row,[.own 0 er.length,.own 1 en.length,.own 2 et.length]],[some (72,er.map aZ),some (76,en.map bg),some (136,et.map bF)],Tryz.f26.ntmps⟩
theorem Oz(f:Nat->List D)(h:∀ k,grounds (f k)=true){n:Nat}:∀ x ∈ wrt f n,grounds x=true:=by
 intro x hx;obtain⟨k,_,rfl⟩:=List.mem_map.1 hx;exact h k
theorem WZ(E:List (Nat × Obj)):∀ x ∈ E.map (fun y:Nat × Obj=>[D.rsl y.1 1 1]),grounds x=true:=by
 intro x hx;obtain⟨k,_,rfl⟩:=List.mem_map.1 hx;rfl
theorem W9{y:List D}(h:grounds y=true):∀ x ∈ [y],grounds x=true:=by
 intro x hx;rw[List.mem_singleton.1 hx];exact h
theorem abM(p:Nat × Obj)(E Z:aQ):(p :: (E++Z)).Perm ((E++[p])++Z):=by
 rw[List.append_assoc];exact List.perm_middle.symm
theorem Yf{α:Type}{P:Nat->α->Prop}{l:List α}{x:α}(h:∀ i e,l[i]? = some e->P i e)(hx:P l.length x):∀ i e,(l++[x])[i]? = some e->P i e:=l7 h hx
theorem aaV{E:List (Nat × Obj)}{j g1:Nat}{o1:Obj}{xs:List (List D)}(hE:E.length=j)(hj:j<xs.length):(E.map (fun y:Nat × Obj=>[D.rsl y.1 1 1])++xs.drop j).set j [.rsl g1 1 1]=(E++[(g1,o1)]).map (fun y:Nat × Obj=>[D.rsl y.1 1 1])++xs.drop (j+1):=by
 rw[List.set_append_right _ _ (by simp[hE]),bV,hE,Nat.sub_self,List.drop_eq_getElem_cons hj,List.set_cons_zero,List.map_append,List.append_assoc];rfl
theorem aaW{e:TypeId}{n c:Nat}{xs:List (List D)}{o:Obj}(hb:fP (ah T) e n c xs o)(i:Nat)(x:List D)(hx:xs[i]? = some x):x.length=ah T e:=by
 obtain⟨_,_,_,_,_,_,_,_,_,hR⟩:=hb;exact hR.len i x hx
theorem aaX{Q:Exit->St->aH->aQ->Prop}(w:Int)(l:List aj)(r2:List (List D))(c:Config)(er:List ER)(en:List EN)(et:List ET)(hel:et.length<=300)(hF:∀ i e,et[i]? = some e->oV i e)
    (hQ:∀ et',et'.length=et.length->(∀ i e,et'[i]? = some e->xW i e)->Q .normal (kpW w l r2 c er en et') [] (bkR er++(bkN en++bkT et'))) :
    OkB Tryz.prog T [] (dI [0] (Tryz.f26.body.getD .ret)) Q (kpW w l r2 c er en et) [] (bkR er++(bkN en++bkT et)):=by
 have hem:(et.map bF).length=et.length:=sI;refine OkB.fC [0,136,137,142,145,146] 3 2 (fun x:List ET=>kpW w l r2 c er en x) (fun _=>[]) (fun x=>bkR er++(bkN en++bkT x)) (fun e x=>e = .normal/\x.length=et.length/\∀ i e,x[i]? = some e->xW i e) ?_ ?_;rotate_left
 . rintro e et' ⟨rfl,k1,k3⟩
   exact hQ et' k1 k3
 unfold kpW;(try (conv=>whnf));repeat' (first|refine OkB.seq ?_|(refine OkB.aA (OkM.region tok ?_);conv=>whnf)|refine OkB.block ?_|fail)
 refine OkB.aT [0,136,137,142,145,146] [2] 3 2 (fun (x:Nat × List ET)=>[.i .i64 (x.1:Nat)]) (fun (x:Nat × List ET) (_:List (List D))=>[c.row,[.own 0 er.length,.own 1 en.length,.own 2 et.length]]) (fun (x:Nat × List ET) (_:Vx.Rows)=>[some (72,er.map aZ),some (76,en.map bg),some (136,x.2.map bF)]) (fun (x:Nat × List ET)=>[]) (fun (x:Nat × List ET)=>bkR er++(bkN en++bkT x.2)) (fun (x:Nat × List ET)=>x.1<=et.length/\x.2.length=et.length/\Tw xW oV x.1 x.2) (fun (x:Nat × List ET)=>et.length - x.1) ((0,et)) (⟨Nat.zero_le _,rfl,.start hF⟩) sS sS ?_;(conv=>whnf);refine⟨by ((conv=>whnf);first|rfl|(simp[ak,au,aj.row,ay];done)|(simp[ak,au,aj.row,ay];rw[IntKind.wrap_i64];omega)),?_⟩;rintro⟨i,ys⟩ ⟨hi,hyl,hT⟩;dsimp only at hi hyl hT ⊢;have hym:(ys.map bF).length=ys.length:=sI;(conv=>whnf);by_cases hil:i<et.length
 . obtain⟨e,he⟩:∃ e,ys[i]? = some e:=⟨_,aC oA⟩
   have heI:ys[((i:Nat):Int).toNat]? = some e:=he;have hfe:=(hT i e he).2 (Nat.le_refl _)
   cases hfe with
   | nil=>
    (try (conv=>whnf));repeat' (first|refine OkB.seq ?_|((first|refine OkB.aA (OkM.region tok ?_)|refine OkB.cond ?_);conv=>whnf)|refine OkB.block ?_|(refine OkB.skip ?_;conv=>whnf)|(refine bI ?_ ?_<;>intro<;>first|omega|conv=>whnf)|fail)
    refine OkB.aT [0,2,136,137,142,145,146] [3] 3 2 (fun (j:Nat)=>[.i .i64 (j:Nat)]) (fun _ b=>b) (fun _ r=>r) (fun (j:Nat)=>[]) (fun (j:Nat)=>bkR er++(bkN en++bkT ys)) (fun (j:Nat)=>j=0) (fun (j:Nat)=>0) (0) (rfl) sS sS ?_;(conv=>whnf);refine⟨by ((conv=>whnf);first|rfl|(simp[ak,au,aj.row,ay];done)|(simp[ak,au,aj.row,ay];rw[IntKind.wrap_i64];omega)),?_⟩;rintro j rfl;(conv=>whnf)
    repeat' (first|refine OkB.seq ?_|((first|refine OkB.aA (OkM.region tok ?_)|refine OkB.cond ?_|refine OkB.exit ?_|refine nI ?_|refine rd rfl aS ?_);conv=>whnf)|(refine bI ?_ ?_<;>intro<;>first|omega|conv=>whnf)|(refine aJ ?_;conv=>whnf)|fail)
    all_goals first
     | omega
     | (refine⟨(i+1,ys),by dsimp only;omega,⟨by dsimp only;omega,hyl,hT.same he (.nil _ oA)⟩,.refl _,.refl _,?_⟩
        (conv=>whnf);(first|rfl|simp[ak,au,aj.row,ay]);done)
   | raw g n cc o xs hn hl hxg hb=>
    have hsm:∀ (o':Obj) (E:List (Nat × Obj)),(ys.set i ⟨.rsl g n cc,.lst 55 [] [],(g,o') :: E,100000*(i+1)⟩).map bF=ys.map bF:=fun o' E=>l9 he rfl
    refine OkB.perm (qX ET.ks he (pmT _ _ _)) ?_;refine OkB.go (GoH.open 700 hb ?_);(conv=>whnf)
    repeat' (first|refine OkB.seq ?_|((first|refine OkB.aA (OkM.region tok ?_)|refine OkB.cond ?_);conv=>whnf)|refine OkB.block ?_|(refine OkB.skip ?_;conv=>whnf)|(refine bI ?_ ?_<;>intro<;>first|omega|conv=>whnf)|fail)
    refine OkB.aT [0,2,700,136,137,142,145,146] [3] 4 2 (fun (x:Nat × List (Nat × Obj))=>[.i .i64 (x.1:Nat)]) (fun (x:Nat × List (Nat × Obj)) (_:List (List D))=>[c.row,[.own 0 er.length,.own 1 en.length,.own 2 et.length]]) (fun (x:Nat × List (Nat × Obj)) (_:Vx.Rows)=>[some (72,er.map aZ),some (76,en.map bg),some (136,ys.map bF),some (55,x.2.map (fun y:Nat × Obj=>[D.rsl y.1 1 1])++xs.drop x.1)]) (fun (x:Nat × List (Nat × Obj))=>[]) (fun (x:Nat × List (Nat × Obj))=>x.2++((ys.eraseIdx i).flatMap ET.ks++(bkR er++bkN en))) (fun (x:Nat × List (Nat × Obj))=>x.1<=n/\x.2.length=x.1/\(∀ (j:Nat) y,x.2[j]? = some y->fP (ah T) 57 1 1 [tK (100000*(i+1)) j] y.2)) (fun (x:Nat × List (Nat × Obj))=>n - x.1) ((0,[])) (⟨Nat.zero_le _,rfl,sI⟩) sS sS ?_;(conv=>whnf);refine⟨by ((conv=>whnf);first|rfl|(simp[ak,au,aj.row,ay];done)|(simp[ak,au,aj.row,ay];rw[IntKind.wrap_i64];omega)),?_⟩;rintro⟨j,E⟩ ⟨hj,hEl,hE⟩;dsimp only at hj hEl hE ⊢;(conv=>whnf);have hwl:(E.map (fun y:Nat × Obj=>[D.rsl y.1 1 1])++xs.drop j).length=n:=by rw[List.length_append,bV,List.length_drop];omega
    by_cases hjl:j<n
    . obtain⟨x,hx⟩:∃ x,(E.map (fun y:Nat × Obj=>[D.rsl y.1 1 1])++xs.drop j)[j]? = some x:=⟨_,aC oA⟩
      have hxl:x.length=1:=by
       rw[List.getElem?_append_right (by rw[bV];omega),bV,hEl,Nat.sub_self,List.getElem?_drop] at hx;exact aaW hb _ x hx
      have hxI:(E.map (fun y:Nat × Obj=>[D.rsl y.1 1 1])++xs.drop j)[((j:Nat):Int).toNat]? = some x:=hx;have hwr:IntKind.i64.wrap (((100000*(i+1):Nat):Int)+j)=((100000*(i+1):Nat):Int)+(j:Nat):=by rw[IntKind.wrap_i64];omega
      (try (conv=>whnf));repeat' (first|((refine OkB.aA (OkM.aB (Ok.tab (xQ 55 (.wo 57)) (yS _ _) (Ok.aW (id:=6) (Gy _ rfl (.inr rfl)) follows [(12,20,[19,18,16,15,14]),(16,20,[19,18]),(3,22,[]),(7,22,[]),(12,22,[]),(16,22,[]),(20,22,[])] [.q 0,.q 1,.q 2,.q 3,.q 4,.q 5,.q 6,.q 7,.q 8,.q 9,.q 10,.q 11,.q 12,.q 13,.q 14,.q 15,.q 16,.q 17,.q 18,.q 19,.l 20,.q 21,.l 22] kR ?_))));conv=>whnf)|(refine⟨_,hwr.symm,?_⟩;conv=>whnf)|(refine⟨701,?_⟩;(conv=>whnf);intro g1;(conv=>whnf))|((first|refine⟨700,3,_,_,rfl,oA,?_⟩|refine stR hxI hxl ?_|refine OkB.go (c:=.region 5 _ _) (GoH.close tok (t0:=701) (ti:=_) rfl rfl rfl (W9 rfl) fun o1 ho1=>?_));conv=>whnf)|(refine OkB.perm (c:=.region 5 _ _) (abM _ E _) ?_)|refine OkB.seq ?_|((first|refine OkB.aA (OkM.region tok ?_)|refine OkB.cond ?_);conv=>whnf)|refine OkB.block ?_|((first|refine OkB.skip ?_|refine nI ?_|refine rd rfl aS ?_);conv=>whnf)|(refine bI ?_ ?_<;>intro<;>first|omega|conv=>whnf)|(refine aJ ?_;conv=>whnf)|fail)
      all_goals first
       | omega
       | (refine⟨(j+1,E++[(g1,o1)]),by dsimp only;omega,⟨by dsimp only;omega,by simp[hEl],Yf hE (by rw[hEl];exact ho1)⟩,.refl _,.refl _,?_⟩
          dsimp only;rw[<- aaV hEl oA];(conv=>whnf);rfl)
    . obtain rfl:j=n:=oA
      rw[List.drop_of_length_le oA,List.append_nil];(try (conv=>whnf));repeat' (first|(refine OkB.go (c:=.region 2 _ _) (GoH.close tok (t0:=700) (ti:=_) rfl rfl rfl (WZ E) fun o1 ho1=>?_);conv=>whnf)|(refine OkB.perm (c:=.region 2 _ _) (rG ET.ks ⟨.rsl g j cc,.lst 55 [] [],(g,o1) :: E,100000*(i+1)⟩ he (pmT _ _ _)) ?_)|refine OkB.seq ?_|((first|refine OkB.aA (OkM.region tok ?_)|refine OkB.cond ?_|refine OkB.exit ?_|refine nI ?_|refine rd rfl aS ?_);conv=>whnf)|(refine bI ?_ ?_<;>intro<;>first|omega|conv=>whnf)|(refine aJ ?_;conv=>whnf)|fail)
      all_goals first
       | omega
       | (refine⟨(i+1,ys.set i ⟨.rsl g j cc,.lst 55 [] [],(g,o1) :: E,100000*(i+1)⟩),by dsimp only;omega,⟨by dsimp only;omega,by simp[hyl],hT.next oA (.raw g j cc o1 _ oA E hEl.symm hl hE ho1)⟩,.refl _,.refl _,?_⟩
          dsimp only;rw[hsm o1 E];(conv=>whnf);(first|rfl|simp[ak,au,aj.row,ay]);done)
 . obtain rfl:i=et.length:=oA
   (try (conv=>whnf));repeat' (first|refine OkB.seq ?_|((first|refine OkB.aA (OkM.region tok ?_)|refine OkB.cond ?_|refine OkB.exit ?_);conv=>whnf)|(refine bI ?_ ?_<;>intro<;>first|omega|conv=>whnf)|fail)
   all_goals first
    | omega
    | (refine⟨ys,⟨rfl,hyl,hT.done oA⟩,.refl _,.refl _,?_⟩
       try dsimp only
       rw[hyl];(conv=>whnf)
       try rfl)
theorem aaY{Q:Exit->St->aH->aQ->Prop}(w:Int)(l:List aj)(r2:List (List D))(c:Config)(er:List ER)(en:List EN)(et:List ET)(hel:er.length<=7000)(hF:∀ i e,er[i]? = some e->kC i e)
    (hQ:∀ er',er'.length=er.length->er'.map ER.was=er.map ER.was->(∀ i e,er'[i]? = some e->xR i e)->Q .normal (kpW w l r2 c er' en et) [] (bkR er'++(bkN en++bkT et))) :
    OkB Tryz.prog T [] (dI [1,0] (Tryz.f26.body.getD .ret)) Q (kpW w l r2 c er en et) [] (bkR er++(bkN en++bkT et)):=by
 have hem:(er.map aZ).length=er.length:=sI;refine OkB.fC [0,136,137,142,145,146] 3 2 (fun x:List ER=>kpW w l r2 c x en et) (fun _=>[]) (fun x=>bkR x++(bkN en++bkT et)) (fun e x=>e = .normal/\x.length=er.length/\x.map ER.was=er.map ER.was/\∀ i e,x[i]? = some e->xR i e) ?_ ?_;rotate_left
 . rintro e er' ⟨rfl,k1,k2,k3⟩
   exact hQ er' k1 k2 k3
 unfold kpW;(try (conv=>whnf));repeat' (first|refine OkB.seq ?_|(refine OkB.aA (OkM.region tok ?_);conv=>whnf)|refine OkB.block ?_|fail)
 refine OkB.aT [0,136,137,142,145,146] [4] 3 2 (fun (x:Nat × List ER)=>[.i .i64 (x.1:Nat)]) (fun (x:Nat × List ER) (_:List (List D))=>[c.row,[.own 0 er.length,.own 1 en.length,.own 2 et.length]]) (fun (x:Nat × List ER) (_:Vx.Rows)=>[some (72,x.2.map aZ),some (76,en.map bg),some (136,et.map bF)]) (fun (x:Nat × List ER)=>[]) (fun (x:Nat × List ER)=>bkR x.2++(bkN en++bkT et)) (fun (x:Nat × List ER)=>x.1<=er.length/\x.2.length=er.length/\x.2.map ER.was=er.map ER.was/\Tw xR kC x.1 x.2) (fun (x:Nat × List ER)=>er.length - x.1) ((0,er)) (⟨Nat.zero_le _,rfl,rfl,.start hF⟩) sS sS ?_;(conv=>whnf);refine⟨by ((conv=>whnf);first|rfl|(simp[ak,au,aj.row,ay];done)|(simp[ak,au,aj.row,ay];rw[IntKind.wrap_i64];omega)),?_⟩;rintro⟨i,ys⟩ ⟨hi,hyl,hw,hT⟩;dsimp only at hi hyl hw hT ⊢;have hym:(ys.map aZ).length=ys.length:=sI;(conv=>whnf);by_cases hil:i<er.length
 . obtain⟨e,he⟩:∃ e,ys[i]? = some e:=⟨_,aC oA⟩
   have heI:ys[((i:Nat):Int).toNat]? = some e:=he;have hfe:=(hT i e he).2 (Nat.le_refl _)
   cases hfe with
   | nil=>
    (try (conv=>whnf));repeat' (first|refine OkB.seq ?_|((first|refine OkB.aA (OkM.region tok ?_)|refine OkB.cond ?_);conv=>whnf)|refine OkB.block ?_|(refine OkB.skip ?_;conv=>whnf)|(refine bI ?_ ?_<;>intro<;>first|omega|conv=>whnf)|fail)
    refine OkB.aT [0,4,136,137,142,145,146] [5] 3 2 (fun (j:Nat)=>[.i .i64 (j:Nat)]) (fun _ b=>b) (fun _ r=>r) (fun (j:Nat)=>[]) (fun (j:Nat)=>bkR ys++(bkN en++bkT et)) (fun (j:Nat)=>j=0) (fun (j:Nat)=>0) (0) (rfl) sS sS ?_;(conv=>whnf);refine⟨by ((conv=>whnf);first|rfl|(simp[ak,au,aj.row,ay];done)|(simp[ak,au,aj.row,ay];rw[IntKind.wrap_i64];omega)),?_⟩;rintro j rfl;(conv=>whnf)
    repeat' (first|refine OkB.seq ?_|((first|refine OkB.aA (OkM.region tok ?_)|refine OkB.cond ?_|refine OkB.exit ?_|refine nI ?_|refine rd rfl aS ?_);conv=>whnf)|(refine bI ?_ ?_<;>intro<;>first|omega|conv=>whnf)|(refine aJ ?_;conv=>whnf)|fail)
    all_goals first
     | omega
     | (refine⟨(i+1,ys),by dsimp only;omega,⟨by dsimp only;omega,hyl,hw,hT.same he (.nil _)⟩,.refl _,.refl _,?_⟩
        (conv=>whnf);(first|rfl|simp[ak,au,aj.row,ay]);done)
   | raw g n cc o m hn hl hb=>
    have hmn:(m.map aj.row).length=n:=by simp[hn]
    have hsm:∀ o',(ys.set i ⟨.rsl g n cc,.lst 57 [] [],[(g,o')],m,i⟩).map aZ=ys.map aZ:=fun o'=>l9 he rfl
    have hsw:∀ o',(ys.set i ⟨.rsl g n cc,.lst 57 [] [],[(g,o')],m,i⟩).map ER.was=ys.map ER.was:=fun o'=>l9 he rfl
    refine OkB.perm (qX ER.ks he (.refl _)) ?_;refine OkB.go (GoH.open 700 hb ?_);(conv=>whnf)
    repeat' (first|refine OkB.seq ?_|((first|refine OkB.aA (OkM.region tok ?_)|refine OkB.cond ?_);conv=>whnf)|refine OkB.block ?_|(refine OkB.skip ?_;conv=>whnf)|(refine bI ?_ ?_<;>intro<;>first|omega|conv=>whnf)|fail)
    refine OkB.aT [0,4,700,136,137,142,145,146] [5] 4 2 (fun (j:Nat)=>[.i .i64 (j:Nat)]) (fun (j:Nat) (_:List (List D))=>[c.row,[.own 0 er.length,.own 1 en.length,.own 2 et.length]]) (fun (j:Nat) (_:Vx.Rows)=>[some (72,ys.map aZ),some (76,en.map bg),some (136,et.map bF),some (57,(wrt (fR i) n).take j++(m.map aj.row).drop j)]) (fun (j:Nat)=>[]) (fun (j:Nat)=>(ys.eraseIdx i).flatMap ER.ks++(bkN en++bkT et)) (fun (j:Nat)=>j<=n) (fun (j:Nat)=>n - j) (0) (Nat.zero_le _) sS sS ?_;(conv=>whnf);refine⟨by ((conv=>whnf);first|rfl|(simp[ak,au,aj.row,ay];done)|(simp[ak,au,aj.row,ay];rw[IntKind.wrap_i64];omega)),?_⟩;intro j hj;(conv=>whnf);have hwl:((wrt (fR i) n).take j++(m.map aj.row).drop j).length=n:=by rw[List.length_append,List.length_take,List.length_drop,lg];omega
    by_cases hjl:j<n
    . obtain⟨x,hx⟩:∃ x,((wrt (fR i) n).take j++(m.map aj.row).drop j)[j]? = some x:=⟨_,aC oA⟩
      have hxl:x.length=4:=by
       rw[List.getElem?_append_right (by rw[List.length_take];omega),List.length_take,lg,Nat.min_eq_left oA,Nat.sub_self,List.getElem?_drop,aN,Option.map_eq_some_iff] at hx;obtain⟨y,_,rfl⟩:=hx;rfl
      have hxI:((wrt (fR i) n).take j++(m.map aj.row).drop j)[((j:Nat):Int).toNat]? = some x:=hx;(try (conv=>whnf));repeat' (first|((first|refine⟨700,3,_,_,rfl,oA,?_⟩|refine stR hxI hxl ?_);conv=>whnf)|refine OkB.seq ?_|((first|refine OkB.aA (OkM.region tok ?_)|refine OkB.aA (OkM.aB (Ok.aW (id:=13) tok follows [(12,18,[16,15,14]),(16,18,[]),(3,20,[]),(7,20,[]),(12,20,[]),(16,20,[]),(18,20,[])] [.q 0,.q 1,.q 2,.q 3,.q 4,.q 5,.q 6,.q 7,.q 8,.q 9,.q 10,.q 11,.q 12,.q 13,.q 14,.q 15,.q 16,.q 17,.l 18,.q 19,.l 20] kR ?_))|refine OkB.cond ?_);conv=>whnf)|refine OkB.block ?_|((first|refine OkB.skip ?_|refine nI ?_);conv=>whnf)|(refine Or.inr (Or.inl ?_);(conv=>whnf);(repeat (refine aI ?_;conv=>whnf));refine⟨_,AA i j oA oA,?_⟩;rintro _ _ ⟨rfl,rfl⟩;conv=>whnf)|(refine rd rfl aS ?_;conv=>whnf)|(refine bI ?_ ?_<;>intro<;>first|omega|conv=>whnf)|(refine aJ ?_;conv=>whnf)|fail)
      all_goals first
       | omega
       | (refine⟨j+1,oA,oA,.refl _,.refl _,?_⟩
          rw[<- SB (fR i) hmn hjl];(conv=>whnf);rfl)
    . obtain rfl:j=n:=oA
      rw[SC (fR i) hmn];(try (conv=>whnf));repeat' (first|(refine OkB.go (c:=.region 9 _ _) (GoH.close tok (t0:=700) (ti:=_) rfl rfl rfl (Oz _ (fun _=>rfl)) fun o1 ho1=>?_);conv=>whnf)|(refine OkB.perm (c:=.region 9 _ _) (rG ER.ks ⟨.rsl g j cc,.lst 57 [] [],[(g,o1)],m,i⟩ he (.refl _)) ?_)|refine OkB.seq ?_|((first|refine OkB.aA (OkM.region tok ?_)|refine OkB.cond ?_|refine OkB.exit ?_|refine nI ?_|refine rd rfl aS ?_);conv=>whnf)|(refine bI ?_ ?_<;>intro<;>first|omega|conv=>whnf)|(refine aJ ?_;conv=>whnf)|fail)
      all_goals first
       | omega
       | (refine⟨(i+1,ys.set i ⟨.rsl g j cc,.lst 57 [] [],[(g,o1)],m,i⟩),by dsimp only;omega,⟨by dsimp only;omega,by simp[hyl],by dsimp only;rw[hsw,hw],hT.next oA (.raw g j cc o1 m hl ho1)⟩,.refl _,.refl _,?_⟩
          dsimp only;rw[hsm o1];(conv=>whnf);(first|rfl|simp[ak,au,aj.row,ay]);done)
 . obtain rfl:i=er.length:=oA
   (try (conv=>whnf));repeat' (first|refine OkB.seq ?_|((first|refine OkB.aA (OkM.region tok ?_)|refine OkB.cond ?_|refine OkB.exit ?_);conv=>whnf)|(refine bI ?_ ?_<;>intro<;>first|omega|conv=>whnf)|fail)
   all_goals first
    | omega
    | (refine⟨ys,⟨rfl,hyl,hw,hT.done oA⟩,.refl _,.refl _,?_⟩
       try dsimp only
       rw[hyl];(conv=>whnf)
       try rfl)
theorem aaZ{Q:Exit->St->aH->aQ->Prop}(w:Int)(l:List aj)(r2:List (List D))(c:Config)(er:List ER)(en:List EN)(et:List ET)(hel:en.length<=7000)(hF:∀ i e,en[i]? = some e->lV i e)
    (hQ:∀ en',en'.length=en.length->en'.map EN.was=en.map EN.was->(∀ i e,en'[i]? = some e->xU i e)->Q .normal (kpW w l r2 c er en' et) [] (bkR er++(bkN en'++bkT et))) :
    OkB Tryz.prog T [] (dI [1,1] (Tryz.f26.body.getD .ret)) Q (kpW w l r2 c er en et) [] (bkR er++(bkN en++bkT et)):=by
 have hem:(en.map bg).length=en.length:=sI;refine OkB.fC [0,136,137,142,145,146] 3 2 (fun x:List EN=>kpW w l r2 c er x et) (fun _=>[]) (fun x=>bkR er++(bkN x++bkT et)) (fun e x=>e = .normal/\x.length=en.length/\x.map EN.was=en.map EN.was/\∀ i e,x[i]? = some e->xU i e) ?_ ?_;rotate_left
 . rintro e en' ⟨rfl,k1,k2,k3⟩
   exact hQ en' k1 k2 k3
 unfold kpW;(try (conv=>whnf));repeat' (first|refine OkB.seq ?_|(refine OkB.aA (OkM.region tok ?_);conv=>whnf)|refine OkB.block ?_|fail)
 refine OkB.aT [0,136,137,142,145,146] [6] 3 2 (fun (x:Nat × List EN)=>[.i .i64 (x.1:Nat)]) (fun (x:Nat × List EN) (_:List (List D))=>[c.row,[.own 0 er.length,.own 1 en.length,.own 2 et.length]]) (fun (x:Nat × List EN) (_:Vx.Rows)=>[some (72,er.map aZ),some (76,x.2.map bg),some (136,et.map bF)]) (fun (x:Nat × List EN)=>[]) (fun (x:Nat × List EN)=>bkR er++(bkN x.2++bkT et)) (fun (x:Nat × List EN)=>x.1<=en.length/\x.2.length=en.length/\x.2.map EN.was=en.map EN.was/\Tw xU lV x.1 x.2) (fun (x:Nat × List EN)=>en.length - x.1) ((0,en)) (⟨Nat.zero_le _,rfl,rfl,.start hF⟩) sS sS ?_;(conv=>whnf);refine⟨by ((conv=>whnf);first|rfl|(simp[ak,au,aj.row,ay];done)|(simp[ak,au,aj.row,ay];rw[IntKind.wrap_i64];omega)),?_⟩;rintro⟨i,ys⟩ ⟨hi,hyl,hw,hT⟩;dsimp only at hi hyl hw hT ⊢;have hym:(ys.map bg).length=ys.length:=sI;(conv=>whnf);by_cases hil:i<en.length
 . obtain⟨e,he⟩:∃ e,ys[i]? = some e:=⟨_,aC oA⟩
   have heI:ys[((i:Nat):Int).toNat]? = some e:=he;have hfe:=(hT i e he).2 (Nat.le_refl _)
   cases hfe with
   | nil=>
    (try (conv=>whnf));repeat' (first|refine OkB.seq ?_|((first|refine OkB.aA (OkM.region tok ?_)|refine OkB.cond ?_);conv=>whnf)|refine OkB.block ?_|(refine OkB.skip ?_;conv=>whnf)|(refine bI ?_ ?_<;>intro<;>first|omega|conv=>whnf)|fail)
    refine OkB.aT [0,6,136,137,142,145,146] [7] 3 2 (fun (j:Nat)=>[.i .i64 (j:Nat)]) (fun _ b=>b) (fun _ r=>r) (fun (j:Nat)=>[]) (fun (j:Nat)=>bkR er++(bkN ys++bkT et)) (fun (j:Nat)=>j=0) (fun (j:Nat)=>0) (0) (rfl) sS sS ?_;(conv=>whnf);refine⟨by ((conv=>whnf);first|rfl|(simp[ak,au,aj.row,ay];done)|(simp[ak,au,aj.row,ay];rw[IntKind.wrap_i64];omega)),?_⟩;rintro j rfl;(conv=>whnf)
    repeat' (first|refine OkB.seq ?_|((first|refine OkB.aA (OkM.region tok ?_)|refine OkB.cond ?_|refine OkB.exit ?_|refine nI ?_|refine rd rfl aS ?_);conv=>whnf)|(refine bI ?_ ?_<;>intro<;>first|omega|conv=>whnf)|(refine aJ ?_;conv=>whnf)|fail)
    all_goals first
     | omega
     | (refine⟨(i+1,ys),by dsimp only;omega,⟨by dsimp only;omega,hyl,hw,hT.same he (.nil _ _ oA)⟩,.refl _,.refl _,?_⟩
        (conv=>whnf);(first|rfl|simp[ak,au,aj.row,ay]);done)
   | raw g n cc o m hn hl hb=>
    have hmn:(m.map ay).length=n:=by simp[hn]
    have hsm:∀ o',(ys.set i ⟨.rsl g n cc,.lst 3 [] [],[(g,o')],m,100000*(i+1)⟩).map bg=ys.map bg:=fun o'=>l9 he rfl
    have hsw:∀ o',(ys.set i ⟨.rsl g n cc,.lst 3 [] [],[(g,o')],m,100000*(i+1)⟩).map EN.was=ys.map EN.was:=fun o'=>l9 he rfl
    refine OkB.perm (qX EN.ks he (pmN _ _ _)) ?_;refine OkB.go (GoH.open 700 hb ?_);(conv=>whnf)
    repeat' (first|refine OkB.seq ?_|((first|refine OkB.aA (OkM.region tok ?_)|refine OkB.cond ?_);conv=>whnf)|refine OkB.block ?_|(refine OkB.skip ?_;conv=>whnf)|(refine bI ?_ ?_<;>intro<;>first|omega|conv=>whnf)|fail)
    refine OkB.aT [0,6,700,136,137,142,145,146] [7] 4 2 (fun (j:Nat)=>[.i .i64 (j:Nat)]) (fun (j:Nat) (_:List (List D))=>[c.row,[.own 0 er.length,.own 1 en.length,.own 2 et.length]]) (fun (j:Nat) (_:Vx.Rows)=>[some (72,er.map aZ),some (76,ys.map bg),some (136,et.map bF),some (3,(wrt (fN (100000*(i+1))) n).take j++(m.map ay).drop j)]) (fun (j:Nat)=>[]) (fun (j:Nat)=>(ys.eraseIdx i).flatMap EN.ks++(bkR er++bkT et)) (fun (j:Nat)=>j<=n) (fun (j:Nat)=>n - j) (0) (Nat.zero_le _) sS sS ?_;(conv=>whnf);refine⟨by ((conv=>whnf);first|rfl|(simp[ak,au,aj.row,ay];done)|(simp[ak,au,aj.row,ay];rw[IntKind.wrap_i64];omega)),?_⟩;intro j hj;(conv=>whnf);have hwl:((wrt (fN (100000*(i+1))) n).take j++(m.map ay).drop j).length=n:=by rw[List.length_append,List.length_take,List.length_drop,lg];omega
    by_cases hjl:j<n
    . obtain⟨x,hx⟩:∃ x,((wrt (fN (100000*(i+1))) n).take j++(m.map ay).drop j)[j]? = some x:=⟨_,aC oA⟩
      have hxl:x.length=1:=by
       rw[List.getElem?_append_right (by rw[List.length_take];omega),List.length_take,lg,Nat.min_eq_left oA,Nat.sub_self,List.getElem?_drop,aN,Option.map_eq_some_iff] at hx;obtain⟨y,_,rfl⟩:=hx;rfl
      have hxI:((wrt (fN (100000*(i+1))) n).take j++(m.map ay).drop j)[((j:Nat):Int).toNat]? = some x:=hx;have hwr:IntKind.i64.wrap (((100000*(i+1):Nat):Int)+j)=((100000*(i+1):Nat):Int)+(j:Nat):=by rw[IntKind.wrap_i64];omega
      (try (conv=>whnf));repeat' (first|((first|refine⟨_,hwr.symm,?_⟩|refine⟨700,3,_,_,rfl,oA,?_⟩|refine stR hxI hxl ?_);conv=>whnf)|refine OkB.seq ?_|((first|refine OkB.aA (OkM.region tok ?_)|refine OkB.aA (OkM.aB (Ok.aW (id:=20) tok follows [(3,20,[]),(7,20,[]),(12,20,[]),(16,20,[])] [.q 0,.q 1,.q 2,.q 3,.q 4,.q 5,.q 6,.q 7,.q 8,.q 9,.q 10,.q 11,.q 12,.q 13,.q 14,.q 15,.q 16,.q 17,.q 18,.q 19,.l 20] kR ?_))|refine OkB.cond ?_);conv=>whnf)|refine OkB.block ?_|((first|refine OkB.skip ?_|refine nI ?_|refine rd rfl aS ?_);conv=>whnf)|(refine bI ?_ ?_<;>intro<;>first|omega|conv=>whnf)|(refine aJ ?_;conv=>whnf)|fail)
      all_goals first
       | omega
       | (refine⟨j+1,oA,oA,.refl _,.refl _,?_⟩
          rw[<- SB (fN (100000*(i+1))) hmn hjl];(conv=>whnf);rfl)
    . obtain rfl:j=n:=oA
      rw[SC (fN (100000*(i+1))) hmn];(try (conv=>whnf));repeat' (first|(refine OkB.go (c:=.region 16 _ _) (GoH.close tok (t0:=700) (ti:=_) rfl rfl rfl (Oz _ (fun _=>rfl)) fun o1 ho1=>?_);conv=>whnf)|(refine OkB.perm (c:=.region 16 _ _) (rG EN.ks ⟨.rsl g j cc,.lst 3 [] [],[(g,o1)],m,100000*(i+1)⟩ he (pmN _ _ _)) ?_)|refine OkB.seq ?_|((first|refine OkB.aA (OkM.region tok ?_)|refine OkB.cond ?_|refine OkB.exit ?_|refine nI ?_|refine rd rfl aS ?_);conv=>whnf)|(refine bI ?_ ?_<;>intro<;>first|omega|conv=>whnf)|(refine aJ ?_;conv=>whnf)|fail)
      all_goals first
       | omega
       | (refine⟨(i+1,ys.set i ⟨.rsl g j cc,.lst 3 [] [],[(g,o1)],m,100000*(i+1)⟩),by dsimp only;omega,⟨by dsimp only;omega,by simp[hyl],by dsimp only;rw[hsw,hw],hT.next oA (.raw g j cc o1 m _ oA hl ho1)⟩,.refl _,.refl _,?_⟩
          dsimp only;rw[hsm o1];(conv=>whnf);(first|rfl|simp[ak,au,aj.row,ay]);done)
 . obtain rfl:i=en.length:=oA
   (try (conv=>whnf));repeat' (first|refine OkB.seq ?_|((first|refine OkB.aA (OkM.region tok ?_)|refine OkB.cond ?_|refine OkB.exit ?_);conv=>whnf)|(refine bI ?_ ?_<;>intro<;>first|omega|conv=>whnf)|fail)
   all_goals first
    | omega
    | (refine⟨ys,⟨rfl,hyl,hw,hT.done oA⟩,.refl _,.refl _,?_⟩
       try dsimp only
       rw[hyl];(conv=>whnf)
       try rfl)
end Go.Proofs.YtnlingegeangmaaGreatDoor
namespace Go.Proofs.YtnlingegeangmaaGreatDoor
open Go Go.Vx
def lkK:List Eg:=[(⟨0,1,3,0⟩:Eg),⟨1,2,4,0⟩,⟨2,0,5,0⟩]
noncomputable def qH:List (List Int):=[fJ 3 lkK [0],fA 3 lkK [0],fJ 3 lkK [1,2],fA 3 lkK [1,2]]
theorem Eh(n:Int)(es:List Eg)(ds:List Int)(h:n<=100):(fJ n es ds).length<=3000000/\(fA n es ds).length<=3000000:=by
 by_cases hg:eP n es ds=0
 . obtain⟨N,far,fst,hn,hd,hf,h1,h2⟩:=QJ hg
   rw[h1,h2];have:=hd.len;have:=hf.1;omega
 . unfold fJ fA
   rw[if_pos hg,if_pos hg];simp
theorem QO{Q:Exit->St->aH->aQ->Prop}(w:Int)(l:List aj)(r2:List (List D))(sv:Bool)(rounds:Int)(c:Config)(er:List ER)(en:List EN)(et:List ET)(i:Nat)(cs:List D)(hel:er.length<=7000)(hnl:en.length<=1000)(htl:et.length<=300)(hN:∀ i e,en[i]? = some e->lV i e)
    (hQ:∀ en',en'.length=en.length+4->(∀ i e,en'[i]? = some e->lV i e)->en'.map EN.was=en.map EN.was++qH->Q .normal ⟨[(0,.bp 1 0)]++frm sv w l r2 rounds i cs,[c.row,[.own 0 er.length,.own 1 en'.length,.own 2 et.length],c.row],[some (72,er.map aZ),some (76,en'.map bg),some (136,et.map bF),none,none,none,none,none],Tryz.f23.ntmps⟩ [] (bkR er++(bkN en'++bkT et))) :
    OkB Tryz.prog T [] (lU 12 (Tryz.f23.body.getD .ret)) Q ⟨[(0,.bp 1 0)]++frm sv w l r2 rounds i cs,[c.row,[.own 0 er.length,.own 1 en.length,.own 2 et.length],c.row],[some (72,er.map aZ),some (76,en.map bg),some (136,et.map bF)],Tryz.f23.ntmps⟩ [] (bkR er++(bkN en++bkT et)):=by
 cases sv
 case' false=>let sv:Bool:=false
 case' true=>let sv:Bool:=true
 all_goals
  have hem:(en.map bg).length=en.length:=sI;have hs1:=fun se sd=>Dl 3 lkK [0] (re:=lkK.map Eg.row) (se:=se) (rd:=[[.i .i64 0]]) (sd:=sd) rfl rfl
  have hs2:=fun se sd=>Dl 3 lkK [1,2] (re:=lkK.map Eg.row) (se:=se) (rd:=[[.i .i64 1],[.i .i64 2]]) (sd:=sd) rfl rfl
  have hL1:=(Eh 3 lkK [0] oA).1;have hL2:=(Eh 3 lkK [0] oA).2;have hL3:=(Eh 3 lkK [1,2] oA).1;have hL4:=(Eh 3 lkK [1,2] oA).2;(try (conv=>whnf));repeat' (first|((refine OkB.moves (c:=.region 14 _ _) [5] ?_;(conv=>whnf);refine OkB.fC (c:=.region 14 _ _) [0,19,21,102,103,105,108,111,112,113,114] 7 3 (fun x:EN=>⟨[(0,.bp 1 0),(19,.lst 122 [[.i .i64 0,.i .i64 1,.i .i64 3,.i .i64 0],[.i .i64 1,.i .i64 2,.i .i64 4,.i .i64 0],[.i .i64 2,.i .i64 0,.i .i64 5,.i .i64 0]] []),(21,.own 6 (fA 3 lkK [0]).length)]++frm sv w l r2 rounds i cs,[c.row,[.own 0 er.length,.own 1 (en++[x]).length,.own 2 et.length],c.row],[some (72,er.map aZ),some (76,(en++[x]).map bg),some (136,et.map bF),none,none,none,some (3,(fA 3 lkK [0]).map ay)],Tryz.f23.ntmps⟩) (fun _=>[]) (fun x=>bkR er++(bkN (en++[x])++bkT et)) (fun e x=>e = .normal/\lV en.length x/\x.was=fJ 3 lkK [0]) (OkB.fin (OkB.go (GoH.raw tok 20 500 (ti:=_) rfl rfl rfl sI (fun hx0=>OkB.region (id:=14) tok ?_) (fun g c0 hgc=>OkB.region (id:=14) tok ?_)))) ?_<;>(conv=>whnf)))|refine OkB.seq ?_|(refine OkB.aA (OkM.region tok ?_);conv=>whnf)|(refine Or.inl ?_;(conv=>whnf);refine Or.inr (Or.inl ?_);(conv=>whnf);(repeat (refine aI ?_;conv=>whnf));refine⟨_,hs1 _ _ , ?_⟩;rintro _ _ ⟨rfl,rfl⟩<;>(conv=>whnf))|fail)
  . refine Or.inr (Or.inr ?_);(conv=>whnf);refine⟨_,_,Tryz.func70,rfl,Tryz.call70,?_⟩;(conv=>whnf)
    (try (conv=>whnf));repeat' (first|refine OkB.seq ?_|((first|refine OkB.aA (OkM.region tok ?_)|refine OkB.aA (OkM.aB (Ok.aW (id:=2) tok follows [(10,15,[14,13,12,11]),(1,16,[4,3,2]),(2,16,[4,3]),(3,16,[4]),(4,16,[]),(5,16,[15,14]),(6,16,[15,14]),(7,16,[15,14,13,12,11,10,9,8]),(8,16,[15,14,13,12,11,10,9]),(9,16,[15,14,13,12,11,10]),(10,16,[15,14,13,12,11]),(11,16,[15,14,13,12]),(12,16,[15,14,13]),(13,16,[15,14]),(14,16,[15]),(15,16,[]),(4,19,[]),(10,19,[]),(15,19,[]),(16,19,[])] [.q 0,.q 1,.q 2,.q 3,.q 4,.q 5,.q 6,.q 7,.q 8,.q 9,.q 10,.q 11,.q 12,.q 13,.q 14,.l 15,.l 16,.q 17,.q 18,.l 19] kR ?_))|refine nI ?_|refine bU.l (aI ?_)|refine⟨_,.inl ⟨rfl,rfl⟩,?_⟩|refine⟨_,_,rfl,rfl,?_⟩|refine aJ ?_);conv=>whnf)|fail)
    refine⟨GoH.skip ⟨⟨.rnl,.lst 3 [] [],[],fJ 3 lkK [0],100000*(en.length+1)⟩,⟨rfl,?_,rfl⟩,List.nil_sublist _,?_,?_⟩⟩
    . rw[List.map_eq_nil_iff.1 hx0]
      exact .nil
    . rw[tN,List.append_nil]
      exact .refl _
    . (conv=>whnf)
      simp[hx0]
      first|rfl|exact⟨rfl,rfl⟩|exact⟨rfl,rfl,rfl⟩
  . refine Or.inr (Or.inr ?_);(conv=>whnf);refine⟨_,_,Tryz.func70,rfl,Tryz.call70,?_⟩;(conv=>whnf)
    (try (conv=>whnf));repeat' (first|(refine⟨527,7,_,rfl,Nat.le_refl _,?_⟩;conv=>whnf)|refine OkB.seq ?_|((first|refine OkB.aA (OkM.region tok ?_)|refine OkB.aA (OkM.aB (Ok.aW (id:=2) tok follows [(10,15,[14,13,12,11]),(1,16,[4,3,2]),(2,16,[4,3]),(3,16,[4]),(4,16,[]),(5,16,[15,14]),(6,16,[15,14]),(7,16,[15,14,13,12,11,10,9,8]),(8,16,[15,14,13,12,11,10,9]),(9,16,[15,14,13,12,11,10]),(10,16,[15,14,13,12,11]),(11,16,[15,14,13,12]),(12,16,[15,14,13]),(13,16,[15,14]),(14,16,[15]),(15,16,[]),(4,19,[]),(10,19,[]),(15,19,[]),(16,19,[])] [.q 0,.q 1,.q 2,.q 3,.q 4,.q 5,.q 6,.q 7,.q 8,.q 9,.q 10,.q 11,.q 12,.q 13,.q 14,.l 15,.l 16,.q 17,.q 18,.l 19] kR ?_))|refine nI ?_|refine bU.l (aI ?_)|refine⟨_,.inl ⟨rfl,rfl⟩,?_⟩|refine⟨_,_,rfl,rfl,?_⟩|refine aJ ?_);conv=>whnf)|fail)
    refine⟨GoH.bind (GoH.close tok (t0:=500) (ti:=_) rfl rfl rfl (qI _) fun o ho=>?_)⟩;(conv=>whnf);refine GoH.perm (M':=bkR er++(bkN (en++[⟨.rsl g ((fJ 3 lkK [0]).map ay).length c0,.lst 3 [] [],[(g,o)],fJ 3 lkK [0],100000*(en.length+1)⟩])++bkT et)) ?_ ⟨⟨.rsl g ((fJ 3 lkK [0]).map ay).length c0,.lst 3 [] [],[(g,o)],fJ 3 lkK [0],100000*(en.length+1)⟩,⟨rfl,.raw g _ c0 o _ sI sO ho,rfl⟩,List.nil_sublist _,.refl _,?_⟩
    . rw[tN,List.append_assoc,<- List.append_assoc,<- List.append_assoc]
      exact List.perm_middle.symm
    . (conv=>whnf)
      simp
      first|exact⟨rfl,au sI⟩|exact⟨rfl,rfl,au sI⟩
  rintro e x0 ⟨rfl,hx0,hw0⟩;obtain⟨en1,he1⟩:∃ y,y=en++[x0]:=⟨_,rfl⟩;have hl1:en1.length=en.length+1:=by rw[he1];simp
  have hF1:=l7 hN hx0;have hW1:en1.map EN.was=en.map EN.was++[fJ 3 lkK [0]]:=by rw[he1,<- hw0];simp
  rw[<- he1] at hF1 ⊢;have acU:(en1.map bg).length=en1.length:=sI;(conv=>whnf)
  repeat' (first|((refine OkB.fC (c:=.region 15 _ _) [0,19,102,103,105,108,111,112,113,114] 6 3 (fun x:EN=>⟨[(0,.bp 1 0),(19,.lst 122 [[.i .i64 0,.i .i64 1,.i .i64 3,.i .i64 0],[.i .i64 1,.i .i64 2,.i .i64 4,.i .i64 0],[.i .i64 2,.i .i64 0,.i .i64 5,.i .i64 0]] [])]++frm sv w l r2 rounds i cs,[c.row,[.own 0 er.length,.own 1 (en1++[x]).length,.own 2 et.length],c.row],[some (72,er.map aZ),some (76,(en1++[x]).map bg),some (136,et.map bF),none,none,none],Tryz.f23.ntmps⟩) (fun _=>[]) (fun x=>bkR er++(bkN (en1++[x])++bkT et)) (fun e x=>e = .normal/\lV en1.length x/\x.was=fA 3 lkK [0]) (OkB.fin (OkB.go (GoH.raw tok 21 500 (ti:=_) rfl rfl rfl sI (fun hx0=>OkB.region (id:=15) tok ?_) (fun g c1 hgc=>OkB.region (id:=15) tok ?_)))) ?_<;>(conv=>whnf)))|refine OkB.seq ?_|fail)
  . refine Or.inr (Or.inr ?_);(conv=>whnf);refine⟨_,_,Tryz.func70,rfl,Tryz.call70,?_⟩;(conv=>whnf)
    (try (conv=>whnf));repeat' (first|refine OkB.seq ?_|((first|refine OkB.aA (OkM.region tok ?_)|refine OkB.aA (OkM.aB (Ok.aW (id:=2) tok follows [(10,15,[14,13,12,11]),(1,16,[4,3,2]),(2,16,[4,3]),(3,16,[4]),(4,16,[]),(5,16,[15,14]),(6,16,[15,14]),(7,16,[15,14,13,12,11,10,9,8]),(8,16,[15,14,13,12,11,10,9]),(9,16,[15,14,13,12,11,10]),(10,16,[15,14,13,12,11]),(11,16,[15,14,13,12]),(12,16,[15,14,13]),(13,16,[15,14]),(14,16,[15]),(15,16,[]),(4,19,[]),(10,19,[]),(15,19,[]),(16,19,[])] [.q 0,.q 1,.q 2,.q 3,.q 4,.q 5,.q 6,.q 7,.q 8,.q 9,.q 10,.q 11,.q 12,.q 13,.q 14,.l 15,.l 16,.q 17,.q 18,.l 19] kR ?_))|refine nI ?_|refine bU.l (aI ?_)|refine⟨_,.inl ⟨rfl,rfl⟩,?_⟩|refine⟨_,_,rfl,rfl,?_⟩|refine aJ ?_);conv=>whnf)|fail)
    refine⟨GoH.skip ⟨⟨.rnl,.lst 3 [] [],[],fA 3 lkK [0],100000*(en1.length+1)⟩,⟨rfl,?_,rfl⟩,List.nil_sublist _,?_,?_⟩⟩
    . rw[List.map_eq_nil_iff.1 hx0]
      exact .nil
    . rw[tN,List.append_nil]
      exact .refl _
    . (conv=>whnf)
      simp[hx0]
      first|rfl|exact⟨rfl,rfl⟩|exact⟨rfl,rfl,rfl⟩
  . refine Or.inr (Or.inr ?_);(conv=>whnf);refine⟨_,_,Tryz.func70,rfl,Tryz.call70,?_⟩;(conv=>whnf)
    (try (conv=>whnf));repeat' (first|(refine⟨527,6,_,rfl,Nat.le_refl _,?_⟩;conv=>whnf)|refine OkB.seq ?_|((first|refine OkB.aA (OkM.region tok ?_)|refine OkB.aA (OkM.aB (Ok.aW (id:=2) tok follows [(10,15,[14,13,12,11]),(1,16,[4,3,2]),(2,16,[4,3]),(3,16,[4]),(4,16,[]),(5,16,[15,14]),(6,16,[15,14]),(7,16,[15,14,13,12,11,10,9,8]),(8,16,[15,14,13,12,11,10,9]),(9,16,[15,14,13,12,11,10]),(10,16,[15,14,13,12,11]),(11,16,[15,14,13,12]),(12,16,[15,14,13]),(13,16,[15,14]),(14,16,[15]),(15,16,[]),(4,19,[]),(10,19,[]),(15,19,[]),(16,19,[])] [.q 0,.q 1,.q 2,.q 3,.q 4,.q 5,.q 6,.q 7,.q 8,.q 9,.q 10,.q 11,.q 12,.q 13,.q 14,.l 15,.l 16,.q 17,.q 18,.l 19] kR ?_))|refine nI ?_|refine bU.l (aI ?_)|refine⟨_,.inl ⟨rfl,rfl⟩,?_⟩|refine⟨_,_,rfl,rfl,?_⟩|refine aJ ?_);conv=>whnf)|fail)
    refine⟨GoH.bind (GoH.close tok (t0:=500) (ti:=_) rfl rfl rfl (qI _) fun o ho=>?_)⟩;(conv=>whnf);refine GoH.perm (M':=bkR er++(bkN (en1++[⟨.rsl g ((fA 3 lkK [0]).map ay).length c1,.lst 3 [] [],[(g,o)],fA 3 lkK [0],100000*(en1.length+1)⟩])++bkT et)) ?_ ⟨⟨.rsl g ((fA 3 lkK [0]).map ay).length c1,.lst 3 [] [],[(g,o)],fA 3 lkK [0],100000*(en1.length+1)⟩,⟨rfl,.raw g _ c1 o _ sI sO ho,rfl⟩,List.nil_sublist _,.refl _,?_⟩
    . rw[tN,List.append_assoc,<- List.append_assoc,<- List.append_assoc]
      exact List.perm_middle.symm
    . (conv=>whnf)
      simp
      first|exact⟨rfl,au sI⟩|exact⟨rfl,rfl,au sI⟩
  rintro e x1 ⟨rfl,hx1,hw1⟩;obtain⟨en2,he2⟩:∃ y,y=en1++[x1]:=⟨_,rfl⟩;have hl2:en2.length=en1.length+1:=by rw[he2];simp
  have hF2:=l7 hF1 hx1;have hW2:en2.map EN.was=en1.map EN.was++[fA 3 lkK [0]]:=by rw[he2,<- hw1];simp
  rw[<- he2] at hF2 ⊢;have acV:(en2.map bg).length=en2.length:=sI;(conv=>whnf)
  repeat' (first|((refine OkB.moves (c:=.region 17 _ _) [7] ?_;(conv=>whnf);refine OkB.fC (c:=.region 17 _ _) [0,21,102,103,105,108,111,112,113,114] 9 3 (fun x:EN=>⟨[(0,.bp 1 0),(21,.own 8 (fA 3 lkK [1,2]).length)]++frm sv w l r2 rounds i cs,[c.row,[.own 0 er.length,.own 1 (en2++[x]).length,.own 2 et.length],c.row],[some (72,er.map aZ),some (76,(en2++[x]).map bg),some (136,et.map bF),none,none,none,none,none,some (3,(fA 3 lkK [1,2]).map ay)],Tryz.f23.ntmps⟩) (fun _=>[]) (fun x=>bkR er++(bkN (en2++[x])++bkT et)) (fun e x=>e = .normal/\lV en2.length x/\x.was=fJ 3 lkK [1,2]) (OkB.fin (OkB.go (GoH.raw tok 20 500 (ti:=_) rfl rfl rfl sI (fun hx0=>OkB.region (id:=17) tok ?_) (fun g c2 hgc=>OkB.region (id:=17) tok ?_)))) ?_<;>(conv=>whnf)))|refine OkB.seq ?_|(refine OkB.aA (OkM.region tok ?_);conv=>whnf)|(refine Or.inl ?_;(conv=>whnf);refine Or.inr (Or.inl ?_);(conv=>whnf);(repeat (refine aI ?_;conv=>whnf));refine⟨_,hs2 _ _ , ?_⟩;rintro _ _ ⟨rfl,rfl⟩<;>(conv=>whnf))|fail)
  . refine Or.inr (Or.inr ?_);(conv=>whnf);refine⟨_,_,Tryz.func70,rfl,Tryz.call70,?_⟩;(conv=>whnf)
    (try (conv=>whnf));repeat' (first|refine OkB.seq ?_|((first|refine OkB.aA (OkM.region tok ?_)|refine OkB.aA (OkM.aB (Ok.aW (id:=2) tok follows [(10,15,[14,13,12,11]),(1,16,[4,3,2]),(2,16,[4,3]),(3,16,[4]),(4,16,[]),(5,16,[15,14]),(6,16,[15,14]),(7,16,[15,14,13,12,11,10,9,8]),(8,16,[15,14,13,12,11,10,9]),(9,16,[15,14,13,12,11,10]),(10,16,[15,14,13,12,11]),(11,16,[15,14,13,12]),(12,16,[15,14,13]),(13,16,[15,14]),(14,16,[15]),(15,16,[]),(4,19,[]),(10,19,[]),(15,19,[]),(16,19,[])] [.q 0,.q 1,.q 2,.q 3,.q 4,.q 5,.q 6,.q 7,.q 8,.q 9,.q 10,.q 11,.q 12,.q 13,.q 14,.l 15,.l 16,.q 17,.q 18,.l 19] kR ?_))|refine nI ?_|refine bU.l (aI ?_)|refine⟨_,.inl ⟨rfl,rfl⟩,?_⟩|refine⟨_,_,rfl,rfl,?_⟩|refine aJ ?_);conv=>whnf)|fail)
    refine⟨GoH.skip ⟨⟨.rnl,.lst 3 [] [],[],fJ 3 lkK [1,2],100000*(en2.length+1)⟩,⟨rfl,?_,rfl⟩,List.nil_sublist _,?_,?_⟩⟩
    . rw[List.map_eq_nil_iff.1 hx0]
      exact .nil
    . rw[tN,List.append_nil]
      exact .refl _
    . (conv=>whnf)
      simp[hx0]
      first|rfl|exact⟨rfl,rfl⟩|exact⟨rfl,rfl,rfl⟩
  . refine Or.inr (Or.inr ?_);(conv=>whnf);refine⟨_,_,Tryz.func70,rfl,Tryz.call70,?_⟩;(conv=>whnf)
    (try (conv=>whnf));repeat' (first|(refine⟨527,9,_,rfl,Nat.le_refl _,?_⟩;conv=>whnf)|refine OkB.seq ?_|((first|refine OkB.aA (OkM.region tok ?_)|refine OkB.aA (OkM.aB (Ok.aW (id:=2) tok follows [(10,15,[14,13,12,11]),(1,16,[4,3,2]),(2,16,[4,3]),(3,16,[4]),(4,16,[]),(5,16,[15,14]),(6,16,[15,14]),(7,16,[15,14,13,12,11,10,9,8]),(8,16,[15,14,13,12,11,10,9]),(9,16,[15,14,13,12,11,10]),(10,16,[15,14,13,12,11]),(11,16,[15,14,13,12]),(12,16,[15,14,13]),(13,16,[15,14]),(14,16,[15]),(15,16,[]),(4,19,[]),(10,19,[]),(15,19,[]),(16,19,[])] [.q 0,.q 1,.q 2,.q 3,.q 4,.q 5,.q 6,.q 7,.q 8,.q 9,.q 10,.q 11,.q 12,.q 13,.q 14,.l 15,.l 16,.q 17,.q 18,.l 19] kR ?_))|refine nI ?_|refine bU.l (aI ?_)|refine⟨_,.inl ⟨rfl,rfl⟩,?_⟩|refine⟨_,_,rfl,rfl,?_⟩|refine aJ ?_);conv=>whnf)|fail)
    refine⟨GoH.bind (GoH.close tok (t0:=500) (ti:=_) rfl rfl rfl (qI _) fun o ho=>?_)⟩;(conv=>whnf);refine GoH.perm (M':=bkR er++(bkN (en2++[⟨.rsl g ((fJ 3 lkK [1,2]).map ay).length c2,.lst 3 [] [],[(g,o)],fJ 3 lkK [1,2],100000*(en2.length+1)⟩])++bkT et)) ?_ ⟨⟨.rsl g ((fJ 3 lkK [1,2]).map ay).length c2,.lst 3 [] [],[(g,o)],fJ 3 lkK [1,2],100000*(en2.length+1)⟩,⟨rfl,.raw g _ c2 o _ sI sO ho,rfl⟩,List.nil_sublist _,.refl _,?_⟩
    . rw[tN,List.append_assoc,<- List.append_assoc,<- List.append_assoc]
      exact List.perm_middle.symm
    . (conv=>whnf)
      simp
      first|exact⟨rfl,au sI⟩|exact⟨rfl,rfl,au sI⟩
  rintro e x2 ⟨rfl,hx2,hw2⟩;obtain⟨en3,he3⟩:∃ y,y=en2++[x2]:=⟨_,rfl⟩;have hl3:en3.length=en2.length+1:=by rw[he3];simp
  have hF3:=l7 hF2 hx2;have hW3:en3.map EN.was=en2.map EN.was++[fJ 3 lkK [1,2]]:=by rw[he3,<- hw2];simp
  rw[<- he3] at hF3 ⊢;have acW:(en3.map bg).length=en3.length:=sI;(conv=>whnf)
  repeat' (first|((refine OkB.fC (c:=.region 18 _ _) [0,102,103,105,108,111,112,113,114] 8 3 (fun x:EN=>⟨[(0,.bp 1 0)]++frm sv w l r2 rounds i cs,[c.row,[.own 0 er.length,.own 1 (en3++[x]).length,.own 2 et.length],c.row],[some (72,er.map aZ),some (76,(en3++[x]).map bg),some (136,et.map bF),none,none,none,none,none],Tryz.f23.ntmps⟩) (fun _=>[]) (fun x=>bkR er++(bkN (en3++[x])++bkT et)) (fun e x=>e = .normal/\lV en3.length x/\x.was=fA 3 lkK [1,2]) (OkB.fin (OkB.go (GoH.raw tok 21 500 (ti:=_) rfl rfl rfl sI (fun hx0=>OkB.region (id:=18) tok ?_) (fun g c3 hgc=>OkB.region (id:=18) tok ?_)))) ?_<;>(conv=>whnf)))|fail)
  . refine Or.inr (Or.inr ?_);(conv=>whnf);refine⟨_,_,Tryz.func70,rfl,Tryz.call70,?_⟩;(conv=>whnf)
    (try (conv=>whnf));repeat' (first|refine OkB.seq ?_|((first|refine OkB.aA (OkM.region tok ?_)|refine OkB.aA (OkM.aB (Ok.aW (id:=2) tok follows [(10,15,[14,13,12,11]),(1,16,[4,3,2]),(2,16,[4,3]),(3,16,[4]),(4,16,[]),(5,16,[15,14]),(6,16,[15,14]),(7,16,[15,14,13,12,11,10,9,8]),(8,16,[15,14,13,12,11,10,9]),(9,16,[15,14,13,12,11,10]),(10,16,[15,14,13,12,11]),(11,16,[15,14,13,12]),(12,16,[15,14,13]),(13,16,[15,14]),(14,16,[15]),(15,16,[]),(4,19,[]),(10,19,[]),(15,19,[]),(16,19,[])] [.q 0,.q 1,.q 2,.q 3,.q 4,.q 5,.q 6,.q 7,.q 8,.q 9,.q 10,.q 11,.q 12,.q 13,.q 14,.l 15,.l 16,.q 17,.q 18,.l 19] kR ?_))|refine nI ?_|refine bU.l (aI ?_)|refine⟨_,.inl ⟨rfl,rfl⟩,?_⟩|refine⟨_,_,rfl,rfl,?_⟩|refine aJ ?_);conv=>whnf)|fail)
    refine⟨GoH.skip ⟨⟨.rnl,.lst 3 [] [],[],fA 3 lkK [1,2],100000*(en3.length+1)⟩,⟨rfl,?_,rfl⟩,List.nil_sublist _,?_,?_⟩⟩
    . rw[List.map_eq_nil_iff.1 hx0]
      exact .nil
    . rw[tN,List.append_nil]
      exact .refl _
    . (conv=>whnf)
      simp[hx0]
      first|rfl|exact⟨rfl,rfl⟩|exact⟨rfl,rfl,rfl⟩
  . refine Or.inr (Or.inr ?_);(conv=>whnf);refine⟨_,_,Tryz.func70,rfl,Tryz.call70,?_⟩;(conv=>whnf)
    (try (conv=>whnf));repeat' (first|(refine⟨527,8,_,rfl,Nat.le_refl _,?_⟩;conv=>whnf)|refine OkB.seq ?_|((first|refine OkB.aA (OkM.region tok ?_)|refine OkB.aA (OkM.aB (Ok.aW (id:=2) tok follows [(10,15,[14,13,12,11]),(1,16,[4,3,2]),(2,16,[4,3]),(3,16,[4]),(4,16,[]),(5,16,[15,14]),(6,16,[15,14]),(7,16,[15,14,13,12,11,10,9,8]),(8,16,[15,14,13,12,11,10,9]),(9,16,[15,14,13,12,11,10]),(10,16,[15,14,13,12,11]),(11,16,[15,14,13,12]),(12,16,[15,14,13]),(13,16,[15,14]),(14,16,[15]),(15,16,[]),(4,19,[]),(10,19,[]),(15,19,[]),(16,19,[])] [.q 0,.q 1,.q 2,.q 3,.q 4,.q 5,.q 6,.q 7,.q 8,.q 9,.q 10,.q 11,.q 12,.q 13,.q 14,.l 15,.l 16,.q 17,.q 18,.l 19] kR ?_))|refine nI ?_|refine bU.l (aI ?_)|refine⟨_,.inl ⟨rfl,rfl⟩,?_⟩|refine⟨_,_,rfl,rfl,?_⟩|refine aJ ?_);conv=>whnf)|fail)
    refine⟨GoH.bind (GoH.close tok (t0:=500) (ti:=_) rfl rfl rfl (qI _) fun o ho=>?_)⟩;(conv=>whnf);refine GoH.perm (M':=bkR er++(bkN (en3++[⟨.rsl g ((fA 3 lkK [1,2]).map ay).length c3,.lst 3 [] [],[(g,o)],fA 3 lkK [1,2],100000*(en3.length+1)⟩])++bkT et)) ?_ ⟨⟨.rsl g ((fA 3 lkK [1,2]).map ay).length c3,.lst 3 [] [],[(g,o)],fA 3 lkK [1,2],100000*(en3.length+1)⟩,⟨rfl,.raw g _ c3 o _ sI sO ho,rfl⟩,List.nil_sublist _,.refl _,?_⟩
    . rw[tN,List.append_assoc,<- List.append_assoc,<- List.append_assoc]
      exact List.perm_middle.symm
    . (conv=>whnf)
      simp
      first|exact⟨rfl,au sI⟩|exact⟨rfl,rfl,au sI⟩
  rintro e x3 ⟨rfl,hx3,hw3⟩;obtain⟨en4,he4⟩:∃ y,y=en3++[x3]:=⟨_,rfl⟩;have hl4:en4.length=en3.length+1:=by rw[he4];simp
  have hF4:=l7 hF3 hx3;have hW4:en4.map EN.was=en3.map EN.was++[fA 3 lkK [1,2]]:=by rw[he4,<- hw3];simp
  rw[<- he4] at hF4 ⊢;have acX:(en4.map bg).length=en4.length:=sI;exact hQ en4 oA hF4 (by rw[hW4,hW3,hW2,hW1];simp[qH])
end Go.Proofs.YtnlingegeangmaaGreatDoor
namespace Go.Proofs.YtnlingegeangmaaGreatDoor
open Go Go.Vx
theorem jw(xs:List aj):∀ x ∈ xs.map aj.row,grounds x=true:=by
 intro x hx;obtain⟨_,_,rfl⟩:=List.mem_map.1 hx;rfl
theorem QS(c:Config)(hbn:c.boxes.l.length<=16)(ks:List Key)(hs0:List (Option Hd))(f:FuncId)(hcall:∀ args w,(callFunc f args).run Tryz.prog w = .ok (.enter f args) w)(bits:Int)
    (hsp:∀ (j:Nat) (rl sl:List (List D)),rl=(dw c ks ks.length j).map aj.row->aF Tryz.prog T f [.i .i64 bits,.lst 57 rl sl] (fun d rows=>rows=[some (57,(kV c.gB (cu c.b) (dw c ks ks.length j)).map aj.row)]/\d = .tup [.own 0 (kV c.gB (cu c.b) (dw c ks ks.length j)).length,.i .i64 (dV (cu c.b) (dw c ks ks.length j))]))
    (CV:fK 57 aj.row hs0 (ku c ks 0))
    (htab:((∀ j,j<c.boxes.l.length->dV (cu c.b) (dw c ks ks.length j)=0)->fV c=ku c ks c.boxes.l.length)/\((¬ ∀ j,j<c.boxes.l.length->dV (cu c.b) (dw c ks ks.length j)=0)->fV c=[])) :
    OkB Tryz.prog T [] (lU 10 (Tryz.f8.body.getD .ret)) (LJ LV Tryz.f8 fun d M B=>M=[]/\UN c d B) ⟨[(1,.bp 0 0),(6,.own 0 hs0.length),(7,.i .i64 bits),(12,.fn f [] [])],[c.row],[some (55,hs0.map cel)],Tryz.f8.ntmps⟩ [] (bt hs0):=by
 have acY:hs0.length=c.boxes.l.length:=by rw[CV.1,Ee]
 have hcm0:(hs0.map cel).length=hs0.length:=sI;(try (conv=>whnf));repeat' (first|refine OkB.seq ?_|(refine OkB.aA (OkM.region tok ?_);conv=>whnf)|refine OkB.block ?_|fail)
 refine OkB.aT [6,7,12,62] [63] 1 1 (fun (x:Nat × List (Option Hd))=>[.i .i64 (x.1:Nat)]) (fun (x:Nat × List (Option Hd)) (_:List (List D))=>[c.row]) (fun (x:Nat × List (Option Hd)) (_:Vx.Rows)=>[some (55,x.2.map cel)]) (fun (x:Nat × List (Option Hd))=>[]) (fun (x:Nat × List (Option Hd))=>bt x.2) (fun (x:Nat × List (Option Hd))=>x.1<=c.boxes.l.length/\fK 57 aj.row x.2 (ku c ks x.1)/\∀ a,a<x.1->dV (cu c.b) (dw c ks ks.length a)=0) (fun (x:Nat × List (Option Hd))=>c.boxes.l.length - x.1) ((0,hs0)) (⟨Nat.zero_le _,CV,fun a h=>absurd h (Nat.not_lt_zero a)⟩) sS sS ?_;(conv=>whnf);refine⟨by ((conv=>whnf);first|rfl|(simp[ak, au, SI.row, Node.row, Pfx.row, Link.row, aG, Line.row, Rule.row, Box.row, Slc.row, Config.row, ay, bM, Prt.row, Eg.row, aj.row, cel];done)|(simp[ak, au, SI.row, Node.row, Pfx.row, Link.row, aG, Line.row, Rule.row, Box.row, Slc.row, Config.row, ay, bM, Prt.row, Eg.row, aj.row, cel];rw[IntKind.wrap_i64];omega)),?_⟩;rintro⟨j,hs⟩ ⟨hj,hTI,hcz⟩;dsimp only at hj hTI hcz ⊢;have hsl:hs.length=c.boxes.l.length:=by rw[hTI.1,Ee]
 have hcm:(hs.map cel).length=hs.length:=sI;have hz:∀ e:Int,dV (cu c.b) (dw c ks ks.length j)=0->∀ a,a<j+1->dV (cu c.b) (dw c ks ks.length a)=0:=fun _ h0 a ha=>by
  rcases Nat.lt_or_ge a j with h|h
  . exact hcz a h
  . obtain rfl:a=j:=oA
    exact h0
 replace hz:=hz 0;(conv=>whnf);by_cases hjl:j<c.boxes.l.length
 . have hjs:j<hs.length:=oA
   rcases hcell:hs[j]? with _|_|h
   . have:=List.getElem?_eq_none_iff.1 hcell
     omega
   . have Kz:(hs.map cel)[((j:Nat):Int).toNat]? = some (cel none):=by rw[Int.toNat_natCast,aN,hcell];rfl
     have hle:dw c ks ks.length j=[]:=hTI.2 j none _ hcell (QM hjl);(try (conv=>whnf));repeat' (first|((first|refine OkB.region (id:=26) tok ?_|refine⟨rfl,cel none,Kz,?_⟩);conv=>whnf)|(refine Or.inr ?_;(conv=>whnf);refine bW.uI 1 57 rfl rfl ?_;refine bW.iK (ts:=[3,55]) hcall ?_;(conv=>whnf);(repeat (refine aI ?_;conv=>whnf));refine⟨_,hsp j _ _ (by rw[hle];rfl),?_⟩;rintro _ _ ⟨rfl,rfl⟩;(refine And.intro (by simp[iy,grounds,D.ground,aj.row]) ?_;conv=>whnf))|((refine OkB.go (c:=.region 29 _ _) (GoH.raw tok 14 501 (ti:=_) rfl rfl rfl sI (fun hx0=>?_) (fun g' c' hgc=>?_))<;>(conv=>whnf)))|((first|refine st (none:Option Hd) hcell (by simp[cel]) rfl ?_|refine st (some ⟨g',((kV c.gB (cu c.b) (dw c ks ks.length j)).map aj.row).length,c',obD⟩:Option Hd) hcell (by simp[cel]) rfl ?_|refine OkB.go (c:=.region 30 _ _) (GoH.close tok (t0:=501) (ti:=_) rfl rfl rfl (jw (kV c.gB (cu c.b) (dw c ks ks.length j))) fun o' ho'=>?_));conv=>whnf)|(refine OkB.perm (c:=.region 30 _ _) (Ed hcell ⟨g',((kV c.gB (cu c.b) (dw c ks ks.length j)).map aj.row).length,c',o'⟩) ?_)|refine OkB.seq ?_|((first|refine OkB.aA (OkM.region tok ?_)|refine OkB.cond ?_);conv=>whnf)|refine OkB.block ?_|((first|refine OkB.skip ?_|refine OkB.ret ?_|refine nI ?_);conv=>whnf)|(refine bI ?_ ?_<;>intro<;>first|omega|conv=>whnf)|(refine aJ ?_;conv=>whnf)|fail)
     all_goals first
      | (exact .inl ⟨_,rfl,htab.2 fun hall=>absurd (hall j hjl) aS⟩)
      | (refine⟨(j+1,hs.set j (some ⟨g',((kV c.gB (cu c.b) (dw c ks ks.length j)).map aj.row).length,c',o'⟩)),by dsimp only;omega,⟨by dsimp only;omega,by dsimp only;rw[<- Ef];exact hTI.set ho',hz (Classical.not_not.1 aS)⟩,.refl _,.refl _,?_⟩
         rw[oD hs j g' _ c' o' obD];(conv=>whnf);(first|rfl|simp[ak, au, SI.row, Node.row, Pfx.row, Link.row, aG, Line.row, Rule.row, Box.row, Slc.row, Config.row, ay, bM, Prt.row, Eg.row, aj.row, cel]);done)
      | (refine⟨(j+1,hs.set j none),by dsimp only;omega,⟨by dsimp only;omega,by dsimp only;rw[<- Ef,List.map_eq_nil_iff.1 hx0];exact hTI.set0,hz (Classical.not_not.1 aS)⟩,.refl _,by rw[zV hcell];exact .refl _,?_⟩
         (conv=>whnf);(first|rfl|simp[ak, au, SI.row, Node.row, Pfx.row, Link.row, aG, Line.row, Rule.row, Box.row, Slc.row, Config.row, ay, bM, Prt.row, Eg.row, aj.row, cel]);done)
   . have Kz:(hs.map cel)[((j:Nat):Int).toNat]? = some (cel (some h)):=by rw[Int.toNat_natCast,aN,hcell];rfl
     have hbk:=hTI.2 j (some h) _ hcell (QM hjl);have hnl:=(vY hbk).1;(try (conv=>whnf));repeat' (first|(refine OkB.perm (c:=.region 26 _ _) (Fv hcell) ?_)|((first|refine OkB.go (c:=.region 26 _ _) (GoH.open 500 hbk ?_)|refine OkB.region (id:=26) tok ?_|refine⟨rfl,cel (some h),Kz,?_⟩);conv=>whnf)|(refine Or.inr ?_;(conv=>whnf);refine bW.rF 1 500 rfl rfl rfl (Nat.le_refl _) ?_;refine bW.iK (ts:=[3,55]) hcall ?_;(conv=>whnf);(repeat (refine aI ?_;conv=>whnf));refine⟨_,hsp j _ _ (by exact au oA),?_⟩;rintro _ _ ⟨rfl,rfl⟩;(refine And.intro (by simp[iy,grounds,D.ground,aj.row]) ?_;conv=>whnf))|((refine OkB.go (c:=.region 29 _ _) (GoH.raw tok 14 501 (ti:=_) rfl rfl rfl sI (fun hx0=>?_) (fun g' c' hgc=>?_))<;>(conv=>whnf)))|((first|refine st (none:Option Hd) hcell (by simp[cel]) rfl ?_|refine st (some ⟨g',((kV c.gB (cu c.b) (dw c ks ks.length j)).map aj.row).length,c',obD⟩:Option Hd) hcell (by simp[cel]) rfl ?_|refine OkB.go (c:=.region 30 _ _) (GoH.close tok (t0:=501) (ti:=_) rfl rfl rfl (jw (kV c.gB (cu c.b) (dw c ks ks.length j))) fun o' ho'=>?_));conv=>whnf)|(refine OkB.perm (c:=.region 30 _ _) (uj (h:=⟨g',((kV c.gB (cu c.b) (dw c ks ks.length j)).map aj.row).length,c',o'⟩) hjs) ?_)|refine OkB.seq ?_|((first|refine OkB.aA (OkM.region tok ?_)|refine OkB.cond ?_);conv=>whnf)|refine OkB.block ?_|((first|refine OkB.skip ?_|refine OkB.ret ?_|refine nI ?_);conv=>whnf)|(refine bI ?_ ?_<;>intro<;>first|omega|conv=>whnf)|(refine aJ ?_;conv=>whnf)|fail)
     all_goals first
      | (exact .inl ⟨_,rfl,htab.2 fun hall=>absurd (hall j hjl) aS⟩)
      | (refine⟨(j+1,hs.set j (some ⟨g',((kV c.gB (cu c.b) (dw c ks ks.length j)).map aj.row).length,c',o'⟩)),by dsimp only;omega,⟨by dsimp only;omega,by dsimp only;rw[<- Ef];exact hTI.set ho',hz (Classical.not_not.1 aS)⟩,.refl _,.refl _,?_⟩
         rw[oD hs j g' _ c' o' obD];(conv=>whnf);(first|rfl|simp[ak, au, SI.row, Node.row, Pfx.row, Link.row, aG, Line.row, Rule.row, Box.row, Slc.row, Config.row, ay, bM, Prt.row, Eg.row, aj.row, cel]);done)
      | (refine⟨(j+1,hs.set j none),by dsimp only;omega,⟨by dsimp only;omega,by dsimp only;rw[<- Ef,List.map_eq_nil_iff.1 hx0];exact hTI.set0,hz (Classical.not_not.1 aS)⟩,.refl _,.refl _,?_⟩
         (conv=>whnf);(first|rfl|simp[ak, au, SI.row, Node.row, Pfx.row, Link.row, aG, Line.row, Rule.row, Box.row, Slc.row, Config.row, ay, bM, Prt.row, Eg.row, aj.row, cel]);done)
 . obtain rfl:j=c.boxes.l.length:=oA
   have hL:=htab.1 hcz;(try (conv=>whnf));repeat' (first|((refine OkB.go (c:=.region 31 _ _) (GoH.raw tok 6 500 (ti:=_) rfl rfl rfl (by simp[acY,hsl]) (fun hx0=>?_) (fun g cap hgc=>?_))<;>(conv=>whnf)))|(refine OkB.go (c:=.ret) (GoH.close tok (t0:=500) (ti:=_) rfl rfl rfl (Ib hs) fun o ho=>?_);conv=>whnf)|refine OkB.seq ?_|((first|refine OkB.aA (OkM.region tok ?_)|refine OkB.cond ?_|refine OkB.exit ?_|refine OkB.ret ?_);conv=>whnf)|(refine bI ?_ ?_<;>intro<;>first|omega|conv=>whnf)|(refine aJ ?_;conv=>whnf)|fail)
   . refine .inr (.inl ⟨_,rfl,List.eq_nil_of_length_eq_zero ?_⟩)
     rw[hL,Ee,<- hsl,List.map_eq_nil_iff.1 hx0];rfl
   . rw[hcm] at ho ⊢
     exact .inr (.inr ⟨_,g,cap,hs,o,rfl,rfl,ho,by rw[hL];exact hTI⟩)
end Go.Proofs.YtnlingegeangmaaGreatDoor
namespace Go.Proofs.YtnlingegeangmaaGreatDoor
open Go Go.Vx
theorem aa0{X Y:aQ}{ys:List ER}{x:ER}{p:Nat × Obj}(h:x.ks=[p]):(p :: (X++(bkR ys++Y))).Perm (X++(bkR (ys++[x])++Y)):=by
 rw[pF,h,List.append_assoc (bkR ys)];exact List.perm_middle.symm.trans ((List.perm_middle.symm).append_left X)
theorem aa1{hs:List (Option Hd)}{i:Nat}{h:Hd}(hh:hs[i]? = some (some h)):(bt (hs.drop i)).Perm (h.p :: bt (hs.drop (i+1))):=by
 obtain⟨h1,h2⟩:=aK.1 hh;rw[List.drop_eq_getElem_cons h1,h2];exact .refl _
theorem ZG{hs:List (Option Hd)}{i:Nat}(hh:hs[i]? = some none):bt (hs.drop (i+1))=bt (hs.drop i):=by
 obtain⟨h1,h2⟩:=aK.1 hh;rw[List.drop_eq_getElem_cons h1,h2];rfl
theorem Yg{Q:Exit->St->aH->aQ->Prop}(w:Int)(l:List aj)(r2:List (List D))(sv:Bool)(rounds:Int)(c:Config)(er:List ER)(en:List EN)(et:List ET)(i:Nat)(cs:List D)(hel:er.length<=7000)(hnl:en.length<=1000)(htl:et.length<=300)(hR:∀ i e,er[i]? = some e->kC i e)(hT:∀ i e,et[i]? = some e->oV i e)
    (g cap:Nat)(hs:List (Option Hd))(o:Obj)(L:List (List aj))(hb:fP (ah T) 55 hs.length cap (hs.map cel) o)(hTI:fK 57 aj.row hs L)(hsl:hs.length<=16)(hLl:∀ m ∈ L,m.length<=3000000)
    (hQ:∀ er' et',er'.length<=er.length+16->(∀ i e,er'[i]? = some e->kC i e)->er'.map ER.was=er.map ER.was++L->et'.length=et.length+1->(∀ i e,et'[i]? = some e->oV i e)->Q .normal ⟨[(0,.bp 1 0)]++frm sv w l r2 rounds i cs,[c.row,[.own 0 er'.length,.own 1 en.length,.own 2 et'.length],c.row],[some (72,er'.map aZ),some (76,en.map bg),some (136,et'.map bF)],Tryz.f23.ntmps⟩ [] (bkR er'++(bkN en++bkT et'))) :
    OkB Tryz.prog T [] (dI [1,1,1,1,1,1,1,1,1,1,1,0] (Tryz.f23.body.getD .ret)) Q ⟨[(0,.bp 1 0),(17,.rsl g hs.length cap)]++frm sv w l r2 rounds i cs,[c.row,[.own 0 er.length,.own 1 en.length,.own 2 et.length],c.row],[some (72,er.map aZ),some (76,en.map bg),some (136,et.map bF)],Tryz.f23.ntmps⟩ [] ((g,o) :: (bt hs++(bkR er++(bkN en++bkT et)))):=by
 cases sv
 case' false=>let sv:Bool:=false
 case' true=>let sv:Bool:=true
 all_goals
  have hem:(er.map aZ).length=er.length:=sI;have htm:(et.map bF).length=et.length:=sI;have hhm:(hs.map cel).length=hs.length:=sI;have htk:∀ m:List aj,(m.map aj.row++rmK).take m.length=m.map aj.row:=fun m=>List.take_left' sI
  have hdk:∀ m:List aj,(m.map aj.row++rmK).drop m.length=rmK:=fun m=>List.drop_left' sI
  refine OkB.go (GoH.open 500 hb ?_);(conv=>whnf);refine OkB.fC [0,102,103,105,108,111,112,113,114] 3 3 (fun x:List ER × List ET=>⟨[(0,.bp 1 0)]++frm sv w l r2 rounds i cs,[c.row,[.own 0 x.1.length,.own 1 en.length,.own 2 x.2.length],c.row],[some (72,x.1.map aZ),some (76,en.map bg),some (136,x.2.map bF)],Tryz.f23.ntmps⟩) (fun _=>[]) (fun x=>bkR x.1++(bkN en++bkT x.2)) (fun e x=>e = .normal/\x.1.length<=er.length+16/\(∀ i e,x.1[i]? = some e->kC i e)/\x.1.map ER.was=er.map ER.was++L/\x.2.length=et.length+1/\(∀ i e,x.2[i]? = some e->oV i e)) (OkB.fin (OkB.region (id:=11) tok ?_)) ?_;rotate_left
  . rintro e ⟨er',et'⟩ ⟨rfl,k1,k2,k3,k4,k5⟩
    exact hQ er' et' k1 k2 k3 k4 k5
  (conv=>whnf);refine Or.inr (Or.inr ?_);(conv=>whnf);refine⟨_,_,Tryz.func69,rfl,Tryz.call69,?_⟩;(conv=>whnf);(try (conv=>whnf));repeat' (first|refine OkB.seq ?_|(refine OkB.aA (OkM.region tok ?_);conv=>whnf)|refine OkB.block ?_|fail)
  refine OkB.aT [0,1,149,35,137,138,140,143,146,147,148] [4,535] 4 3 (fun (x:Nat × List ER)=>[.i .i64 (x.1:Nat),.tie 3 g hs.length cap]) (fun (x:Nat × List ER) (_:List (List D))=>[c.row,[.own 0 x.2.length,.own 1 en.length,.own 2 et.length],c.row]) (fun (x:Nat × List ER) (_:Vx.Rows)=>[some (72,x.2.map aZ),some (76,en.map bg),some (136,et.map bF),some (55,hs.map cel)]) (fun (x:Nat × List ER)=>[]) (fun (x:Nat × List ER)=>bt (hs.drop x.1)++(bkR x.2++(bkN en++bkT et))) (fun (x:Nat × List ER)=>x.1<=hs.length/\x.2.length=er.length+x.1/\(∀ i e,x.2[i]? = some e->kC i e)/\x.2.map ER.was=er.map ER.was++L.take x.1) (fun (x:Nat × List ER)=>hs.length - x.1) ((0,er)) (⟨Nat.zero_le _,rfl,hR,sI⟩) sS sS ?_;(conv=>whnf);refine⟨by ((conv=>whnf);first|rfl|(simp[ak,au,ay,Eg.row,aj.row,cel];done)|(simp[ak,au,ay,Eg.row,aj.row,cel];rw[IntKind.wrap_i64];omega)),?_⟩;rintro⟨k,ys⟩ ⟨hk,hyl,hF,hW⟩;dsimp only at hk hyl hF hW ⊢;have hym:(ys.map aZ).length=ys.length:=sI;(conv=>whnf);by_cases hkl:k<hs.length
  . obtain⟨m,hm⟩:∃ m,L[k]? = some m:=⟨_,aC (by rw[<- hTI.1];exact hkl)⟩
    have hml:=hLl m (aU hm);have hWn:∀ x:ER,x.was=m->(ys++[x]).map ER.was=er.map ER.was++L.take (k+1):=fun x hx=>by
     rw[List.take_add_one,hm,List.map_append,hW];simp[hx]
    rcases hcell:hs[k]? with _|_|h
    . have:=List.getElem?_eq_none_iff.1 hcell
      omega
    . have hmn:m=[]:=hTI.2 k none _ hcell hm
      subst hmn;(try (conv=>whnf));repeat' (first|((first|refine OkB.region (id:=3) tok ?_|refine⟨535,3,_,_,rfl,oA,?_⟩|refine rd rfl hcell ?_);conv=>whnf)|refine OkB.seq ?_|((first|refine OkB.aA (OkM.region tok ?_)|refine OkB.cond ?_);conv=>whnf)|refine OkB.block ?_|(refine OkB.skip ?_;conv=>whnf)|(refine bI ?_ ?_<;>intro<;>first|omega|conv=>whnf)|(refine aJ ?_;conv=>whnf)|fail)
      refine Or.inr (Or.inr ?_);(conv=>whnf);refine⟨_,_,Tryz.func68,rfl,Tryz.call68,?_⟩;(conv=>whnf);(try (conv=>whnf));repeat' (first|(refine Or.inr (Or.inr (Or.inr ?_));(conv=>whnf);refine bW.uI 0 57 rfl rfl ?_;refine bW.iK (ts:=[55]) Tryz.call22 ?_;(conv=>whnf);(repeat (refine aI ?_;conv=>whnf));refine⟨_,oh [] _ rfl sI,?_⟩;rintro _ _ ⟨rfl,rfl⟩;(refine And.intro ⟨pq _,True.intro⟩ ?_;conv=>whnf))|((first|refine OkB.aA (OkM.region tok ?_)|refine OkB.aA (OkM.aB (Ok.aW (id:=0) tok follows [(11,14,[13,12]),(7,14,[13]),(1,15,[4,3,2]),(2,15,[4,3]),(3,15,[4]),(4,15,[]),(5,15,[14,13]),(6,15,[7]),(8,15,[14,13,12,11,10,9]),(9,15,[14,13,12,11,10]),(10,15,[14,13,12,11]),(11,15,[14,13,12]),(12,15,[14,13]),(7,15,[]),(13,15,[14]),(14,15,[]),(4,18,[]),(11,18,[]),(7,18,[]),(14,18,[]),(15,18,[])] [.q 0,.q 1,.q 2,.q 3,.q 4,.q 5,.q 6,.q 8,.q 9,.q 10,.q 11,.q 12,.l 7,.q 13,.l 14,.l 15,.q 16,.q 17,.l 18] kR ?_))|refine nI ?_|refine bU.l (aI ?_)|refine⟨_,.inl ⟨rfl,rfl⟩,?_⟩|refine⟨_,_,rfl,rfl,?_⟩|refine aJ ?_);conv=>whnf)|fail)
      refine⟨(k+1,ys++[⟨.rnl,.lst 57 [] [],[],[],ys.length⟩]),by dsimp only;omega,⟨by dsimp only;omega,by simp;omega,l7 hF .nil,hWn _ rfl⟩,List.nil_sublist _,?_,?_⟩
      . dsimp only
        rw[pF,List.append_nil,ZG hcell];exact .refl _
      . (conv=>whnf)
        simp[ak]
        first|rfl|exact⟨rfl,rfl⟩
    . have hbk:=hTI.2 k (some h) _ hcell hm
      have hnl:=(vY hbk).1;(try (conv=>whnf));repeat' (first|(refine OkB.perm (c:=.region 3 _ _) ((aa1 hcell).append_right _) ?_)|((first|refine OkB.go (c:=.region 3 _ _) (GoH.open 536 hbk ?_)|refine OkB.region (id:=3) tok ?_|refine⟨535,3,_,_,rfl,oA,?_⟩|refine rd rfl hcell ?_);conv=>whnf)|refine OkB.seq ?_|((first|refine OkB.aA (OkM.region tok ?_)|refine OkB.cond ?_);conv=>whnf)|refine OkB.block ?_|(refine OkB.skip ?_;conv=>whnf)|(refine bI ?_ ?_<;>intro<;>first|omega|conv=>whnf)|(refine aJ ?_;conv=>whnf)|fail)
      refine Or.inr (Or.inr ?_);(conv=>whnf);refine⟨_,_,Tryz.func68,rfl,Tryz.call68,?_⟩;(conv=>whnf);(try (conv=>whnf));repeat' (first|(refine Or.inr (Or.inr (Or.inr ?_));(conv=>whnf);refine bW.rF 0 558 rfl rfl rfl (Nat.le_refl _) ?_;refine bW.iK (ts:=[55]) Tryz.call22 ?_;(conv=>whnf);(repeat (refine aI ?_;conv=>whnf));refine⟨_,oh m _ (by exact au (by rw[hnl];exact Nat.le_refl _)) oA,?_⟩;rintro _ _ ⟨rfl,rfl⟩;(refine And.intro ⟨pq _,True.intro⟩ ?_;conv=>whnf))|(refine OkB.go (c:=.region 2 _ _) (GoH.close tok (t0:=536) (ti:=_) rfl rfl rfl (jw _) fun o1 ho1=>?_);conv=>whnf)|(refine OkB.perm (c:=.region 2 _ _) (aa0 (x:=⟨.rsl h.g h.n h.c,.lst 57 [] [],[(h.g,o1)],m,ys.length⟩) rfl) ?_)|((first|refine OkB.aA (OkM.region tok ?_)|refine OkB.aA (OkM.aB (Ok.aW (id:=0) tok follows [(11,14,[13,12]),(7,14,[13]),(1,15,[4,3,2]),(2,15,[4,3]),(3,15,[4]),(4,15,[]),(5,15,[14,13]),(6,15,[7]),(8,15,[14,13,12,11,10,9]),(9,15,[14,13,12,11,10]),(10,15,[14,13,12,11]),(11,15,[14,13,12]),(12,15,[14,13]),(7,15,[]),(13,15,[14]),(14,15,[]),(4,18,[]),(11,18,[]),(7,18,[]),(14,18,[]),(15,18,[])] [.q 0,.q 1,.q 2,.q 3,.q 4,.q 5,.q 6,.q 8,.q 9,.q 10,.q 11,.q 12,.l 7,.q 13,.l 14,.l 15,.q 16,.q 17,.l 18] kR ?_))|refine nI ?_|refine bU.l (aI ?_)|refine⟨_,.inl ⟨rfl,rfl⟩,?_⟩|refine⟨_,_,rfl,rfl,?_⟩|refine aJ ?_);conv=>whnf)|fail)
      refine⟨(k+1,ys++[⟨.rsl h.g h.n h.c,.lst 57 [] [],[(h.g,o1)],m,ys.length⟩]),by dsimp only;omega,⟨by dsimp only;omega,by simp;omega,l7 hF (.raw h.g h.n h.c o1 m (by rw[hnl];simp) (by rw[hnl];simp;omega) ho1),hWn _ rfl⟩,List.nil_sublist _,.refl _,?_⟩;(conv=>whnf);rw[htk,hdk];simp[ak]
      first|rfl|exact⟨rfl,rfl⟩
  . obtain rfl:k=hs.length:=oA
    (try (conv=>whnf));repeat' (first|refine OkB.seq ?_|((first|refine OkB.aA (OkM.region tok ?_)|refine OkB.aA (OkM.aB (Ok.aW (id:=4) tok follows [(9,14,[13,12,11,10]),(1,15,[4,3,2]),(2,15,[4,3]),(3,15,[4]),(4,15,[]),(5,15,[14,13]),(6,15,[14,13,12,11,10,9,8,7]),(7,15,[14,13,12,11,10,9,8]),(8,15,[14,13,12,11,10,9]),(9,15,[14,13,12,11,10]),(10,15,[14,13,12,11]),(11,15,[14,13,12]),(12,15,[14,13]),(13,15,[14]),(14,15,[]),(4,18,[]),(9,18,[]),(14,18,[]),(15,18,[])] [.q 0,.q 1,.q 2,.q 3,.q 4,.q 5,.q 6,.q 7,.q 8,.q 9,.q 10,.q 11,.q 12,.q 13,.l 14,.l 15,.q 16,.q 17,.l 18] kR ?_))|refine OkB.cond ?_|refine OkB.exit ?_|refine nI ?_|refine bU.l (aI ?_)|refine⟨_,.inl ⟨rfl,rfl⟩,?_⟩|refine⟨_,_,rfl,rfl,?_⟩);conv=>whnf)|(refine bI ?_ ?_<;>intro<;>first|omega|conv=>whnf)|(refine aJ ?_;conv=>whnf)|fail)
    refine⟨GoH.bind (GoH.close tok (t0:=500) (ti:=_) rfl rfl rfl (Ib hs) fun o1 ho1=>?_)⟩;(conv=>whnf);refine GoH.perm (M':=bkR ys++(bkN en++bkT (et++[⟨.rsl g hs.length cap,.lst 55 [] [],[(g,o1)],100000*(et.length+1)⟩]))) ?_ ?_
    . rw[List.drop_length,QN]
      show ((g,o1) :: (bkR ys++(bkN en++bkT et))).Perm _;rw[<- List.append_assoc,<- List.append_assoc,<- List.append_assoc];exact List.perm_append_comm (l₁:=[(g,o1)])
    . refine⟨(ys,et++[⟨.rsl g hs.length cap,.lst 55 [] [],[(g,o1)],100000*(et.length+1)⟩]),⟨rfl,by dsimp only;omega,hF,by dsimp only;rw[hW,au (by rw[hTI.1];exact Nat.le_refl _)],sI,l7 hT (.raw g hs.length cap o1 (hs.map cel) sI hsl (Ib hs) ho1)⟩,List.nil_sublist _,.refl _,?_⟩
      (conv=>whnf);simp
      first|rfl|exact⟨rfl,rfl⟩
theorem VY{Q:Exit->St->aH->aQ->Prop}(w:Int)(l:List aj)(r2:List (List D))(sv:Bool)(rounds:Int)(c:Config)(er:List ER)(en:List EN)(et:List ET)(i:Nat)(cs:List D)(hel:er.length<=7000)(hnl:en.length<=1000)(htl:et.length<=300)(hT:∀ i e,et[i]? = some e->oV i e)
    (hQ:∀ et',et'.length=et.length+1->(∀ i e,et'[i]? = some e->oV i e)->Q .normal ⟨[(0,.bp 1 0)]++frm sv w l r2 rounds i cs,[c.row,[.own 0 er.length,.own 1 en.length,.own 2 et'.length],c.row],[some (72,er.map aZ),some (76,en.map bg),some (136,et'.map bF)],Tryz.f23.ntmps⟩ [] (bkR er++(bkN en++bkT et'))) :
    OkB Tryz.prog T [] (dI [1,1,1,1,1,1,1,1,1,1,1,0] (Tryz.f23.body.getD .ret)) Q ⟨[(0,.bp 1 0),(17,.rnl)]++frm sv w l r2 rounds i cs,[c.row,[.own 0 er.length,.own 1 en.length,.own 2 et.length],c.row],[some (72,er.map aZ),some (76,en.map bg),some (136,et.map bF)],Tryz.f23.ntmps⟩ [] (bkR er++(bkN en++bkT et)):=by
 cases sv
 case' false=>let sv:Bool:=false
 case' true=>let sv:Bool:=true
 all_goals
  have hem:(er.map aZ).length=er.length:=sI;have htm:(et.map bF).length=et.length:=sI;refine OkB.fC [0,102,103,105,108,111,112,113,114] 3 3 (fun x:List ET=>⟨[(0,.bp 1 0)]++frm sv w l r2 rounds i cs,[c.row,[.own 0 er.length,.own 1 en.length,.own 2 x.length],c.row],[some (72,er.map aZ),some (76,en.map bg),some (136,x.map bF)],Tryz.f23.ntmps⟩) (fun _=>[]) (fun x=>bkR er++(bkN en++bkT x)) (fun e x=>e = .normal/\x.length=et.length+1/\(∀ i e,x[i]? = some e->oV i e)) (OkB.region (id:=11) tok ?_) ?_;rotate_left
  . rintro e et' ⟨rfl,k4,k5⟩
    exact hQ et' k4 k5
  (conv=>whnf);refine Or.inr (Or.inr ?_);(conv=>whnf);refine⟨_,_,Tryz.func69,rfl,Tryz.call69,?_⟩;(conv=>whnf);(try (conv=>whnf));repeat' (first|refine OkB.seq ?_|(refine OkB.aA (OkM.region tok ?_);conv=>whnf)|refine OkB.block ?_|fail)
  refine OkB.aT [0,1,149,35,137,138,140,143,146,147,148] [4] 3 3 (fun (x:Nat)=>[.i .i64 (x:Nat)]) (fun _ b=>b) (fun _ r=>r) (fun (x:Nat)=>[]) (fun (x:Nat)=>bkR er++(bkN en++bkT et)) (fun (x:Nat)=>x=0) (fun (x:Nat)=>0) (0) (rfl) sS sS ?_;(conv=>whnf);refine⟨by ((conv=>whnf);first|rfl|(simp[ak,au,ay,Eg.row,aj.row,cel];done)|(simp[ak,au,ay,Eg.row,aj.row,cel];rw[IntKind.wrap_i64];omega)),?_⟩;rintro x rfl;(conv=>whnf)
  repeat' (first|refine OkB.seq ?_|((first|refine OkB.aA (OkM.region tok ?_)|refine OkB.aA (OkM.aB (Ok.aW (id:=4) tok follows [(9,14,[13,12,11,10]),(1,15,[4,3,2]),(2,15,[4,3]),(3,15,[4]),(4,15,[]),(5,15,[14,13]),(6,15,[14,13,12,11,10,9,8,7]),(7,15,[14,13,12,11,10,9,8]),(8,15,[14,13,12,11,10,9]),(9,15,[14,13,12,11,10]),(10,15,[14,13,12,11]),(11,15,[14,13,12]),(12,15,[14,13]),(13,15,[14]),(14,15,[]),(4,18,[]),(9,18,[]),(14,18,[]),(15,18,[])] [.q 0,.q 1,.q 2,.q 3,.q 4,.q 5,.q 6,.q 7,.q 8,.q 9,.q 10,.q 11,.q 12,.q 13,.l 14,.l 15,.q 16,.q 17,.l 18] kR ?_))|refine OkB.cond ?_|refine OkB.exit ?_|refine nI ?_|refine bU.l (aI ?_)|refine⟨_,.inl ⟨rfl,rfl⟩,?_⟩|refine⟨_,_,rfl,rfl,?_⟩);conv=>whnf)|(refine bI ?_ ?_<;>intro<;>first|omega|conv=>whnf)|(refine aJ ?_;conv=>whnf)|fail)
  all_goals try (exfalso;first|omega|(rename_i hx;exact absurd hx dC))
  refine⟨et++[⟨.rnl,.lst 55 [] [],[],100000*(et.length+1)⟩],⟨rfl,sI,l7 hT .nil⟩,List.nil_sublist _,by rw[QN,List.append_nil];exact .refl _,?_⟩;(conv=>whnf);simp
  first|rfl|exact⟨rfl,rfl⟩
end Go.Proofs.YtnlingegeangmaaGreatDoor
namespace Go.Proofs.YtnlingegeangmaaGreatDoor
open Go Go.Vx
structure Stp(p:Prop):Prop where
 go:p
theorem jm{p:Prop}(h:Stp p):p:=h.go
def kpQ:Exit->St->aH->aQ->Prop:=fun e s _ _=>Cb T Tryz.f5 (fun r _=>r = .b True) e s
noncomputable def kpC:Code:=Tryz.f5.body.getD .ret
noncomputable def sH(w:Int)(l:List aj)(r2:List (List D))(rounds:Int)(c:Config)(er:List ER)(en:List EN)(et:List ET)(i:Nat):St:=
 ⟨[(0,.i .i64 w),(1,.lst 57 (l.map aj.row) r2),(3,.i .i64 rounds),(6,.bp 0 0),(9,.lst 57 (l.map aj.row) rmK),(10,.bp 1 0),(11,.i .i64 (i:Nat))],[c.row,[.own 0 er.length,.own 1 en.length,.own 2 et.length]],
  [some (72,er.map aZ),some (76,en.map bg),some (136,et.map bF)],Tryz.f5.ntmps⟩
theorem QT{Q:Exit->St->aH->aQ->Prop}(w:Int)(l:List aj)(r2:List (List D))(hll:l.length<=60)(sv:Bool)(rounds:Int)(c:Config)
    (htb:iJ Tryz.prog T 8 [.agg c.row] (fun d M B=>M=[]/\zA c d B))(er:List ER)(en:List EN)(et:List ET)(i:Nat)(cs:List D)(hel:er.length<=6000)(hnl:en.length<=1000)(htl:et.length<=290){R:List (List aj)}{N:List (List Int)}(hS:Shf er en et R N)(htL:(fV c).length<=16/\∀ m ∈ fV c,m.length<=3000000)
    (hQ:∀ er' en' et',er'.length<=er.length+20->en'.length=en.length+4->et'.length=et.length+1->Shf er' en' et' (R++qG w l c) (N++qH)->Q .normal ⟨[(0,.bp 1 0)]++frm sv w l r2 rounds i cs,[c.row,[.own 0 er'.length,.own 1 en'.length,.own 2 et'.length],c.row],[some (72,er'.map aZ),some (76,en'.map bg),some (136,et'.map bF),none,none,none,none,none],Tryz.f23.ntmps⟩ [] (bkR er'++(bkN en'++bkT et'))) :
    OkB Tryz.prog T [] (Tryz.f23.body.getD .ret) Q ⟨[(0,.bp 1 0),(1,.i .i64 w),(2,.lst 57 (l.map aj.row) rmK),(3,.agg c.row)]++frm sv w l r2 rounds i cs,[c.row,[.own 0 er.length,.own 1 en.length,.own 2 et.length]],[some (72,er.map aZ),some (76,en.map bg),some (136,et.map bF)],Tryz.f23.ntmps⟩ [] (bkR er++(bkN en++bkT et)):=by
 cases sv
 case' false=>let sv:Bool:=false
 case' true=>let sv:Bool:=true
 all_goals
  have hlm:(l.map aj.row).length=l.length:=sI;have hr3:rmK.length=2:=rfl;have hem:(er.map aZ).length=er.length:=sI;have hhl:(hlf l).length<=60:=by unfold hlf;simp;omega
  have hq2:IntKind.i64.wrap (((l.map aj.row).length:Int).tdiv 2)=((l.length / 2:Nat):Int):=by
   rw[Int.tdiv_eq_ediv_of_nonneg oA,IntKind.wrap_i64,hlm];omega
  have hhr:∀ rm:List (List D),((l.map aj.row++rm).take (l.length / 2)).drop 0=(hlf l).map aj.row:=fun rm=>by
   rw[List.drop_zero,List.take_append_of_le_length oA,hlf,List.map_take]
  have hL1:(dR w l).length<=3000000:=by have:=JF w l;omega
  have hL2:(dR w (hlf l)).length<=3000000:=by have:=JF w (hlf l);omega
  have hL3:(dK w l).length<=3000000:=by have:=Jf w l;omega
  have hL4:(dK w (hlf l)).length<=3000000:=by have:=Jf w (hlf l);omega
  have htk:∀ m:List aj,(m.map aj.row++rmK).take m.length=m.map aj.row:=fun m=>List.take_left' sI
  have hdk:∀ m:List aj,(m.map aj.row++rmK).drop m.length=rmK:=fun m=>List.drop_left' sI
  have ho1:=fun sl=>Ac w l (rl:=l.map aj.row) (sl:=sl) rfl
  have ho2:=fun sl=>Ac w (hlf l) (rl:=(hlf l).map aj.row) (sl:=sl) rfl
  have hs1:=fun sl=>EC w l (rows:=l.map aj.row) (room:=sl) rfl
  have hs2:=fun sl=>EC w (hlf l) (rows:=(hlf l).map aj.row) (room:=sl) rfl
  (try (conv=>whnf));repeat' (first|(refine⟨0,l.length / 2,rfl,hq2,oA,oA,(hlf l).map aj.row,(l.map aj.row++rmK).drop (l.length / 2),(hhr rmK).symm,rfl,?_⟩;conv=>whnf)|((refine OkB.moves (c:=.region 6 _ _) [5,4,3] ?_;(conv=>whnf);refine OkB.fC (c:=.region 6 _ _) [0,1,7,11,13,15,102,103,105,108,111,112,113,114] 9 3 (fun x:ER=>⟨[(0,.bp 1 0),(1,.i .i64 w),(7,.bp 2 0),(11,.own 8 (dR w (hlf l)).length),(13,.own 7 (dK w l).length),(15,.own 6 (dK w (hlf l)).length)]++frm sv w l r2 rounds i cs,[c.row,[.own 0 (er++[x]).length,.own 1 en.length,.own 2 et.length],c.row],[some (72,(er++[x]).map aZ),some (76,en.map bg),some (136,et.map bF),none,none,none,some (57,(dK w (hlf l)).map aj.row),some (57,(dK w l).map aj.row),some (57,(dR w (hlf l)).map aj.row)],Tryz.f23.ntmps⟩) (fun _=>[]) (fun x=>bkR (er++[x])++(bkN en++bkT et)) (fun e x=>e = .normal/\kC er.length x/\x.was=dR w l) (OkB.fin (OkB.go (GoH.raw tok 9 500 (ti:=_) rfl rfl rfl sI (fun hx0=>OkB.region (id:=6) tok ?_) (fun g c0 hgc=>OkB.region (id:=6) tok ?_)))) ?_<;>(conv=>whnf)))|refine OkB.seq ?_|(refine OkB.aA (OkM.region tok ?_);conv=>whnf)|(refine Or.inl ?_;(conv=>whnf);refine Or.inr (Or.inl ?_);(conv=>whnf);(repeat (refine aI ?_;conv=>whnf));refine⟨_,ho1 _ , ?_⟩;rintro _ _ ⟨rfl,rfl⟩<;>(conv=>whnf))|(refine Or.inl ?_;(conv=>whnf);refine Or.inr (Or.inl ?_);(conv=>whnf);(repeat (refine aI ?_;conv=>whnf));refine⟨_,ho2 _ , ?_⟩;rintro _ _ ⟨rfl,rfl⟩<;>(conv=>whnf))|(refine Or.inl ?_;(conv=>whnf);refine Or.inr (Or.inl ?_);(conv=>whnf);(repeat (refine aI ?_;conv=>whnf));refine⟨_,hs1 _ , ?_⟩;rintro _ _ ⟨rfl,rfl⟩<;>(conv=>whnf))|(refine Or.inl ?_;(conv=>whnf);refine Or.inr (Or.inl ?_);(conv=>whnf);(repeat (refine aI ?_;conv=>whnf));refine⟨_,hs2 _ , ?_⟩;rintro _ _ ⟨rfl,rfl⟩<;>(conv=>whnf))|((first|refine aJ ?_|refine jh ?_);conv=>whnf)|fail)
  . refine Or.inr (Or.inr ?_);(conv=>whnf);refine⟨_,_,Tryz.func68,rfl,Tryz.call68,?_⟩;(conv=>whnf)
    (try (conv=>whnf));repeat' (first|(refine Or.inr (Or.inr (Or.inr ?_));(conv=>whnf);refine bW.uI 0 57 rfl rfl ?_;refine bW.iK (ts:=[55]) Tryz.call22 ?_;(conv=>whnf);(repeat (refine aI ?_;conv=>whnf));refine⟨_,oh [] _ rfl sI,?_⟩;rintro _ _ ⟨rfl,rfl⟩;(refine And.intro ⟨pq _,True.intro⟩ ?_;conv=>whnf))|((first|refine OkB.aA (OkM.aB (Ok.aW (id:=0) tok follows [(11,14,[13,12]),(7,14,[13]),(1,15,[4,3,2]),(2,15,[4,3]),(3,15,[4]),(4,15,[]),(5,15,[14,13]),(6,15,[7]),(8,15,[14,13,12,11,10,9]),(9,15,[14,13,12,11,10]),(10,15,[14,13,12,11]),(11,15,[14,13,12]),(12,15,[14,13]),(7,15,[]),(13,15,[14]),(14,15,[]),(4,18,[]),(11,18,[]),(7,18,[]),(14,18,[]),(15,18,[])] [.q 0,.q 1,.q 2,.q 3,.q 4,.q 5,.q 6,.q 8,.q 9,.q 10,.q 11,.q 12,.l 7,.q 13,.l 14,.l 15,.q 16,.q 17,.l 18] kR ?_))|refine bU.l (aI ?_)|refine⟨_,.inl ⟨rfl,rfl⟩,?_⟩|refine⟨_,_,rfl,rfl,?_⟩|refine aJ ?_);conv=>whnf)|fail)
    refine⟨GoH.skip ⟨⟨.rnl,.lst 57 [] [],[],dR w l,er.length⟩,⟨rfl,?_,rfl⟩,List.nil_sublist _,?_,?_⟩⟩
    . rw[List.map_eq_nil_iff.1 hx0]
      exact .nil
    . rw[pF,List.append_nil]
      exact .refl _
    . (conv=>whnf)
      simp[hx0]
      first|rfl|exact⟨rfl,rfl⟩
  . refine Or.inr (Or.inr ?_);(conv=>whnf);refine⟨_,_,Tryz.func68,rfl,Tryz.call68,?_⟩;(conv=>whnf)
    (try (conv=>whnf));repeat' (first|(refine Or.inr (Or.inr (Or.inr ?_));(conv=>whnf);refine bW.rF 0 522 rfl rfl rfl (Nat.le_refl _) ?_;refine bW.iK (ts:=[55]) Tryz.call22 ?_;(conv=>whnf);(repeat (refine aI ?_;conv=>whnf));refine⟨_,oh (dR w l) _ (by exact au (Nat.le_refl _)) oA,?_⟩;rintro _ _ ⟨rfl,rfl⟩;(refine And.intro ⟨pq _,True.intro⟩ ?_;conv=>whnf))|((first|refine OkB.aA (OkM.aB (Ok.aW (id:=0) tok follows [(11,14,[13,12]),(7,14,[13]),(1,15,[4,3,2]),(2,15,[4,3]),(3,15,[4]),(4,15,[]),(5,15,[14,13]),(6,15,[7]),(8,15,[14,13,12,11,10,9]),(9,15,[14,13,12,11,10]),(10,15,[14,13,12,11]),(11,15,[14,13,12]),(12,15,[14,13]),(7,15,[]),(13,15,[14]),(14,15,[]),(4,18,[]),(11,18,[]),(7,18,[]),(14,18,[]),(15,18,[])] [.q 0,.q 1,.q 2,.q 3,.q 4,.q 5,.q 6,.q 8,.q 9,.q 10,.q 11,.q 12,.l 7,.q 13,.l 14,.l 15,.q 16,.q 17,.l 18] kR ?_))|refine bU.l (aI ?_)|refine⟨_,.inl ⟨rfl,rfl⟩,?_⟩|refine⟨_,_,rfl,rfl,?_⟩|refine aJ ?_);conv=>whnf)|fail)
    refine⟨GoH.bind (GoH.close tok (t0:=500) (ti:=_) rfl rfl rfl (jw _) fun o ho=>?_)⟩;(conv=>whnf);refine GoH.perm (M':=bkR (er++[⟨.rsl g ((dR w l).map aj.row).length c0,.lst 57 [] [],[(g,o)],dR w l,er.length⟩])++(bkN en++bkT et)) ?_ ⟨⟨.rsl g ((dR w l).map aj.row).length c0,.lst 57 [] [],[(g,o)],dR w l,er.length⟩,⟨rfl,.raw g _ c0 o _ sI sO ho,rfl⟩,List.nil_sublist _,.refl _,?_⟩
    . rw[pF,List.append_assoc]
      exact List.perm_middle.symm
    . (conv=>whnf)
      rw[htk,hdk];simp
      first|rfl|exact⟨rfl,rfl⟩
  rintro e x0 ⟨rfl,hx0,hw0⟩;obtain⟨er1,he1⟩:∃ y,y=er++[x0]:=⟨_,rfl⟩;have hl1:er1.length=er.length+1:=by rw[he1];simp
  have hF1:=l7 hS.r hx0;have hW1:er1.map ER.was=er.map ER.was++[dR w l]:=by rw[he1,<- hw0];simp
  rw[<- he1] at hF1 ⊢;have acU:(er1.map aZ).length=er1.length:=sI;(conv=>whnf)
  repeat' (first|((refine OkB.fC (c:=.region 7 _ _) [0,1,7,13,15,102,103,105,108,111,112,113,114] 8 3 (fun x:ER=>⟨[(0,.bp 1 0),(1,.i .i64 w),(7,.bp 2 0),(13,.own 7 (dK w l).length),(15,.own 6 (dK w (hlf l)).length)]++frm sv w l r2 rounds i cs,[c.row,[.own 0 (er1++[x]).length,.own 1 en.length,.own 2 et.length],c.row],[some (72,(er1++[x]).map aZ),some (76,en.map bg),some (136,et.map bF),none,none,none,some (57,(dK w (hlf l)).map aj.row),some (57,(dK w l).map aj.row)],Tryz.f23.ntmps⟩) (fun _=>[]) (fun x=>bkR (er1++[x])++(bkN en++bkT et)) (fun e x=>e = .normal/\kC er1.length x/\x.was=dR w (hlf l)) (OkB.fin (OkB.go (GoH.raw tok 11 500 (ti:=_) rfl rfl rfl sI (fun hx0=>OkB.region (id:=7) tok ?_) (fun g c1 hgc=>OkB.region (id:=7) tok ?_)))) ?_<;>(conv=>whnf)))|refine OkB.seq ?_|fail)
  . refine Or.inr (Or.inr ?_);(conv=>whnf);refine⟨_,_,Tryz.func68,rfl,Tryz.call68,?_⟩;(conv=>whnf)
    (try (conv=>whnf));repeat' (first|(refine Or.inr (Or.inr (Or.inr ?_));(conv=>whnf);refine bW.uI 0 57 rfl rfl ?_;refine bW.iK (ts:=[55]) Tryz.call22 ?_;(conv=>whnf);(repeat (refine aI ?_;conv=>whnf));refine⟨_,oh [] _ rfl sI,?_⟩;rintro _ _ ⟨rfl,rfl⟩;(refine And.intro ⟨pq _,True.intro⟩ ?_;conv=>whnf))|((first|refine OkB.aA (OkM.aB (Ok.aW (id:=0) tok follows [(11,14,[13,12]),(7,14,[13]),(1,15,[4,3,2]),(2,15,[4,3]),(3,15,[4]),(4,15,[]),(5,15,[14,13]),(6,15,[7]),(8,15,[14,13,12,11,10,9]),(9,15,[14,13,12,11,10]),(10,15,[14,13,12,11]),(11,15,[14,13,12]),(12,15,[14,13]),(7,15,[]),(13,15,[14]),(14,15,[]),(4,18,[]),(11,18,[]),(7,18,[]),(14,18,[]),(15,18,[])] [.q 0,.q 1,.q 2,.q 3,.q 4,.q 5,.q 6,.q 8,.q 9,.q 10,.q 11,.q 12,.l 7,.q 13,.l 14,.l 15,.q 16,.q 17,.l 18] kR ?_))|refine bU.l (aI ?_)|refine⟨_,.inl ⟨rfl,rfl⟩,?_⟩|refine⟨_,_,rfl,rfl,?_⟩|refine aJ ?_);conv=>whnf)|fail)
    refine⟨GoH.skip ⟨⟨.rnl,.lst 57 [] [],[],dR w (hlf l),er1.length⟩,⟨rfl,?_,rfl⟩,List.nil_sublist _,?_,?_⟩⟩
    . rw[List.map_eq_nil_iff.1 hx0]
      exact .nil
    . rw[pF,List.append_nil]
      exact .refl _
    . (conv=>whnf)
      simp[hx0]
      first|rfl|exact⟨rfl,rfl⟩
  . refine Or.inr (Or.inr ?_);(conv=>whnf);refine⟨_,_,Tryz.func68,rfl,Tryz.call68,?_⟩;(conv=>whnf)
    (try (conv=>whnf));repeat' (first|(refine Or.inr (Or.inr (Or.inr ?_));(conv=>whnf);refine bW.rF 0 522 rfl rfl rfl (Nat.le_refl _) ?_;refine bW.iK (ts:=[55]) Tryz.call22 ?_;(conv=>whnf);(repeat (refine aI ?_;conv=>whnf));refine⟨_,oh (dR w (hlf l)) _ (by exact au (Nat.le_refl _)) oA,?_⟩;rintro _ _ ⟨rfl,rfl⟩;(refine And.intro ⟨pq _,True.intro⟩ ?_;conv=>whnf))|((first|refine OkB.aA (OkM.aB (Ok.aW (id:=0) tok follows [(11,14,[13,12]),(7,14,[13]),(1,15,[4,3,2]),(2,15,[4,3]),(3,15,[4]),(4,15,[]),(5,15,[14,13]),(6,15,[7]),(8,15,[14,13,12,11,10,9]),(9,15,[14,13,12,11,10]),(10,15,[14,13,12,11]),(11,15,[14,13,12]),(12,15,[14,13]),(7,15,[]),(13,15,[14]),(14,15,[]),(4,18,[]),(11,18,[]),(7,18,[]),(14,18,[]),(15,18,[])] [.q 0,.q 1,.q 2,.q 3,.q 4,.q 5,.q 6,.q 8,.q 9,.q 10,.q 11,.q 12,.l 7,.q 13,.l 14,.l 15,.q 16,.q 17,.l 18] kR ?_))|refine bU.l (aI ?_)|refine⟨_,.inl ⟨rfl,rfl⟩,?_⟩|refine⟨_,_,rfl,rfl,?_⟩|refine aJ ?_);conv=>whnf)|fail)
    refine⟨GoH.bind (GoH.close tok (t0:=500) (ti:=_) rfl rfl rfl (jw _) fun o ho=>?_)⟩;(conv=>whnf);refine GoH.perm (M':=bkR (er1++[⟨.rsl g ((dR w (hlf l)).map aj.row).length c1,.lst 57 [] [],[(g,o)],dR w (hlf l),er1.length⟩])++(bkN en++bkT et)) ?_ ⟨⟨.rsl g ((dR w (hlf l)).map aj.row).length c1,.lst 57 [] [],[(g,o)],dR w (hlf l),er1.length⟩,⟨rfl,.raw g _ c1 o _ sI sO ho,rfl⟩,List.nil_sublist _,.refl _,?_⟩
    . rw[pF,List.append_assoc]
      exact List.perm_middle.symm
    . (conv=>whnf)
      rw[htk,hdk];simp
      first|rfl|exact⟨rfl,rfl⟩
  rintro e x1 ⟨rfl,hx1,hw1⟩;obtain⟨er2,he2⟩:∃ y,y=er1++[x1]:=⟨_,rfl⟩;have hl2:er2.length=er1.length+1:=by rw[he2];simp
  have hF2:=l7 hF1 hx1;have hW2:er2.map ER.was=er1.map ER.was++[dR w (hlf l)]:=by rw[he2,<- hw1];simp
  rw[<- he2] at hF2 ⊢;have acV:(er2.map aZ).length=er2.length:=sI;(conv=>whnf)
  repeat' (first|((refine OkB.fC (c:=.region 8 _ _) [0,1,7,15,102,103,105,108,111,112,113,114] 7 3 (fun x:ER=>⟨[(0,.bp 1 0),(1,.i .i64 w),(7,.bp 2 0),(15,.own 6 (dK w (hlf l)).length)]++frm sv w l r2 rounds i cs,[c.row,[.own 0 (er2++[x]).length,.own 1 en.length,.own 2 et.length],c.row],[some (72,(er2++[x]).map aZ),some (76,en.map bg),some (136,et.map bF),none,none,none,some (57,(dK w (hlf l)).map aj.row)],Tryz.f23.ntmps⟩) (fun _=>[]) (fun x=>bkR (er2++[x])++(bkN en++bkT et)) (fun e x=>e = .normal/\kC er2.length x/\x.was=dK w l) (OkB.fin (OkB.go (GoH.raw tok 13 500 (ti:=_) rfl rfl rfl sI (fun hx0=>OkB.region (id:=8) tok ?_) (fun g c2 hgc=>OkB.region (id:=8) tok ?_)))) ?_<;>(conv=>whnf)))|refine OkB.seq ?_|fail)
  . refine Or.inr (Or.inr ?_);(conv=>whnf);refine⟨_,_,Tryz.func68,rfl,Tryz.call68,?_⟩;(conv=>whnf)
    (try (conv=>whnf));repeat' (first|(refine Or.inr (Or.inr (Or.inr ?_));(conv=>whnf);refine bW.uI 0 57 rfl rfl ?_;refine bW.iK (ts:=[55]) Tryz.call22 ?_;(conv=>whnf);(repeat (refine aI ?_;conv=>whnf));refine⟨_,oh [] _ rfl sI,?_⟩;rintro _ _ ⟨rfl,rfl⟩;(refine And.intro ⟨pq _,True.intro⟩ ?_;conv=>whnf))|((first|refine OkB.aA (OkM.aB (Ok.aW (id:=0) tok follows [(11,14,[13,12]),(7,14,[13]),(1,15,[4,3,2]),(2,15,[4,3]),(3,15,[4]),(4,15,[]),(5,15,[14,13]),(6,15,[7]),(8,15,[14,13,12,11,10,9]),(9,15,[14,13,12,11,10]),(10,15,[14,13,12,11]),(11,15,[14,13,12]),(12,15,[14,13]),(7,15,[]),(13,15,[14]),(14,15,[]),(4,18,[]),(11,18,[]),(7,18,[]),(14,18,[]),(15,18,[])] [.q 0,.q 1,.q 2,.q 3,.q 4,.q 5,.q 6,.q 8,.q 9,.q 10,.q 11,.q 12,.l 7,.q 13,.l 14,.l 15,.q 16,.q 17,.l 18] kR ?_))|refine bU.l (aI ?_)|refine⟨_,.inl ⟨rfl,rfl⟩,?_⟩|refine⟨_,_,rfl,rfl,?_⟩|refine aJ ?_);conv=>whnf)|fail)
    refine⟨GoH.skip ⟨⟨.rnl,.lst 57 [] [],[],dK w l,er2.length⟩,⟨rfl,?_,rfl⟩,List.nil_sublist _,?_,?_⟩⟩
    . rw[List.map_eq_nil_iff.1 hx0]
      exact .nil
    . rw[pF,List.append_nil]
      exact .refl _
    . (conv=>whnf)
      simp[hx0]
      first|rfl|exact⟨rfl,rfl⟩
  . refine Or.inr (Or.inr ?_);(conv=>whnf);refine⟨_,_,Tryz.func68,rfl,Tryz.call68,?_⟩;(conv=>whnf)
    (try (conv=>whnf));repeat' (first|(refine Or.inr (Or.inr (Or.inr ?_));(conv=>whnf);refine bW.rF 0 522 rfl rfl rfl (Nat.le_refl _) ?_;refine bW.iK (ts:=[55]) Tryz.call22 ?_;(conv=>whnf);(repeat (refine aI ?_;conv=>whnf));refine⟨_,oh (dK w l) _ (by exact au (Nat.le_refl _)) oA,?_⟩;rintro _ _ ⟨rfl,rfl⟩;(refine And.intro ⟨pq _,True.intro⟩ ?_;conv=>whnf))|((first|refine OkB.aA (OkM.aB (Ok.aW (id:=0) tok follows [(11,14,[13,12]),(7,14,[13]),(1,15,[4,3,2]),(2,15,[4,3]),(3,15,[4]),(4,15,[]),(5,15,[14,13]),(6,15,[7]),(8,15,[14,13,12,11,10,9]),(9,15,[14,13,12,11,10]),(10,15,[14,13,12,11]),(11,15,[14,13,12]),(12,15,[14,13]),(7,15,[]),(13,15,[14]),(14,15,[]),(4,18,[]),(11,18,[]),(7,18,[]),(14,18,[]),(15,18,[])] [.q 0,.q 1,.q 2,.q 3,.q 4,.q 5,.q 6,.q 8,.q 9,.q 10,.q 11,.q 12,.l 7,.q 13,.l 14,.l 15,.q 16,.q 17,.l 18] kR ?_))|refine bU.l (aI ?_)|refine⟨_,.inl ⟨rfl,rfl⟩,?_⟩|refine⟨_,_,rfl,rfl,?_⟩|refine aJ ?_);conv=>whnf)|fail)
    refine⟨GoH.bind (GoH.close tok (t0:=500) (ti:=_) rfl rfl rfl (jw _) fun o ho=>?_)⟩;(conv=>whnf);refine GoH.perm (M':=bkR (er2++[⟨.rsl g ((dK w l).map aj.row).length c2,.lst 57 [] [],[(g,o)],dK w l,er2.length⟩])++(bkN en++bkT et)) ?_ ⟨⟨.rsl g ((dK w l).map aj.row).length c2,.lst 57 [] [],[(g,o)],dK w l,er2.length⟩,⟨rfl,.raw g _ c2 o _ sI sO ho,rfl⟩,List.nil_sublist _,.refl _,?_⟩
    . rw[pF,List.append_assoc]
      exact List.perm_middle.symm
    . (conv=>whnf)
      rw[htk,hdk];simp
      first|rfl|exact⟨rfl,rfl⟩
  rintro e x2 ⟨rfl,hx2,hw2⟩;obtain⟨er3,he3⟩:∃ y,y=er2++[x2]:=⟨_,rfl⟩;have hl3:er3.length=er2.length+1:=by rw[he3];simp
  have hF3:=l7 hF2 hx2;have hW3:er3.map ER.was=er2.map ER.was++[dK w l]:=by rw[he3,<- hw2];simp
  rw[<- he3] at hF3 ⊢;have acW:(er3.map aZ).length=er3.length:=sI;(conv=>whnf)
  repeat' (first|((refine OkB.fC (c:=.region 9 _ _) [0,1,7,102,103,105,108,111,112,113,114] 6 3 (fun x:ER=>⟨[(0,.bp 1 0),(1,.i .i64 w),(7,.bp 2 0)]++frm sv w l r2 rounds i cs,[c.row,[.own 0 (er3++[x]).length,.own 1 en.length,.own 2 et.length],c.row],[some (72,(er3++[x]).map aZ),some (76,en.map bg),some (136,et.map bF),none,none,none],Tryz.f23.ntmps⟩) (fun _=>[]) (fun x=>bkR (er3++[x])++(bkN en++bkT et)) (fun e x=>e = .normal/\kC er3.length x/\x.was=dK w (hlf l)) (OkB.fin (OkB.go (GoH.raw tok 15 500 (ti:=_) rfl rfl rfl sI (fun hx0=>OkB.region (id:=9) tok ?_) (fun g c3 hgc=>OkB.region (id:=9) tok ?_)))) ?_<;>(conv=>whnf)))|refine OkB.seq ?_|fail)
  . refine Or.inr (Or.inr ?_);(conv=>whnf);refine⟨_,_,Tryz.func68,rfl,Tryz.call68,?_⟩;(conv=>whnf)
    (try (conv=>whnf));repeat' (first|(refine Or.inr (Or.inr (Or.inr ?_));(conv=>whnf);refine bW.uI 0 57 rfl rfl ?_;refine bW.iK (ts:=[55]) Tryz.call22 ?_;(conv=>whnf);(repeat (refine aI ?_;conv=>whnf));refine⟨_,oh [] _ rfl sI,?_⟩;rintro _ _ ⟨rfl,rfl⟩;(refine And.intro ⟨pq _,True.intro⟩ ?_;conv=>whnf))|((first|refine OkB.aA (OkM.aB (Ok.aW (id:=0) tok follows [(11,14,[13,12]),(7,14,[13]),(1,15,[4,3,2]),(2,15,[4,3]),(3,15,[4]),(4,15,[]),(5,15,[14,13]),(6,15,[7]),(8,15,[14,13,12,11,10,9]),(9,15,[14,13,12,11,10]),(10,15,[14,13,12,11]),(11,15,[14,13,12]),(12,15,[14,13]),(7,15,[]),(13,15,[14]),(14,15,[]),(4,18,[]),(11,18,[]),(7,18,[]),(14,18,[]),(15,18,[])] [.q 0,.q 1,.q 2,.q 3,.q 4,.q 5,.q 6,.q 8,.q 9,.q 10,.q 11,.q 12,.l 7,.q 13,.l 14,.l 15,.q 16,.q 17,.l 18] kR ?_))|refine bU.l (aI ?_)|refine⟨_,.inl ⟨rfl,rfl⟩,?_⟩|refine⟨_,_,rfl,rfl,?_⟩|refine aJ ?_);conv=>whnf)|fail)
    refine⟨GoH.skip ⟨⟨.rnl,.lst 57 [] [],[],dK w (hlf l),er3.length⟩,⟨rfl,?_,rfl⟩,List.nil_sublist _,?_,?_⟩⟩
    . rw[List.map_eq_nil_iff.1 hx0]
      exact .nil
    . rw[pF,List.append_nil]
      exact .refl _
    . (conv=>whnf)
      simp[hx0]
      first|rfl|exact⟨rfl,rfl⟩
  . refine Or.inr (Or.inr ?_);(conv=>whnf);refine⟨_,_,Tryz.func68,rfl,Tryz.call68,?_⟩;(conv=>whnf)
    (try (conv=>whnf));repeat' (first|(refine Or.inr (Or.inr (Or.inr ?_));(conv=>whnf);refine bW.rF 0 522 rfl rfl rfl (Nat.le_refl _) ?_;refine bW.iK (ts:=[55]) Tryz.call22 ?_;(conv=>whnf);(repeat (refine aI ?_;conv=>whnf));refine⟨_,oh (dK w (hlf l)) _ (by exact au (Nat.le_refl _)) oA,?_⟩;rintro _ _ ⟨rfl,rfl⟩;(refine And.intro ⟨pq _,True.intro⟩ ?_;conv=>whnf))|((first|refine OkB.aA (OkM.aB (Ok.aW (id:=0) tok follows [(11,14,[13,12]),(7,14,[13]),(1,15,[4,3,2]),(2,15,[4,3]),(3,15,[4]),(4,15,[]),(5,15,[14,13]),(6,15,[7]),(8,15,[14,13,12,11,10,9]),(9,15,[14,13,12,11,10]),(10,15,[14,13,12,11]),(11,15,[14,13,12]),(12,15,[14,13]),(7,15,[]),(13,15,[14]),(14,15,[]),(4,18,[]),(11,18,[]),(7,18,[]),(14,18,[]),(15,18,[])] [.q 0,.q 1,.q 2,.q 3,.q 4,.q 5,.q 6,.q 8,.q 9,.q 10,.q 11,.q 12,.l 7,.q 13,.l 14,.l 15,.q 16,.q 17,.l 18] kR ?_))|refine bU.l (aI ?_)|refine⟨_,.inl ⟨rfl,rfl⟩,?_⟩|refine⟨_,_,rfl,rfl,?_⟩|refine aJ ?_);conv=>whnf)|fail)
    refine⟨GoH.bind (GoH.close tok (t0:=500) (ti:=_) rfl rfl rfl (jw _) fun o ho=>?_)⟩;(conv=>whnf);refine GoH.perm (M':=bkR (er3++[⟨.rsl g ((dK w (hlf l)).map aj.row).length c3,.lst 57 [] [],[(g,o)],dK w (hlf l),er3.length⟩])++(bkN en++bkT et)) ?_ ⟨⟨.rsl g ((dK w (hlf l)).map aj.row).length c3,.lst 57 [] [],[(g,o)],dK w (hlf l),er3.length⟩,⟨rfl,.raw g _ c3 o _ sI sO ho,rfl⟩,List.nil_sublist _,.refl _,?_⟩
    . rw[pF,List.append_assoc]
      exact List.perm_middle.symm
    . (conv=>whnf)
      rw[htk,hdk];simp
      first|rfl|exact⟨rfl,rfl⟩
  rintro e x3 ⟨rfl,hx3,hw3⟩;obtain⟨er4,he4⟩:∃ y,y=er3++[x3]:=⟨_,rfl⟩;have hl4:er4.length=er3.length+1:=by rw[he4];simp
  have hF4:=l7 hF3 hx3;have hW4:er4.map ER.was=er3.map ER.was++[dK w (hlf l)]:=by rw[he4,<- hw3];simp
  rw[<- he4] at hF4 ⊢;have acX:(er4.map aZ).length=er4.length:=sI;(conv=>whnf)
  repeat' (first|(refine OkB.region (id:=10) tok ?_;conv=>whnf)|(refine OkB.keep (c:=dI [1,1,1,1,1,1,1,1,1,1,1,0] (Tryz.f23.body.getD .ret)) [0,17,102,103,105,108,111,112,113,114] 3 3 ?_;(conv=>whnf);refine jm ?_)|(refine Or.inr (Or.inl ?_);(conv=>whnf);(repeat (refine aI ?_;conv=>whnf));refine⟨_,htb , ?_⟩;rintro _ _ _ ⟨rfl,⟨e,rfl,hL⟩|⟨e,g,cap,hs,o,rfl,rfl,hb,hTI⟩⟩<;>(conv=>whnf))|refine OkB.seq ?_|fail)
  . refine⟨OkB.sub (.refl _) (List.sublist_append_right _ _) (VY w l r2 sv rounds c er4 en et i cs oA hnl oA hS.t ?_)⟩
    intro et' k4 k5;show OkB _ _ _ _ _ _ _ _;refine QO w l r2 sv rounds c er4 en et' i cs oA hnl oA hS.n ?_;intro en' q1 q2 q3;refine hQ er4 en' et' oA q1 k4 ⟨hF4,q2,k5,?_,by rw[q3,hS.wn]⟩;rw[hW4,hW3,hW2,hW1,hS.wr,qG,hL];simp
  . refine⟨OkB.perm (.refl _) (Yg w l r2 sv rounds c er4 en et i cs oA hnl oA hF4 hS.t g cap hs o (fV c) hb hTI (by rw[hTI.1];exact htL.1) htL.2 ?_)⟩
    intro er5 et' k1 k2 k3 k4 k5;show OkB _ _ _ _ _ _ _ _;refine QO w l r2 sv rounds c er5 en et' i cs oA hnl oA hS.n ?_;intro en' q1 q2 q3;refine hQ er5 en' et' oA q1 k4 ⟨k2,q2,k5,?_,by rw[q3,hS.wn]⟩;rw[k3,hW4,hW3,hW2,hW1,hS.wr,qG];simp
theorem ZH{Q:Exit->St->aH->aQ->Prop}(w:Int)(l:List aj)(r2:List (List D))(hll:l.length<=60)(rounds:Int)(c:Config)
    (htb:iJ Tryz.prog T 8 [.agg c.row] (fun d M B=>M=[]/\zA c d B))(er:List ER)(en:List EN)(et:List ET)(i:Nat)(hel:er.length<=6000)(hnl:en.length<=1000)(htl:et.length<=290){R:List (List aj)}{N:List (List Int)}(hS:Shf er en et R N)(htL:(fV c).length<=16/\∀ m ∈ fV c,m.length<=3000000)
    (hQ:∀ er' en' et',er'.length<=er.length+20->en'.length=en.length+4->et'.length=et.length+1->Shf er' en' et' (R++qG w l c) (N++qH)->Q .normal (sH w l r2 rounds c er' en' et' i) [] (bkR er'++(bkN en'++bkT et'))) :
    OkB Tryz.prog T [] (dI [1,1,1,1,1,0,1,2,2,1,0,2] kpC) Q (sH w l r2 rounds c er en et i) [] (bkR er++(bkN en++bkT et)):=by
 unfold kpC;refine OkB.fC [0,1,3,6,9,10,11] 3 2 (fun x:List ER × List EN × List ET=>sH w l r2 rounds c x.1 x.2.1 x.2.2 i) (fun _=>[]) (fun x=>bkR x.1++(bkN x.2.1++bkT x.2.2)) (fun e x=>e = .normal/\x.1.length<=er.length+20/\x.2.1.length=en.length+4/\x.2.2.length=et.length+1/\Shf x.1 x.2.1 x.2.2 (R++qG w l c) (N++qH)) (OkB.region (id:=10) tok ?_) ?_;rotate_left
 . rintro e ⟨er',en',et'⟩ ⟨rfl,k1,k2,k3,k4⟩
   exact hQ er' en' et' k1 k2 k3 k4
 unfold sH;(conv=>whnf);refine Or.inr (Or.inr ?_);(conv=>whnf);refine⟨_,_,Tryz.func23,rfl,Tryz.call23,?_⟩;(conv=>whnf);refine OkB.keep [0,1,2,3,102,103,105,108,111,112,113,114] 3 2 ?_;(conv=>whnf);refine QT w l r2 hll true rounds c htb er en et i [] hel hnl htl hS htL ?_;intro er' en' et' k1 k2 k3 k4;(conv=>whnf);refine⟨(er',en',et'),⟨rfl,k1,k2,k3,k4⟩,List.nil_sublist _,.refl _,?_⟩;(conv=>whnf)
end Go.Proofs.YtnlingegeangmaaGreatDoor
namespace Go.Proofs.YtnlingegeangmaaGreatDoor
open Go Go.Vx
def fT(no k:Nat):List D:=[.lst 57 [tK no k] []]
def aY(f:Nat->List D)(n j:Nat):List (List D):=wrt f n++wrt (fun k=>f (5000+k)) j
theorem kX(f:Nat->List D)(n j:Nat):(aY f n j).length=n+j:=by simp[aY,lg]
theorem Ic(f:Nat->List D)(n:Nat):aY f n 0=wrt f n:=by simp[aY,wrt]
theorem qK(f:Nat->List D)(n j:Nat):aY f n (j+1)=aY f n j++[f (5000+j)]:=by simp[aY,wrt,List.range_succ]
theorem OA(f:Nat->List D)(n j:Nat):(aY f n j).take n=wrt f n:=List.take_left' (lg f n)
theorem gG.refl{g c n:Nat}{e:TypeId}{xs:List (List D)}:∀ l:List D,gG g c n e xs l l
 | []=>.nil
 | d :: l=>.same d (gG.refl l)
theorem LW{a c n j:Nat}{e:TypeId}{f:Nat->List D}{tl:List D}:gG a c (n+j) e (aY f n j) (.rsl a n c :: tl) (.lst e (wrt f n) ((aY f n j).drop n) :: tl):=by
 have:=gG.raw (g:=a) (c:=c) (e:=e) (xs:=aY f n j) n (Nat.le_add_right n j) (gG.refl tl);rwa [OA] at this
theorem LX{a c n j:Nat}{e:TypeId}{f:Nat->List D}{tl:List D}:gG a c (n+j) e (aY f n j) (.rsl a (n+j) c :: tl) (.lst e (aY f n j) [] :: tl):=by
 have:=gG.raw (g:=a) (c:=c) (e:=e) (xs:=aY f n j) (n+j) (Nat.le_refl _) (gG.refl tl);rwa [au (by rw[kX];exact Nat.le_refl _),List.drop_of_length_le (by rw[kX];exact Nat.le_refl _)] at this
theorem LY{a c n j:Nat}{e:TypeId}{f:Nat->List D}{tl:List D}:gG a c (n+j) e (aY f n j) (.rsl a n c :: .rsl a (n+j) c :: tl) (.lst e (wrt f n) ((aY f n j).drop n) :: .lst e (aY f n j) [] :: tl):=by
 have:=gG.raw (g:=a) (c:=c) (e:=e) (xs:=aY f n j) n (Nat.le_add_right n j) (LX (tl:=tl));rwa [OA] at this
def LcP(e:TypeId)(f:Nat->List D)(n:Nat)(l:D):Prop:=(∃ room,l = .lst e (wrt f n) room)\/(l = .rnl/\n=0)
theorem LcP.pub{a c n j:Nat}{e:TypeId}{f:Nat->List D}{tl:List D}{l:D}(h:LcP e f n l):∃ room,gG a c (n+j) e (aY f n j) (l :: .rsl a (n+j) c :: tl) (.lst e (wrt f n) room :: .lst e (aY f n j) [] :: tl):=by
 rcases h with⟨room,rfl⟩|⟨rfl,rfl⟩
 . exact⟨room,.same _ LX⟩
 . exact⟨[],.rnl e LX⟩
theorem qY{α β:Type}(f:α->β){l:List α}{i:Nat}{x:α}(h:i<l.length):((l.set i x).map f)[i]? = some (f x):=by
 rw[aN,List.getElem?_set_self h];rfl
inductive GI(e:TypeId)(f:Nat->List D)(n a c:Nat)(zs:Vx.Rows):Nat->D->D->D->D->Vx.Rows->Prop
 | nil (h:n=0):GI e f n a c zs 0 .rnl .rnl .u .u zs
 | one (j):GI e f n a c zs j (.rsl a n c) (.rsl a (n+j) c) (.tie 3 a (n+j) c) .u [some (e,aY f n j),some (e,[]),some (e,[])]
 | two (j l) (h0:0<j) (hl:LcP e f n l) (a' c' z z2):GI e f n a c zs j l (.rsl a' (n+j) c') .u (.tie 5 a' (n+j) c') [z,z2,some (e,aY f n j)]
inductive GrR(i:Nat):ER->Prop
 | mk (n room was) (hn:n<=3000000):GrR i ⟨.lst 57 (wrt (fR i) n) room,.lst 57 (aY (fR i) n 96) [],[],was,i⟩
inductive GrN(i:Nat):EN->Prop
 | mk (n room was no) (hno:no<=1000000000) (hn:n<=3000000):GrN i ⟨.lst 3 (wrt (fN no) n) room,.lst 3 (aY (fN no) n 96) [],[],was,no⟩
inductive GrT(i:Nat):ET->Prop
 | mk (n room no) (hno:no<=1000000000) (hn:n<=3000000):GrT i ⟨.lst 55 (wrt (fT no) n) room,.lst 55 (aY (fT no) n 96) [],[],no⟩
noncomputable def kpG(w:Int)(l:List aj)(r2:List (List D))(c:Config)(er:List ER)(en:List EN)(et:List ET):St:=
 ⟨[(0,.bp 1 0),(178,.i .i64 w),(179,.lst 57 (l.map aj.row) r2),(184,.bp 0 0),(187,.lst 57 (l.map aj.row) rmK),(188,.bp 1 0)],[c.row,[.own 0 er.length,.own 1 en.length,.own 2 et.length]],[some (72,er.map aZ),some (76,en.map bg),some (136,et.map bF)],Tryz.f27.ntmps⟩
end Go.Proofs.YtnlingegeangmaaGreatDoor
namespace Go.Proofs.YtnlingegeangmaaGreatDoor
open Go Go.Vx
theorem Jh(f:Nat->List D){n k:Nat}(h:k<n+96):(aY f n 96)[k]? = some (f (kT n k)):=by
 unfold aY kT;by_cases hk:n<=k
 . rw[if_pos hk,List.getElem?_append_right (by rw[lg];exact hk),lg,yT _ oA]
   congr 2;omega
 . rw[if_neg hk,List.getElem?_append_left (by rw[lg];omega),yT _ oA]
theorem JU{n k:Nat}(hn:n<=3000000)(hk:k<n+96):kT n k<=3000000:=by
 unfold kT;split<;>omega
@[reducible] def shD(er:List ER)(en:List EN)(et:List ET)(s1 s2 s3:List (List D)):D:=.ep [.lst 72 (er.map aZ) s1,.lst 76 (en.map bg) s2,.lst 136 (et.map bF) s3]
theorem aa2{Q:Exit->St->Prop}(er:List ER)(en:List EN)(et:List ET)(s1 s2 s3:List (List D))(h1:er.length<=7000)(hR:∀ i e,er[i]? = some e->GrR i e)
    (hQ:Q .normal ⟨[(0,shD er en et s1 s2 s3)],[],[],Tryz.f30.ntmps⟩) :
    Ok Tryz.prog T (dI [1,0] (Tryz.f30.body.getD .ret)) Q ⟨[(0,shD er en et s1 s2 s3)],[],[],Tryz.f30.ntmps⟩:=by
 have m1:(er.map aZ).length=er.length:=sI;have m2:(en.map bg).length=en.length:=sI;have m3:(et.map bF).length=et.length:=sI;refine Ok.fC [0] 0 0 (fun _:Unit=>⟨[(0,shD er en et s1 s2 s3)],[],[],Tryz.f30.ntmps⟩) (fun e _=>e = .normal) ?_ ?_;rotate_left
 . rintro e _ rfl
   exact hQ
 (try (conv=>whnf));repeat' (first|refine Ok.seq ?_|(refine Ok.region tok ?_;conv=>whnf)|refine Ok.block ?_|fail)
 refine Ok.aT [0] [3] 0 0 (fun (i:Nat)=>[.i .i64 (i:Nat)]) (fun _ b=>b) (fun _ r=>r) (fun (i:Nat)=>i<=er.length) (fun (i:Nat)=>er.length - i) (0) (Nat.zero_le _) ?_;(conv=>whnf);refine⟨by ((conv=>whnf);first|rfl|(simp[ak,au,aj.row,ay];done)|(simp[ak,au,aj.row,ay];rw[IntKind.wrap_i64];omega)),?_⟩;intro i hi;(conv=>whnf);by_cases hil:i<er.length
 . obtain⟨e,he⟩:∃ e,er[i]? = some e:=⟨_,aC hil⟩
   have heI:er[((i:Nat):Int).toNat]? = some e:=he
   cases hR i e he with
   | mk n room was hn=>
    have hwl:=lg (fR i) n;(try (conv=>whnf));repeat' (first|refine Ok.seq ?_|((first|refine Ok.region tok ?_|refine Ok.cond ?_);conv=>whnf)|refine Ok.block ?_|((first|refine Ok.skip ?_|refine ix _ aS ?_);conv=>whnf)|(refine bI ?_ ?_<;>intro<;>first|omega|conv=>whnf)|fail)
    all_goals try omega
    rw[hwl];refine Ok.aT [0,3,4] [5] 0 0 (fun (k:Nat)=>[.i .i64 (k:Nat)]) (fun _ b=>b) (fun _ r=>r) (fun (k:Nat)=>k<=n+96) (fun (k:Nat)=>n+96 - k) (0) (Nat.zero_le _) ?_;(conv=>whnf);refine⟨by ((conv=>whnf);first|rfl|(simp[ak,au,aj.row,ay];done)|(simp[ak,au,aj.row,ay];rw[IntKind.wrap_i64];omega)),?_⟩;intro k hk;(conv=>whnf);by_cases hkl:k<n+96
    . have hgk:(aY (fR i) n 96)[((k:Nat):Int).toNat]? = some ((fR i) (kT n k)):=Jh (fR i) hkl
      have hpl:=JU hn hkl;by_cases hkn:k<n
      . have hlk:(wrt (fR i) n)[((k:Nat):Int).toNat]? = some ((fR i) k):=yT (fR i) hkn
        repeat' (first|((first|refine And.intro (Int.natCast_nonneg k) ⟨_,hgk,?_⟩|refine And.intro (Int.natCast_nonneg k) ⟨_,hlk,?_⟩|refine⟨_,EY,kR,?_⟩);conv=>whnf)|refine Ok.seq ?_|((first|refine Ok.region tok ?_|refine Ok.aW (id:=8) tok follows [(14,22,[18,17,16]),(18,22,[]),(21,22,[]),(3,49,[28,24,23,10,9,7,6,5]),(7,49,[28,24,23,10,9]),(10,49,[28,24,23]),(14,49,[28,24,22,18,17,16]),(18,49,[28,24,22]),(21,49,[28,24,22]),(22,49,[28,24]),(43,49,[47,46,45]),(47,49,[])] [.q 0,.q 1,.q 2,.q 3,.q 4,.q 5,.q 6,.q 7,.q 8,.q 9,.q 10,.q 11,.q 12,.q 13,.q 14,.q 15,.q 16,.q 17,.q 18,.q 19,.q 20,.l 21,.l 22,.q 23,.q 24,.q 25,.q 26,.q 27,.q 28,.q 29,.q 30,.q 31,.q 32,.q 33,.q 34,.q 35,.q 36,.q 37,.q 38,.q 39,.q 40,.q 41,.q 42,.q 43,.q 44,.q 45,.q 46,.q 47,.q 48,.l 49,.q 50,.q 51,.q 52] kR ?_|refine Ok.cond ?_);conv=>whnf)|refine Ok.block ?_|((first|refine Ok.skip ?_|refine Ok.ret ?_|refine nI ?_|refine ix _ aS ?_);conv=>whnf)|(refine Or.inr (Or.inl ?_);(conv=>whnf);(repeat (refine aI ?_;conv=>whnf));refine⟨_,yC n k oA oA,?_⟩;rintro _ _ ⟨rfl,rfl⟩;conv=>whnf)|(refine Or.inr (Or.inl ?_);(conv=>whnf);(repeat (refine aI ?_;conv=>whnf));refine⟨_,AA i (kT n k) oA oA,?_⟩;rintro _ _ ⟨rfl,rfl⟩;conv=>whnf)|(refine Or.inr (Or.inl ?_);(conv=>whnf);(repeat (refine aI ?_;conv=>whnf));refine⟨_,AA i k oA oA,?_⟩;rintro _ _ ⟨rfl,rfl⟩;conv=>whnf)|(refine bI ?_ ?_<;>intro<;>first|omega|conv=>whnf)|fail)
        all_goals first
         | omega
         | (rename_i h;exfalso;simp[fR,aj.row,dM,eqD] at h;done)
         | (rename_i h;exfalso;simp[dM,eqD] at h;done)
         | (refine⟨k+1,oA,oA,?_⟩
            (conv=>whnf);rfl)
      . (try (conv=>whnf));repeat' (first|((first|refine And.intro (Int.natCast_nonneg k) ⟨_,hgk,?_⟩|refine⟨_,EY,kR,?_⟩);conv=>whnf)|refine Ok.seq ?_|((first|refine Ok.region tok ?_|refine Ok.aW (id:=8) tok follows [(14,22,[18,17,16]),(18,22,[]),(21,22,[]),(3,49,[28,24,23,10,9,7,6,5]),(7,49,[28,24,23,10,9]),(10,49,[28,24,23]),(14,49,[28,24,22,18,17,16]),(18,49,[28,24,22]),(21,49,[28,24,22]),(22,49,[28,24]),(43,49,[47,46,45]),(47,49,[])] [.q 0,.q 1,.q 2,.q 3,.q 4,.q 5,.q 6,.q 7,.q 8,.q 9,.q 10,.q 11,.q 12,.q 13,.q 14,.q 15,.q 16,.q 17,.q 18,.q 19,.q 20,.l 21,.l 22,.q 23,.q 24,.q 25,.q 26,.q 27,.q 28,.q 29,.q 30,.q 31,.q 32,.q 33,.q 34,.q 35,.q 36,.q 37,.q 38,.q 39,.q 40,.q 41,.q 42,.q 43,.q 44,.q 45,.q 46,.q 47,.q 48,.l 49,.q 50,.q 51,.q 52] kR ?_|refine Ok.cond ?_);conv=>whnf)|refine Ok.block ?_|((first|refine Ok.skip ?_|refine Ok.ret ?_|refine nI ?_|refine ix _ aS ?_);conv=>whnf)|(refine Or.inr (Or.inl ?_);(conv=>whnf);(repeat (refine aI ?_;conv=>whnf));refine⟨_,yC n k oA oA,?_⟩;rintro _ _ ⟨rfl,rfl⟩;conv=>whnf)|(refine Or.inr (Or.inl ?_);(conv=>whnf);(repeat (refine aI ?_;conv=>whnf));refine⟨_,AA i (kT n k) oA oA,?_⟩;rintro _ _ ⟨rfl,rfl⟩;conv=>whnf)|(refine bI ?_ ?_<;>intro<;>first|omega|conv=>whnf)|fail)
        all_goals first
         | omega
         | (rename_i h;exfalso;simp[fR,aj.row,dM,eqD] at h;done)
         | (rename_i h;exfalso;simp[dM,eqD] at h;done)
         | (refine⟨k+1,oA,oA,?_⟩
            (conv=>whnf);rfl)
    . obtain rfl:k=n+96:=oA
      (try (conv=>whnf));repeat' (first|refine Ok.seq ?_|((first|refine Ok.region tok ?_|refine Ok.cond ?_|refine Ok.exit ?_|refine nI ?_);conv=>whnf)|(refine bI ?_ ?_<;>intro<;>first|omega|conv=>whnf)|fail)
      all_goals first
       | omega
       | (refine⟨i+1,oA,oA,?_⟩
          (conv=>whnf);rfl)
 . obtain rfl:i=er.length:=oA
   (try (conv=>whnf));repeat' (first|refine Ok.seq ?_|((first|refine Ok.region tok ?_|refine Ok.cond ?_|refine Ok.exit ?_);conv=>whnf)|(refine bI ?_ ?_<;>intro<;>first|omega|conv=>whnf)|fail)
   all_goals try omega
   exact⟨(),rfl,by (conv=>whnf);try rfl⟩
end Go.Proofs.YtnlingegeangmaaGreatDoor
