/- The walks and the plain laws that a law of networks needs, part 6 of 7. -/
import Derived.Test.YtnlingegeangmaaGreatDoorQHE
import Derived.Shelf.SlSortFuncK.WholeK
import Derived.Shelf.GgSortFunc.Tiny
import Derived.Ground.GgsProg
import Derived.Deep.QuietTactic
import Derived.Lib.RowBridge
import Derived.Lib.SortBridge
set_option linter.unusedVariables false
set_option linter.unusedSimpArgs false
set_option linter.unusedSectionVars false
set_option maxRecDepth 100000
set_option maxHeartbeats 16000000
namespace Go.Vx
open Go.RowKit Go.Proofs Go.Sort
section
variable {P : Program} {T : Tab} {Q : Exit → St → Prop}
theorem Ok.sortG(hT:TOk P T){id:Nat}{t1 t2 t3 t4 p:Nat}{f ty g k i r m:Nat}{κ:Type}{kv:List Value->κ->Prop}{rd:List D->κ->Prop}{e:TypeId}{xs:List (List D)}{env:List (Nat × D)}{box:List (List D)}{row:Rows}{n:Nat}
    {y1 y2 y3 y4:TypeId}{p1 p2 p3 p4:String}{a1 a2 a3 a4:Array Edge}{tys:Array TypeId}(hC:SortG P f ty k g kv)
    (hload:qop P T ⟨env,box,row,n⟩ ⟨some t1,.load ty (.tmp p),y1,p1,a1,none⟩ (fun d s'=>d = .own r m/\s'=⟨env,box,row,n⟩))
    (hp:look env p = .bp i 0)(hb:box[i]? = some [.own r m])(hr:row[r]? = some (some (e,xs)))(hm:m<=xs.length)(hk:szOf T e=k)
    (hn:p<n/\t1<n/\t2<n/\t3<n/\t4<n)(hd:t1 ≠ p/\t2 ≠ p/\t2 ≠ t3/\t3 ≠ t2)
    (hpos:0<k)(hrd:∀ {V:Vw} (vs:List Value) (ds:List D) l,vs.length=k->ds.length=k->(∀ (j:Nat) v d,vs[j]? = some v->ds[j]? = some d->RI (szOf T) V v d)->rd ds l->kv vs l)(hkeys:∀ x ∈ xs.take m,∃ l,rd x l)(hm2:m<4611686018427387904)
    (h:∀ ys,ys.Perm (xs.take m)->Q .normal ⟨(t4,.u) :: (t3,.u) :: (t2,.u) :: (t1,.u) :: env,box,row.set r (some (e,ys++xs.drop m)),n⟩)(he:e<BIG:=by decide) :
    Ok P T (.region id #[⟨some t1,.load ty (.tmp p),y1,p1,a1,none⟩,⟨some t2,.makeInterface ty (.tmp t1),y2,p2,a2,none⟩,⟨some t3,.makeFunc (.func g) #[] #[.tmp p],y3,p3,a3,none⟩,
     ⟨some t4,.call ⟨.value (.func f),#[.tmp t2,.tmp t3],tys⟩,y4,p4,a4,none⟩] false) Q ⟨env,box,row,n⟩:=by
 refine⟨fun w0 V0 V μ ω a w hS=>wp_region_lit ?_⟩
 obtain⟨hpn,hn1,hn2,hn3,hn4⟩:=hn
 obtain⟨hd1,hd2,hd3,hd4⟩:=hd
 unfold wpList
 rw[if_pos (by simp[Region.wanted])]
 left
 refine (Vok.of_qop (E:=.none) hT hS hload) _ _ ?_
 clear hS
 rintro _ v1 _ V μ ω w ⟨rfl,rfl⟩ hv1 hS _
 have rp:=hS.slot hpn
 rw[hp] at rp
 obtain⟨g1,hg1,hpv⟩:=rp.bp_
 have hsz:a.tmps.size=n:=hS.tmps
 obtain⟨A,N,c,hω,hnN,rfl⟩:=hv1.own_
 show wpList P _ _ [_,_,_] (a.put (some t1) _) w
 unfold wpList
 rw[if_pos (by simp[Region.wanted])]
 left
 unfold Oper.wp
 have r2:(execOp (a.put (some t1) (.slice A m c)).eval ⟨some t2,.makeInterface ty (.tmp t1),y2,p2,a2,none⟩).run P w = .ok (.value (.iface ty (.slice A m c))) w:=by
  simp only[execOp,put_same (a:=a) (t:=t1) (v:=.slice A m c) (by omega),Sem.run_bind,run_makeInterface w ty _ hC.conc,Result.andThen_ok,Sem.run_pure]
 rw[r2]
 show wpList P _ _ [_,_] ((a.put (some t1) _).put (some t2) _) w
 unfold wpList
 rw[if_pos (by simp[Region.wanted])]
 left
 unfold Oper.wp
 have hpe:((a.put (some t1) (.slice A m c)).put (some t2) (.iface ty (.slice A m c))).eval (.tmp p) = .pointer (some ⟨g1,0,none⟩):=by
  rw[put_other hd2,put_other hd1];exact hpv
 have r3:(execOp ((a.put (some t1) (.slice A m c)).put (some t2) (.iface ty (.slice A m c))).eval ⟨some t3,.makeFunc (.func g) #[] #[.tmp p],y3,p3,a3,none⟩).run P w = .ok (.value (.func (.func g) #[] #[.pointer (some ⟨g1,0,none⟩)])) w:=by
  simp only[execOp,Instr.makeFunc,Sem.run_bind,Sem.run_pure,Result.andThen_ok,List.map_toArray,List.map_cons,List.map_nil,hpe]
 rw[r3]
 show wpList P _ _ [_] (((a.put (some t1) _).put (some t2) _).put (some t3) _) w
 generalize hA3:((a.put (some t1) (.slice A m c)).put (some t2) (.iface ty (.slice A m c))).put (some t3) (.func (.func g) #[] #[.pointer (some ⟨g1,0,none⟩)])=a3'
 have hs3:a3'.tmps.size=n:=by rw[<- hA3,put_size,put_size,put_size,hsz]
 have e2:a3'.eval (.tmp t2) = .iface ty (.slice A m c):=by rw[<- hA3,put_other hd4,put_same (by rw[put_size];omega)]
 have e3:a3'.eval (.tmp t3) = .func (.func g) #[] #[.pointer (some ⟨g1,0,none⟩)]:=by rw[<- hA3,put_same (by rw[put_size,put_size];omega)]
 have hS3:Sim (szOf T) w0 V0 V μ ω ⟨(t3,.u) :: (t2,.u) :: (t1,.u) :: env,box,row,n⟩ a3' w:=by
  rw[<- hA3]
  exact ((hS.put hn1 (.imm _ _ (.u _))).put hn2 (.imm _ _ (.u _))).put hn3 (.imm _ _ (.u _))
 unfold wpList
 rw[if_pos (by simp[Region.wanted])]
 left
 unfold Oper.wp
 have r4:(execOp a3'.eval ⟨some t4,.call ⟨.value (.func f),#[.tmp t2,.tmp t3],tys⟩,y4,p4,a4,none⟩).run P w = .ok (.enter f #[.iface ty (.slice A m c),.func (.func g) #[] #[.pointer (some ⟨g1,0,none⟩)]]) w:=by
  simp only[execOp,resolve,Act.eval,Deferred.ofValue,invoke,Sem.run_bind,Sem.run_pure,Result.andThen_ok,List.map_toArray,List.map_cons,List.map_nil] at e2 e3 ⊢
  rw[e2,e3,hC.call]
  rfl
 rw[r4]
 show Calls P f _ w _
 have fin:∀ (w':World) (ys:List (List D)),(∀ ds,DefOk w0 V0 ds w->DefOk w0 V0 ds w')->ys.Perm (xs.take m)->Mem (szOf T) w0 V0 V μ ω box (row.set r (some (e,ys++xs.drop m))) w' ->
     ∃ s' V' μ' ω',Q .normal s'/\Sim (szOf T) w0 V0 V' μ' ω' s' (a3'.put (some t4) (.tuple #[])) w':=fun w' ys hx h1 hM=>
  let hP:=hS3.put (v:=.tuple #[]) hn4 (.imm _ _ (.u _))
  ⟨_,V,μ,ω,h ys h1,Sim.mk hP.tmps (hx _ hP.defers) hP.env hM⟩
 by_cases hm1:m<=1
 . refine (hC.tiny A m c _ w hm1).mono ?_
   rintro e' w' ⟨rfl,os,rfl⟩
   have hrl:r<row.length:=(gSm0.1 hr).1
   have hEx:Ext w (grow w os):=⟨rfl,rfl,rfl,by show w.heap.size<=(w.heap++os).size;simp,fun j hj=>by show (w.heap++os)[j]? = _;rw[Array.getElem?_append_left hj]⟩
   refine fin _ (xs.take m) (fun ds h=>h.ext hEx) (.refl _) ?_
   . rw[List.take_append_drop]
     have hrow:row.set r (some (e,xs))=row:=by
      apply List.ext_getElem?
      intro q
      by_cases hq:q=r
      . subst hq;rw[List.getElem?_set_self hrl,hr]
      . rw[List.getElem?_set_ne (Ne.symm hq)]
     rw[hrow]
     exact hS.mem.ext hEx
 . have hm2':2<=m:=by omega
   obtain⟨A2,c2,vals,e1,hc,hmx,hA,hA2,hown,hR⟩:=hS.mem.rowShape he hω hr
   cases e1
   subst hk
   obtain⟨blk,hblk⟩:∃ blk,A=some ⟨blk,0,none⟩:=by
    rcases hown.2 with⟨q,q2⟩|⟨g',cap,cur,q,_⟩
    . omega
    . cases q;exact⟨g',rfl⟩
   subst hblk
   have hvl:vals.length=xs.length*szOf T e:=hown.1
   have hF:∀ i:Fin m,∃ x:GRow (szOf T) V (szOf T e) rd,xs[i.1]? = some x.1.2/\∀ j,j<szOf T e->x.1.1[j]? = vals[i.1*szOf T e+j]?:=by
    intro i
    have hi:i.1<xs.length:=by omega
    have hx:=gEt0 hi
    have hle:(i.1+1)*szOf T e<=xs.length*szOf T e:=Nat.mul_le_mul_right _ hi
    rw[Nat.add_mul,Nat.one_mul] at hle
    have hget:∀ j,j<szOf T e->((vals.drop (i.1*szOf T e)).take (szOf T e))[j]? = vals[i.1*szOf T e+j]?:=fun j hj=>by
     rw[List.getElem?_take_of_lt hj,List.getElem?_drop]
    have hlen:=hR.len i.1 _ hx
    refine⟨⟨((vals.drop (i.1*szOf T e)).take (szOf T e),xs[i.1]),?_,hlen,?_,?_,?_⟩,hx,hget⟩
    . rw[List.length_take,List.length_drop];omega
    . intro v hv
      exact hR.one v (List.mem_of_mem_drop (List.mem_of_mem_take hv))
    . intro j v d h1 h2
      have hj:j<szOf T e:=by rw[<- hlen];exact (gSm0.1 h2).1
      dsimp only at h1
      rw[hget j hj] at h1
      obtain⟨u,hu1,hu2⟩:=hR.rel i.1 _ j d hx h2
      rw[h1] at hu1
      cases hu1
      exact hu2
    . exact hkeys _ (by
        have:(xs.take m)[i.1]? = some xs[i.1]:=by rw[List.getElem?_take_of_lt i.2];exact hx
        exact mOf0 this)
   let F:Fin m->GRow (szOf T) V (szOf T e) rd:=fun i=>Classical.choose (hF i)
   have hF1:∀ i,xs[i.1]? = some (F i).1.2:=fun i=>(Classical.choose_spec (hF i)).1
   have hF2:∀ i j,j<szOf T e->(F i).1.1[j]? = vals[i.1*szOf T e+j]?:=fun i=>(Classical.choose_spec (hF i)).2
   letI:Inhabited (GRow (szOf T) V (szOf T e) rd):=⟨F ⟨0,by omega⟩⟩
   let d:=Array.ofFn F
   have hds:d.size=m:=Array.size_ofFn
   have hdg:∀ i (hi:i<m),d[i]! = F ⟨i,hi⟩:=fun i hi=>by
    rw[getElem!_pos d i (by rw[hds];exact hi)]
    simp[d]
   have hkey:∀ x:GRow (szOf T) V (szOf T e) rd,kv x.1.1 x.key:=fun x=>hrd _ _ _ x.2.1 x.2.2.1 x.2.2.2.2.1 (Classical.choose_spec x.2.2.2.2.2)
   have hheap:∃ cur,w.heap[blk]? = some (.cells cur e (0,0)):=by
    rcases hown.2 with⟨q,_⟩|⟨g',cap,cur,q,_,hh,_⟩
    . cases q
    . cases q;exact⟨cur,hh⟩
   obtain⟨cur,hheap⟩:=hheap
   have hHold:HoldsK (fun x:GRow (szOf T) V (szOf T e) rd=>x.1.1) (szOf T e) w blk 0 d:=by
    intro j hj
    rw[size_flatK,hds] at hj
    have hjk:j / szOf T e<m:=Nat.div_lt_of_lt_mul (by rw[Nat.mul_comm];exact hj)
    have hjm:=Nat.mod_lt j hpos
    refine⟨?_,by simp[World.frozen?,hheap]⟩
    rw[get_flatK _ _ _ _ (by rw[hds];exact hj),hdg _ hjk]
    have h3:=hF2 ⟨j / szOf T e,hjk⟩ (j % szOf T e) hjm
    have h4:(F ⟨j / szOf T e,hjk⟩).1.1[j % szOf T e]? = some (F ⟨j / szOf T e,hjk⟩).1.1[j % szOf T e]!:=by
     rw[getElem!_pos _ _ (by rw[(F ⟨j / szOf T e,hjk⟩).2.1];exact hjm)]
     exact gEt0 _
    rw[h4,Nat.mul_comm,Nat.div_add_mod] at h3
    have:=hown.cells (g:=blk) rfl j _ h3.symm
    rw[add_lit] at this
    exact this
   obtain⟨vs,tb,hh,hs,ho,hRb,_⟩:=hS.mem.hbox i g1 _ hg1 hb
   have hvs0:0<vs.size:=by rw[hs];simp
   have hvs:∃ v,vs[0]? = some v:=⟨vs[0],Array.getElem?_eq_getElem hvs0⟩
   obtain⟨v0,hv0⟩:=hvs
   obtain⟨Ab,Nb,cb,hωb,_,hvb⟩:=(hRb 0 v0 _ hv0 rfl).own_
   rw[hω] at hωb
   cases hωb
   have hBs:w.cell? ⟨g1,0,none⟩=some (.slice (some ⟨blk,0,none⟩) m c):=by
    rw[cell_of_row w g1 0 vs tb (0,0) hh,hv0,hvb]
   have hgl:g1<w.heap.size:=(Array.getElem?_eq_some_iff.1 hh).1
   have hne:g1 ≠ blk:=fun e'=>by
    have:=hS.mem.uniq (.inl i) (.inr r) g1 hg1 ⟨_,_,hω,hr,by rw[e'];rfl⟩
    cases this
   have hcall:=hC.big (GRow (szOf T) V (szOf T e) rd) (fun x=>x.1.1) GRow.key (fun x=>x.2.1) (fun x=>x.2.2.2.1) hkey blk c g1 d (by rw[hds];exact hm2') (by rw[hds];exact hm2) w hHold (Array.getElem?_eq_some_iff.1 hheap).1 (by rw[hds];exact hBs) hgl hne
   rw[hds] at hcall
   refine hcall.mono ?_
   rintro e' w' ⟨rfl,d',q,os,hperm,rfl⟩
   have hds':d'.size=m:=by rw[hperm.1,hds]
   obtain⟨hgrow,hown'⟩:=sorted_row (q:=q) (enc:=fun x:GRow (szOf T) V (szOf T e) rd=>x.1.1) (d:=d') (os:=os) hown hm hds'
   have hdmap:d.toList.map (fun x=>x.1.2)=xs.take m:=by
    apply List.ext_getElem?
    intro j
    rw[gMp0,Array.getElem?_toList]
    by_cases hj:j<m
    . rw[Array.getElem?_eq_getElem (by rw[hds];exact hj),List.getElem?_take_of_lt hj,hF1 ⟨j,hj⟩]
      simp[d]
    . rw[Array.getElem?_eq_none (by rw[hds];omega),List.getElem?_take,if_neg hj]
      rfl
   have hpl:d'.toList.Perm d.toList:=by
    have:=hperm.2.2
    rwa [show d'.extract 0 m=d' from by rw[<- hds'];simp,show d.extract 0 m=d from by rw[<- hds];simp] at this
   have hdg':∀ (j:Nat) (x:GRow (szOf T) V (szOf T e) rd),d'.toList[j]? = some x->d'[j]! = x:=fun j x hx=>by
    rw[Array.getElem?_toList] at hx
    obtain⟨hj,rfl⟩:=Array.getElem?_eq_some_iff.1 hx
    exact getElem!_pos d' j hj
   refine fin _ (d'.toList.map fun x=>x.1.2) (fun ds h=>h.ownGrown hS.mem hω hr hgrow) (by rw[<- hdmap];exact hpl.map _) ?_
   . have hlen':((d'.toList.map fun x=>x.1.2)++xs.drop m).length=xs.length:=by
       rw[List.length_append,lMp0,Array.length_toList,hds',List.length_drop];omega
     have hωs:ω.set r (.slice (some ⟨blk,0,none⟩) xs.length c)=ω:=by
      apply List.ext_getElem?
      intro q
      by_cases hq:q=r
      . subst hq;rw[List.getElem?_set_self (gSm0.1 hω).1,hω]
      . rw[List.getElem?_set_ne (Ne.symm hq)]
     have hfl:(flatK (fun x:GRow (szOf T) V (szOf T e) rd=>x.1.1) (szOf T e) d').toList.length=m*szOf T e:=by rw[Array.length_toList,size_flatK,hds']
     have hflg:∀ j,j<m*szOf T e->(flatK (fun x:GRow (szOf T) V (szOf T e) rd=>x.1.1) (szOf T e) d').toList[j]? = some (d'[j / szOf T e]!.1.1[j % szOf T e]!):=fun j hj=>by
      rw[Array.getElem?_toList,Array.getElem?_eq_getElem (by rw[size_flatK,hds'];exact hj)]
      have:=get_flatK (fun x:GRow (szOf T) V (szOf T e) rd=>x.1.1) (szOf T e) d' j (by rw[hds'];exact hj)
      rw[getElem!_pos _ _ (by rw[size_flatK,hds'];exact hj)] at this
      rw[this]
     have hM:=hS.mem.setRow_ (w':=grow (putRowK (fun x:GRow (szOf T) V (szOf T e) rd=>x.1.1) (szOf T e) (Sort.ahead w q) blk 0 d') os) (v':=.slice (some ⟨blk,0,none⟩) xs.length c) (e:=e) (ys:=(d'.toList.map fun x=>x.1.2)++xs.drop m)
      (vals:=(flatK (fun x:GRow (szOf T) V (szOf T e) rd=>x.1.1) (szOf T e) d').toList++vals.drop (m*szOf T e)) hω hr hgrow (by rw[hlen'];exact hown') ?_ (.inl rfl) (box':=box) rfl ?_ (fun i cs cs' h1 h2 t h=>by rw[h1] at h2;cases h2;exact h)
     . rw[hωs] at hM
       exact hM
     . refine⟨fun u hu=>?_,fun i1 rw1 h1=>?_,fun i1 rw1 j1 d1 h1 h2=>?_⟩
       . rcases mAp0.1 hu with hu|hu
         . obtain⟨j,hj⟩:=List.mem_iff_getElem?.1 hu
           have hjl:j<m*szOf T e:=by rw[<- hfl];exact (gSm0.1 hj).1
           rw[hflg j hjl] at hj
           cases hj
           generalize d'[j / szOf T e]! = x
           refine x.2.2.2.1 _ ?_
           have hx:j % szOf T e<x.1.1.length:=by rw[x.2.1];exact Nat.mod_lt j hpos
           rw[getElem!_pos x.1.1 _ hx]
           exact List.getElem_mem hx
         . exact hR.one u (List.mem_of_mem_drop hu)
       . by_cases hi1:i1<m
         . rw[List.getElem?_append_left (by rw[lMp0,Array.length_toList,hds'];exact hi1),gMp0] at h1
           obtain⟨x,_,rfl⟩:=Option.map_eq_some_iff.1 h1
           exact x.2.2.1
         . rw[List.getElem?_append_right (by rw[lMp0,Array.length_toList,hds'];omega),List.getElem?_drop] at h1
           exact hR.len _ rw1 h1
       . by_cases hi1:i1<m
         . rw[List.getElem?_append_left (by rw[lMp0,Array.length_toList,hds'];exact hi1),gMp0] at h1
           obtain⟨x,hx,rfl⟩:=Option.map_eq_some_iff.1 h1
           have hj1:j1<szOf T e:=by rw[<- x.2.2.1];exact (gSm0.1 h2).1
           have hlt:i1*szOf T e+j1<m*szOf T e:=by
            have:(i1+1)*szOf T e<=m*szOf T e:=Nat.mul_le_mul_right _ hi1
            rw[Nat.add_mul] at this;omega
           have hdv:(i1*szOf T e+j1) / szOf T e=i1:=by rw[Nat.mul_comm,Nat.mul_add_div hpos,Nat.div_eq_of_lt hj1,Nat.add_zero]
           have hmd:(i1*szOf T e+j1) % szOf T e=j1:=by rw[Nat.mul_comm,Nat.mul_add_mod,Nat.mod_eq_of_lt hj1]
           have hdx:=hdg' i1 x hx
           have hx1:x.1.1[j1]? = some x.1.1[j1]!:=by
            rw[getElem!_pos _ _ (by rw[x.2.1];exact hj1)]
            exact gEt0 _
           refine⟨x.1.1[j1]!,?_,x.2.2.2.2.1 j1 _ d1 hx1 h2⟩
           rw[List.getElem?_append_left (by rw[hfl];exact hlt),hflg _ hlt,hdv,hmd,hdx]
         . rw[List.getElem?_append_right (by rw[lMp0,Array.length_toList,hds'];omega),List.getElem?_drop,lMp0,Array.length_toList,hds',show m+(i1 - m)=i1 by omega] at h1
           obtain⟨u,hu1,hu2⟩:=hR.rel i1 rw1 j1 d1 h1 h2
           have hge:m*szOf T e<=i1*szOf T e:=Nat.mul_le_mul_right _ (by omega)
           exact⟨u,by rw[List.getElem?_append_right (by rw[hfl];omega),hfl,List.getElem?_drop,show m*szOf T e+(i1*szOf T e+j1 - m*szOf T e)=i1*szOf T e+j1 by omega];exact hu1,hu2⟩
     . intro i1 cs cs' h1 h2
       rw[h1] at h2
       cases h2
       refine⟨rfl,fun j u dd dd' h3 h4 hrs=>?_⟩
       rw[h3] at h4
       cases h4
       rw[hωs]
       exact hrs
end
section
variable {T : Tab} {B : Blks} {K : St → Blks → Prop}
theorem GoH.reRow{env:List (Nat × D)}{box:List (List D)}{row:Rows}{nn r:Nat}{e:TypeId}{xs:List (List D)}(xs':List (List D))(hr:row[r]? = some (some (e,xs)))(hl:xs'.length=xs.length)
    (hx:∀ (i:Nat) ys',xs'[i]? = some ys'->∃ ys,xs[i]? = some ys/\ys'.length=ys.length/\∀ (j:Nat) d',ys'[j]? = some d'->∃ d,ys[j]? = some d/\∀ (V:Vw) (v:Value),RI (szOf T) V v d->RI (szOf T) V v d')
    (h:setK row r (some (e,xs')) fun row'=>K ⟨env,box,row',nn⟩ B):GoH T ⟨env,box,row,nn⟩ B K:=by
 obtain⟨hrl,h⟩:=setK_iff _ _ _ _ h
 intro w0 F V μ ω a w hS
 have hM:=hS.sim.mem
 dsimp only at hM
 have own:∀ l g,Own μ ω (row.set r (some (e,xs'))) l g->Own μ ω row l g:=by
  intro l g hl
  cases l with
  | inl i=>exact hl
  | inr q=>
   obtain⟨u,y,h1,h2,h3⟩:=hl
   by_cases hq:q=r
   . subst hq
     exact⟨u,_,h1,hr,h3⟩
   . rw[List.getElem?_set_ne (Ne.symm hq)] at h2
     exact⟨u,y,h1,h2,h3⟩
 refine⟨_,V,μ,ω,B,h,⟨⟨hS.sim.tmps,hS.sim.defers,hS.sim.env,?_⟩,hS.nodup⟩⟩
 refine { hM with rl:=by simp[hM.rl],hrow:=fun q v e2 ys h1 h2=>?_,uniq:=fun l l' g a b=>hM.uniq l l' g (own l g a) (own l' g b),new:=fun l g a=>hM.new l g (own l g a),vmut:=fun p u l hp a=>hM.vmut p u l hp (own l _ a),away:=fun x hx=>?_ }
 . dsimp only at h2
   by_cases hq:q=r
   . subst hq
     rw[List.getElem?_set_self hrl] at h2
     cases h2
     obtain⟨vals,a1,b1,c1,f1⟩:=hM.hrow q v e xs h1 hr
     refine⟨vals,by rw[hl];exact a1,b1,fun k rw_ hk=>?_,fun k rw_ m x hk hm=>?_⟩
     . obtain⟨ys,g1,g2,_⟩:=hx k rw_ hk
       rw[g2]
       exact c1 k ys g1
     . obtain⟨ys,g1,_,g3⟩:=hx k rw_ hk
       obtain⟨d,g4,g5⟩:=g3 m x hm
       obtain⟨u,hu,hR⟩:=f1 k ys m d g1 g4
       exact⟨u,hu,g5 V u hR⟩
   . rw[List.getElem?_set_ne (Ne.symm hq)] at h2
     exact hM.hrow q v e2 ys h1 h2
 . obtain⟨a1,b1,c1,d1,e1⟩:=hM.away x hx
   exact⟨a1,b1,fun l hl=>c1 l (own l _ hl),d1,e1⟩
theorem GoH.reNil{env:List (Nat × D)}{box:List (List D)}{row:Rows}{nn r n:Nat}{e:TypeId}(d':D)(hr:row[r]? = some (some (e,List.replicate n [.nilS])))(hd:∀ (V:Vw),RI (szOf T) V (.slice none 0 0) d')
    (h:setK row r (some (e,List.replicate n [d'])) fun row'=>K ⟨env,box,row',nn⟩ B):GoH T ⟨env,box,row,nn⟩ B K:=by
 refine GoH.reRow (List.replicate n [d']) hr (by simp) (fun i ys' hy=>?_) h
 rw[List.getElem?_replicate] at hy
 split at hy
 . rename_i hi
   cases hy
   refine⟨[.nilS],by rw[List.getElem?_replicate,if_pos hi],rfl,fun j d1 hj=>?_⟩
   match j with
   | 0=>
    simp at hj
    subst hj
    refine⟨.nilS,rfl,fun V v hv=>?_⟩
    rw[(RS.imm (μ:=[]) (ω:=[]) _ _ hv).nilS_]
    exact hd V
   | j+1=>simp at hj
 . cases hy
end
end Go.Vx
namespace Go.Proofs.YtnlingegeangmaaGreatDoor
open Go Go.Vx
def keyOf(p:Pfx):Key:=(p.value,p.len)
def ownP(i:Int)(ps:List Pfx):List (Key × Int):=ps.map fun p=>(keyOf p,i)
def ownN(bs:List Box)(n:Nat):List (Key × Int):=(bs.take n).zipIdx.flatMap fun x=>ownP x.2 x.1.owns.l
theorem ownN_succ{bs:List Box}{n:Nat}{b:Box}(h:bs[n]? = some b):ownN bs (n+1)=ownN bs n++ownP n b.owns.l:=by
 unfold ownN
 have hl:n<bs.length:=(gSm0.1 h).1
 rw[List.take_add_one,h]
 simp only[Option.toList,List.zipIdx_append,List.flatMap_append,List.length_take]
 rw[Nat.min_eq_left (by omega)]
 simp
theorem ownP_succ{i:Int}{ps:List Pfx}{m:Nat}{p:Pfx}(h:ps[m]? = some p):ownP i (ps.take (m+1))=ownP i (ps.take m)++[(keyOf p,i)]:=by
 unfold ownP
 rw[List.take_add_one,h]
 simp
def byF(L:List (Key × Int))(k:Key):List Int:=(L.filter fun x=>decide (x.1=k)).map (·.2)
theorem byF_snoc(L:List (Key × Int))(k:Key)(i:Int)(k':Key):byF (L++[(k,i)]) k'=byF L k'++if k'=k then [i] else []:=by
 unfold byF
 rw[List.filter_append,List.map_append]
 congr 1
 by_cases h:k=k'
 . subst h;simp
 . rw[if_neg (fun e=>h e.symm)];simp[h]
theorem byF_len(L:List (Key × Int))(k:Key):(byF L k).length<=L.length:=by
 unfold byF
 rw[lMp0]
 exact List.length_filter_le _ _
abbrev Ents:=List (Key × Option Hd × Nat)
structure OI(L:List (Key × Int))(l:Ents)(cl:Nat):Prop where
 wf:mWf l cl
 keys:mKeys l
 len:l.length<=L.length
 at_:∀ k,match lk l k with
  | none=>byF L k=[]
  | some none=>False
  | some (some h)=>byF L k ≠ []/\BlkIs (szOf T) 3 h.n h.c ((byF L k).map irow) h.o
theorem OI.nil:OI [] [] 0:=⟨mWf.nil,List.nodup_nil,Nat.le_refl _,fun _=>rfl⟩
theorem mput_len{κ α:Type}[DecidableEq κ](l:List (κ × α × Nat))(c:Nat)(k:κ)(a:α):(mput l c k a).1.length<=l.length+1:=by
 unfold mput
 split<;>simp
theorem OI.put{L:List (Key × Int)}{l:Ents}{cl:Nat}(h:OI L l cl){k:Key}{i:Int}{x:Hd}(hb:BlkIs (szOf T) 3 x.n x.c ((byF L k++[i]).map irow) x.o) :
    OI (L++[(k,i)]) (mput l cl k (some x)).1 (mput l cl k (some x)).2:=by
 refine⟨mput_born h.wf _ _,mput_keys h.keys _ _,?_,fun k'=>?_⟩
 . have:=mput_len l cl k (some x)
   have:=h.len
   simp
   omega
 . rw[mput_lk,byF_snoc]
   by_cases hk:k'=k
   . subst hk
     rw[if_pos rfl,if_pos rfl]
     exact⟨by simp,hb⟩
   . rw[if_neg hk,if_neg hk,List.append_nil]
     exact h.at_ k'
theorem OI.re{L:List (Key × Int)}{l:Ents}{cl:Nat}(h:OI L l cl){k:Key}{x:Hd}(hl:lk l k=some (some x)){o:Obj}(hb:BlkIs (szOf T) 3 x.n x.c ((byF L k).map irow) o) :
    OI L (mput l cl k (some ⟨x.g,x.n,x.c,o⟩)).1 (mput l cl k (some ⟨x.g,x.n,x.c,o⟩)).2:=by
 refine⟨mput_born h.wf _ _,mput_keys h.keys _ _,?_,fun k'=>?_⟩
 . have h1:=h.len
   unfold lk at hl
   unfold mput
   cases hm:mfind k l 0 with
   | none=>rw[hm] at hl;cases hl
   | some x=>simpa using h1
 . rw[mput_lk]
   by_cases hk:k'=k
   . subst hk
     rw[if_pos rfl]
     have:=h.at_ k'
     rw[hl] at this
     exact⟨this.1,hb⟩
   . rw[if_neg hk]
     exact h.at_ k'
theorem OI.cases{L:List (Key × Int)}{l:Ents}{cl:Nat}(h:OI L l cl)(k:Key):(lk l k=none/\byF L k=[])\/∃ x:Hd,lk l k=some (some x)/\byF L k ≠ []/\BlkIs (szOf T) 3 x.n x.c ((byF L k).map irow) x.o:=by
 have:=h.at_ k
 cases hl:lk l k with
 | none=>rw[hl] at this;exact .inl ⟨rfl,this⟩
 | some o=>
  rw[hl] at this
  cases o with
  | none=>exact this.elim
  | some x=>exact .inr ⟨x,rfl,this⟩
theorem irow_ground(xs:List Int):∀ x ∈ xs.map irow,grounds x=true:=by
 intro x hx
 obtain⟨_,_,rfl⟩:=List.mem_map.1 hx
 rfl
def kRow(k:Key):List D:=[.i .i64 k.1,.i .i64 k.2]
theorem ownN_mem{bs:List Box}{n:Nat}{k:Key}{i:Int}:(k,i) ∈ ownN bs n ↔ ∃ (j:Nat) (b:Box) (p:Pfx),j<n/\bs[j]? = some b/\p ∈ b.owns.l/\keyOf p=k/\i=j:=by
 induction n with
 | zero=>simp[ownN]
 | succ n ih=>
  cases hb:bs[n]? with
  | none=>
   have e:ownN bs (n+1)=ownN bs n:=by unfold ownN;rw[List.take_add_one,hb];simp
   rw[e,ih]
   constructor
   . rintro⟨j,b,p,h1,h⟩;exact⟨j,b,p,by omega,h⟩
   . rintro⟨j,b,p,h1,h2,h⟩
     refine⟨j,b,p,?_,h2,h⟩
     rcases Nat.lt_or_ge j n with h3|h3
     . exact h3
     . obtain rfl:j=n:=by omega
       rw[hb] at h2;cases h2
  | some b=>
   rw[ownN_succ hb,mAp0,ih]
   constructor
   . rintro (⟨j,b,p,h1,h⟩|h)
     . exact⟨j,b,p,by omega,h⟩
     . obtain⟨p,hp,he⟩:=List.mem_map.1 h
       cases he
       exact⟨n,b,p,by omega,hb,hp,rfl,rfl⟩
   . rintro⟨j,b',p,h1,h2,h3,h4,h5⟩
     rcases Nat.lt_or_ge j n with h6|h6
     . exact .inl ⟨j,b',p,h6,h2,h3,h4,h5⟩
     . obtain rfl:j=n:=by omega
       rw[hb] at h2
       cases h2
       exact .inr (List.mem_map.2 ⟨p,h3,by rw[h4,h5]⟩)
theorem byF_mem{L:List (Key × Int)}{k:Key}{i:Int}:i ∈ byF L k ↔ (k,i) ∈ L:=by
 unfold byF
 simp only[List.mem_map,List.mem_filter,decide_eq_true_eq]
 constructor
 . rintro⟨x,⟨h1,rfl⟩,rfl⟩;exact h1
 . intro h;exact⟨(k,i),⟨h,rfl⟩,rfl⟩
theorem ownN_len{bs:List Box}(hb:∀ b ∈ bs,b.owns.l.length<=70):∀ n,(ownN bs n).length<=70*n
 | 0=>by simp[ownN]
 | n+1=>by
  have ih:=ownN_len hb n
  cases h:bs[n]? with
  | none=>
   have e:ownN bs (n+1)=ownN bs n:=by unfold ownN;rw[List.take_add_one,h];simp
   rw[e];omega
  | some b=>
   rw[ownN_succ h,List.length_append]
   have h1:=hb b (mOf0 h)
   have h2:(ownP n b.owns.l).length=b.owns.l.length:=by simp[ownP]
   omega
end Go.Proofs.YtnlingegeangmaaGreatDoor
namespace Go.Proofs.YtnlingegeangmaaGreatDoor
open Go Go.Vx
open Classical in
noncomputable def distF(n:Nat)(es:List Eg)(ds:List Int):List Int:=if h:∃ f,IsDist n es ds f then h.choose else []
open Classical in
noncomputable def firF(n:Nat)(es:List Eg)(far:List Int):List Int:=if h:∃ f,IsFirst n es far f 0 es.length then h.choose else []
theorem distF_eq{n:Nat}{es:List Eg}{ds f:List Int}(hc:∀ e ∈ es,1<=e.cost)(h:IsDist n es ds f):distF n es ds=f:=by
 unfold distF
 rw[dif_pos ⟨f,h⟩]
 exact IsDist.uniq hc (Exists.choose_spec (⟨f,h⟩:∃ f,IsDist n es ds f)) h
theorem firF_eq{n:Nat}{es:List Eg}{far f:List Int}(h:IsFirst n es far f 0 es.length):firF n es far=f:=by
 unfold firF
 rw[dif_pos ⟨f,h⟩]
 exact IsFirst.uniq (Exists.choose_spec (⟨f,h⟩:∃ f,IsFirst n es far f 0 es.length)) h
noncomputable def farE(n:Int)(es:List Eg)(ds:List Int):List Int:=if graphE n es ds ≠ 0 then [] else distF n.toNat es ds
noncomputable def fstE(n:Int)(es:List Eg)(ds:List Int):List Int:=if graphE n es ds ≠ 0 then [] else firF n.toNat es (distF n.toNat es ds)
def unf(far:List Int):Nat:=far.countP fun x=>decide (x<0)
theorem unf_set:∀ (far:List Int) (i:Nat) (y:Int),far[i]? = some (-1)->0<=y->unf (far.set i y)+1=unf far
 | [],i,y,h,_=>by simp at h
 | x :: far,0,y,h,h0=>by
  simp at h
  subst h
  unfold unf
  rw[List.set_cons_zero,List.countP_cons,List.countP_cons]
  have h2:¬ y<0:=by omega
  simp[h2]
 | x :: far,i+1,y,h,h0=>by
  have ih:=unf_set far i y (by simpa using h) h0
  unfold unf at *
  rw[List.set_cons_succ,List.countP_cons,List.countP_cons]
  omega
theorem unf_le(far:List Int):unf far<=far.length:=List.countP_le_length
theorem unf_rep(N:Nat):unf (List.replicate N (-1))=N:=by
 unfold unf
 rw[List.countP_replicate]
 simp
theorem rep_set{N k:Nat}(h:k<N):(List.replicate k (-1:Int)++List.replicate (N - k) 0).set k (-1)=List.replicate (k+1) (-1)++List.replicate (N - (k+1)) 0:=by
 apply List.ext_getElem?
 intro i
 rw[List.getElem?_set]
 simp only[List.getElem?_append,List.getElem?_replicate,List.length_append,List.length_replicate]
 repeat' split
 all_goals first|rfl|omega|(congr 1;omega)
theorem rep_at{N k:Nat}(h:k<N):(List.replicate k (-1:Int)++List.replicate (N - k) 0)[k]? = some 0:=by
 rw[List.getElem?_append_right (by simp),List.getElem?_replicate]
 simp;omega
theorem Shortest_at(n:Int)(es:List Eg)(ds:List Int){re se rd sd:List (List D)}(he:re=es.map Eg.row)(hd:rd=ds.map irow):FSpec Tryz.prog T 61 [.i .i64 n,.lst 122 re se,.lst 3 rd sd]
    (fun d rows=>rows=[some (3,(farE n es ds).map irow),some (3,(fstE n es ds).map irow)]/\d = .tup [.own 0 (farE n es ds).length,.own 1 (fstE n es ds).length,.i .i64 (graphE n es ds)]):=by
 subst he hd
 have hel:(es.map Eg.row).length=es.length:=by simp
 have hdl:(ds.map irow).length=ds.length:=by simp
 refine FSpec.of_ok tok Tryz.func61 rfl Tryz.call61 (by simp) ?_
 (try (conv=>whnf));repeat' (first|refine Ok.seq ?_|((first|refine Ok.region tok ?_|refine Ok.cond ?_|refine Ok.skip ?_|refine Ok.ret ?_);conv=>whnf)|(refine Or.inl ?_;(conv=>whnf);(repeat (refine aI ?_;conv=>whnf));refine⟨_,graph_at n es ds rfl rfl,rfl,?_⟩;conv=>whnf)|(refine bI ?_ ?_<;>intro<;>(conv=>whnf)<;>(try (exfalso;omega)))|fail)
 . rename_i h1
   refine Or.inr (Or.inr ?_);(conv=>whnf)
   simp[oneD,farE,fstE,h1]
 rename_i h1
 have h1:graphE n es ds=0:=Classical.not_not.1 h1
 obtain⟨g1,g2,g3,g4,hE,hD⟩:=graphE_ok h1
 obtain⟨N,rfl⟩:=Int.eq_ofNat_of_zero_le (show 0<=n by omega)
 refine Ok.joinM [0,1,2] [10,11] 4 0 (fun _:Unit=>[.own 2 N,.own 3 N]) (fun _=>[]) (fun _=>[none,none,some (3,(List.replicate N 0).map irow),some (3,(List.replicate N 0).map irow)]) (fun e _=>e = .normal) ?_
 (conv=>whnf)
 refine And.intro ?_ ?_
 . (try (conv=>whnf));repeat' (first|((first|refine Ok.region_tree (id:=4) tok follows [] (.q 0 (.q 2 (.alt 1 (.q 4 (.l 3 (.q 5 .nil))) (.alt 3 (.l 1 (.q 4 (.q 5 .nil))) .nil)))) (by kernel_rfl) ?_|refine⟨_,_,rfl,rfl,?_⟩|refine aJ ?_|refine⟨_,rfl,?_⟩);conv=>whnf)|(exact True.intro)|(refine And.intro ?_ ?_<;>(conv=>whnf))|fail)
   all_goals first
    | (refine⟨(),rfl,[0,1],?_⟩;(conv=>whnf);simp[envCat,irow];done)
    | (refine⟨(),rfl,[1,0],?_⟩;(conv=>whnf);simp[envCat,irow];done)
 rintro _ _ rfl
 (try (conv=>whnf));repeat' (first|refine Ok.seq ?_|(refine Ok.region tok ?_;conv=>whnf)|refine Ok.block ?_|fail)
 refine Ok.loopU [1,2,10,11,32] [33] 4 0 (fun (k:Nat)=>[.i .i64 (k:Nat)]) (fun _ b=>b) (fun (k:Nat) (_:Vx.Rows)=>[none,none,some (3,(List.replicate k (-1)++List.replicate (N - k) 0).map irow),some (3,(List.replicate k (-1)++List.replicate (N - k) 0).map irow)]) (fun (k:Nat)=>k<=N) (fun (k:Nat)=>N - k) (0) (Nat.zero_le _) ?_;(conv=>whnf);refine⟨by ((conv=>whnf);first|rfl|(simp[envCat,tkL0,Eg.row,irow,Rch.row];done)|(simp[envCat,tkL0,Eg.row,irow,Rch.row];rw[IntKind.wrap_i64];omega)),?_⟩
 rintro k hk
 have hrl:((List.replicate k (-1)++List.replicate (N - k) 0).map irow).length=N:=by simp;omega
 by_cases hkN:k<N
 . have hat:=rep_at hkN
   (try (conv=>whnf));repeat' (first|refine Ok.seq ?_|((first|refine Ok.region tok ?_|refine Ok.cond ?_);conv=>whnf)|refine Ok.block ?_|(refine Ok.skip ?_;conv=>whnf)|(refine bI ?_ ?_<;>intro<;>(conv=>whnf)<;>(try (exfalso;omega)))|(refine aJ ?_;conv=>whnf)|fail)
   refine st (-1) hat (by simp[irow]) (by simp[setCells,irow]) ?_
   (try (conv=>whnf));repeat' (first|(refine aJ ?_;conv=>whnf)|fail)
   refine st (-1) hat (by simp[irow]) (by simp[setCells,irow]) ?_
   (try (conv=>whnf));repeat' (first|((first|refine Ok.region tok ?_|refine nI ?_);conv=>whnf)|fail)
   refine⟨k+1,by omega,by omega,?_⟩
   (conv=>whnf);simp[envCat,rep_set hkN]
 obtain rfl:N=k:=by omega
 have hrep:List.replicate N (-1)++List.replicate (N - N) 0=List.replicate N (-1:Int):=by simp
 rw[hrep]
 clear hrep hrl
 have hrl:((List.replicate N (-1)).map irow).length=N:=by simp
 (try (conv=>whnf));repeat' (first|refine Ok.seq ?_|((first|refine Ok.region tok ?_|refine Ok.cond ?_|refine Ok.exit ?_);conv=>whnf)|(refine bI ?_ ?_<;>intro<;>(conv=>whnf)<;>(try (exfalso;omega)))|fail)
 refine Or.inr ?_
 (try (conv=>whnf));repeat' (first|refine Ok.seq ?_|(refine Ok.region tok ?_;conv=>whnf)|refine Ok.block ?_|fail)
 refine Ok.ghostB 0 0 185 rfl rfl ?_
 (conv=>whnf)
 refine Ok.loopU [1,10,11,13,46,47] [48] 5 1 (fun (x:Nat × List Rch)=>[.i .i64 (x.1:Nat)]) (fun (x:Nat × List Rch) (_:List (List D))=>[[.own 4 x.2.length,.fnh 111 [.own 2 N] []]]) (fun (x:Nat × List Rch) (_:Vx.Rows)=>[none,none,some (3,(List.replicate N (-1)).map irow),some (3,(List.replicate N (-1)).map irow),some (185,x.2.map Rch.row)]) (fun (x:Nat × List Rch)=>x.1<=ds.length/\x.2.Perm ((ds.take x.1).map fun d=>⟨d,0⟩)/\Hp.Heap nearP x.2) (fun (x:Nat × List Rch)=>ds.length - x.1) ((0,[])) (⟨Nat.zero_le _,by simp,fun j _ a b h=>by simp at h⟩) ?_;(conv=>whnf);refine⟨by ((conv=>whnf);first|rfl|(simp[envCat,tkL0,Eg.row,irow,Rch.row];done)|(simp[envCat,tkL0,Eg.row,irow,Rch.row];rw[IntKind.wrap_i64];omega)),?_⟩
 rintro⟨k,hs⟩ ⟨hk,hp,hh⟩
 dsimp only at hk hp hh ⊢
 by_cases hkd:k<ds.length
 . obtain⟨d,hd⟩:∃ d,ds[k]? = some d:=⟨_,gEt0 hkd⟩
   (try (conv=>whnf));repeat' (first|refine Ok.seq ?_|((first|refine Ok.region tok ?_|refine Ok.cond ?_);conv=>whnf)|refine Ok.block ?_|((first|refine Ok.skip ?_|refine ix _ (by assumption) ?_);conv=>whnf)|(refine bI ?_ ?_<;>intro<;>(conv=>whnf)<;>(try (exfalso;omega)))|fail)
   refine Or.inr (Or.inr (Or.inl ?_));(conv=>whnf);refine⟨_,_,Tryz.func112,rfl,Tryz.call112,?_⟩;(conv=>whnf)
   refine Ok.joinU [75,84,85,87,120,121,122] [] 5 1 (fun (zs:List Rch)=>[]) (fun (zs:List Rch) (_:List (List D))=>[[.own 4 zs.length,.fnh 111 [.own 2 N] []]]) (fun (zs:List Rch) (_:Vx.Rows)=>[none,none,some (3,(List.replicate N (-1)).map irow),some (3,(List.replicate N (-1)).map irow),some (185,zs.map Rch.row)]) (fun e (zs:List Rch)=>(e = .normal\/e = .ret)/\zs.Perm (hs++[⟨d,0⟩])/\Hp.Heap nearP zs) ?_;(conv=>whnf);refine And.intro ?_ ?_
   . have hsl0:(hs.map Rch.row).length=hs.length:=by simp
     have hpl0:hs.length<=16:=by have:=hp.length_eq;simp at this;omega
     (try (conv=>whnf));repeat' (first|refine Ok.seq ?_|((first|refine Ok.region tok ?_|refine Ok.region_plan (id:=1) tok follows [(5,6,[]),(4,7,[]),(5,7,[6]),(6,7,[]),(4,10,[]),(5,10,[]),(6,10,[]),(7,10,[])] [.q 0,.q 1,.q 2,.q 3,.q 4,.q 5,.l 6,.l 7,.q 8,.q 9,.l 10] (by kernel_rfl) ?_);conv=>whnf)|refine Ok.block ?_|((first|refine Alt2.l (aI ?_)|refine⟨_,.inl ⟨rfl,rfl⟩,?_⟩|refine⟨_,_,rfl,rfl,?_⟩|refine aJ ?_|refine num_any ?_);conv=>whnf)|fail)
     refine Ok.loopU [0,75,84,85,87,120,121,122] [4] 5 1 (fun (y:Nat × List Rch)=>[.i .i64 (y.1:Nat)]) (fun (y:Nat × List Rch) (_:List (List D))=>[[.own 4 y.2.length,.fnh 111 [.own 2 N] []]]) (fun (y:Nat × List Rch) (_:Vx.Rows)=>[none,none,some (3,(List.replicate N (-1)).map irow),some (3,(List.replicate N (-1)).map irow),some (185,y.2.map Rch.row)]) (fun (y:Nat × List Rch)=>y.1<y.2.length/\y.2.Perm (hs++[⟨d,0⟩])/\Hp.HeapX nearP y.2 y.1) (fun (y:Nat × List Rch)=>y.1) ((hs.length,hs++[⟨d,0⟩])) (⟨by simp,.refl _,Hp.heapX_snoc hh _⟩) ?_;(conv=>whnf);refine⟨by ((conv=>whnf);first|rfl|(simp[envCat,tkL0,Eg.row,irow,Rch.row];done)|(simp[envCat,tkL0,Eg.row,irow,Rch.row];rw[IntKind.wrap_i64];omega)),?_⟩
     rintro⟨i,us⟩ ⟨hi,hup,hux⟩
     dsimp only at hi hup hux ⊢
     have husl:(us.map Rch.row).length=us.length:=by simp
     have husp:us.length=hs.length+1:=by rw[hup.length_eq];simp
     obtain⟨a,ha⟩:∃ a,us[i]? = some a:=⟨_,gEt0 hi⟩
     by_cases hi0:0<i
     . obtain⟨u,hu⟩:∃ u,u=(i - 1) / 2:=⟨_,rfl⟩
       have htd:IntKind.i64.wrap (((i:Int) - 1).tdiv 2)=(u:Int):=by
        rw[Int.tdiv_eq_ediv_of_nonneg (by omega),IntKind.wrap_i64]
        omega
       obtain⟨b,hb⟩:∃ b,us[u]? = some b:=⟨_,gEt0 (by omega)⟩
       have hne:i ≠ u:=by omega
       have hb':(us.set i b)[u]? = some b:=by rw[List.getElem?_set_ne hne];exact hb
       have hsl1:((us.set i b).map Rch.row).length=us.length:=by simp
       (try (conv=>whnf));repeat' (first|refine Ok.seq ?_|((first|refine Ok.region tok ?_|refine Ok.region_plan (id:=6) tok follows [(3,25,[]),(8,25,[]),(13,25,[]),(16,25,[]),(20,25,[]),(23,25,[]),(3,27,[]),(8,27,[]),(13,27,[]),(16,27,[]),(20,27,[]),(23,27,[]),(25,27,[])] [.q 0,.q 1,.q 2,.q 3,.q 4,.q 5,.q 6,.q 7,.q 8,.q 9,.q 10,.q 11,.q 12,.q 13,.q 14,.q 15,.q 16,.q 17,.q 18,.q 19,.q 20,.q 21,.q 22,.q 23,.q 24,.l 25,.q 26,.l 27] (by kernel_rfl) ?_|refine⟨_,(htd).symm,?_⟩|refine Ok.region_draw tok follows (by kernel_rfl) ?_|refine Ok.cond ?_);conv=>whnf)|refine Ok.block ?_|((first|refine Ok.skip ?_|refine Ok.ret ?_|refine nI ?_|refine⟨_,nearer_spec _ _ a b,rfl,?_⟩|refine rd rfl (by assumption) ?_);conv=>whnf)|(refine bI ?_ ?_<;>intro<;>(conv=>whnf)<;>(try (exfalso;omega)))|(refine aJ ?_;conv=>whnf)|fail)
       . rename_i h3
         refine⟨us,⟨.inr rfl,hup,Hp.heapX_stop hux ha (by rw[<- hu];exact hb) h3⟩,?_⟩
         (conv=>whnf);(first|rfl|simp[envCat,tkL0,Eg.row,irow,Rch.row])
       . rename_i h3
         have h3:nearP a b:=Classical.not_not.1 h3
         refine st b ha (by simp[Rch.row]) (by simp[setCells,Rch.row]) ?_
         (try (conv=>whnf));repeat' (first|(refine aJ ?_;conv=>whnf)|fail)
         refine st a hb' (by simp[Rch.row]) (by simp[setCells,Rch.row]) ?_
         (try (conv=>whnf));repeat' (first|(refine Ok.region tok ?_;conv=>whnf)|fail)
         refine⟨(u,Hp.swp us i u a b),by dsimp only;omega,⟨by rw[Hp.swp_length];dsimp only;omega,(Hp.swp_perm ha hb hne).trans hup,by dsimp only;rw[hu] at hb ⊢;exact Hp.heapX_up near_swo hux hi0 ha hb h3⟩,?_⟩
         (conv=>whnf);simp[envCat,Hp.swp]
     . have hi0:i=0:=by omega
       subst hi0
       (try (conv=>whnf));repeat' (first|refine Ok.seq ?_|((first|refine Ok.region tok ?_|refine Ok.cond ?_|refine Ok.exit ?_);conv=>whnf)|(refine bI ?_ ?_<;>intro<;>(conv=>whnf)<;>(try (exfalso;omega)))|fail)
       refine⟨us,⟨.inl rfl,hup,Hp.heapX_zero hux⟩,?_⟩
       (conv=>whnf);(first|rfl|simp[envCat,tkL0,Eg.row,irow,Rch.row])
   . rintro e zs ⟨he,hp2,hh2⟩
     rcases he with rfl|rfl
     all_goals
      (try (conv=>whnf));repeat' (first|((first|refine Ok.region tok ?_|refine nI ?_);conv=>whnf)|fail)
      refine⟨(k+1,zs),by dsimp only;omega,⟨by dsimp only;omega,?_,hh2⟩,?_⟩
      . dsimp only
        rw[List.take_add_one,hd,List.map_append]
        exact hp2.trans (hp.append_right _)
      . (conv=>whnf);(first|rfl|simp[envCat,tkL0,Eg.row,irow,Rch.row])
 have hkk:k=ds.length:=by omega
 subst hkk
 rw[List.take_length] at hp
 have hdij:Dij N es ds (List.replicate N (-1)) hs (fun _ _=>True):=Dij.start (fun d hd=>hD d hd) hp
 have hc1:∀ e ∈ es,1<=e.cost:=fun e he=>(hE e he).2.2.2.2.1
 (try (conv=>whnf));repeat' (first|refine Ok.seq ?_|((first|refine Ok.region tok ?_|refine Ok.cond ?_);conv=>whnf)|refine Ok.block ?_|(refine Ok.exit ?_;conv=>whnf)|(refine bI ?_ ?_<;>intro<;>(conv=>whnf)<;>(try (exfalso;omega)))|fail)
 refine Ok.joinU [1,10,11] [] 4 0 (fun (far:List Int)=>[]) (fun (far:List Int) (_:List (List D))=>[]) (fun (far:List Int) (_:Vx.Rows)=>[none,none,some (3,far.map irow),some (3,(List.replicate N (-1)).map irow)]) (fun e (far:List Int)=>e = .exit 4/\IsDist N es ds far/\(∀ (v:Nat) x,far[v]? = some x->x<=160000)) ?_;(conv=>whnf);refine And.intro ?_ ?_
 . refine Ok.loopU [1,10,11,13] [] 5 1 (fun (x:List Int × List Rch)=>[]) (fun (x:List Int × List Rch) (_:List (List D))=>[[.own 4 x.2.length,.fnh 111 [.own 2 N] []]]) (fun (x:List Int × List Rch) (_:Vx.Rows)=>[none,none,some (3,x.1.map irow),some (3,(List.replicate N (-1)).map irow),some (185,x.2.map Rch.row)]) (fun (x:List Int × List Rch)=>Dij N es ds x.1 x.2 (fun _ _=>True)/\Hp.Heap nearP x.2/\(∀ r ∈ x.2,r.far<=9999*((N - unf x.1:Nat):Int))/\x.2.length+unf x.1*(es.length+1)<=1000/\(∀ (v:Nat) y,x.1[v]? = some y->y<=9999*((N - unf x.1:Nat):Int))) (fun (x:List Int × List Rch)=>x.2.length+unf x.1*(es.length+1)) ((List.replicate N (-1),hs)) (⟨hdij,hh,fun r hr=>by obtain⟨d,_,rfl⟩:=List.mem_map.1 (hp.subset hr);dsimp only;omega,by dsimp only;rw[unf_rep];have:=hp.length_eq;simp at this;have h16:N*(es.length+1)<=16*49:=Nat.mul_le_mul (by omega) (by omega);omega,fun v y hv=>by simp[List.getElem?_replicate] at hv;omega⟩) ?_;(conv=>whnf);refine⟨by ((conv=>whnf);first|rfl|(simp[envCat,tkL0,Eg.row,irow,Rch.row];done)|(simp[envCat,tkL0,Eg.row,irow,Rch.row];rw[IntKind.wrap_i64];omega)),?_⟩
   clear hh hp hdij
   rintro⟨far,hs⟩ ⟨hdij,hh,hbd,hsz,hfb⟩
   dsimp only at hdij hh hbd hsz hfb ⊢
   have hfl:(far.map irow).length=N:=by simp[hdij.len]
   by_cases h0:0<hs.length
   . (try (conv=>whnf));repeat' (first|refine Ok.seq ?_|((first|refine Ok.region tok ?_|refine Ok.cond ?_);conv=>whnf)|refine Ok.block ?_|(refine Ok.skip ?_;conv=>whnf)|(refine bI ?_ ?_<;>intro<;>(conv=>whnf)<;>(try (exfalso;omega)))|fail)
     refine Or.inr (Or.inr (Or.inl ?_));(conv=>whnf);refine⟨_,_,Tryz.func113,rfl,Tryz.call113,?_⟩;(conv=>whnf)
     refine Ok.joinV [109,118,119,121] [2] 5 1 5 2 (fun (x:Rch × List Rch)=>[.bp 1 0]) (fun (x:Rch × List Rch)=>[[.own 4 x.2.length,.fnh 111 [.own 2 N] []],x.1.row]) (fun (x:Rch × List Rch)=>[none,none,some (3,far.map irow),some (3,(List.replicate N (-1)).map irow),some (185,x.2.map Rch.row)]) (fun e (x:Rch × List Rch)=>e = .ret/\(x.1 :: x.2).Perm hs/\(∀ b ∈ hs,¬ nearP b x.1)/\Hp.Heap nearP x.2) ?_;(conv=>whnf);refine And.intro ?_ ?_
     . have husl:(hs.map Rch.row).length=hs.length:=by simp
       obtain⟨a,ha⟩:∃ a,hs[0]? = some a:=⟨_,gEt0 h0⟩
       obtain⟨b,hb⟩:∃ b,hs[hs.length - 1]? = some b:=⟨_,gEt0 (by omega)⟩
       have e1:((hs.length:Int) - 1).toNat=hs.length - 1:=by omega
       have hb2:hs[((hs.length:Int) - 1).toNat]? = some b:=by rw[e1];exact hb
       have husl2:((hs.set 0 b).map Rch.row).length=hs.length:=by simp
       (try (conv=>whnf));repeat' (first|refine Ok.seq ?_|((first|refine Ok.region tok ?_|refine Ok.region_plan (id:=1) tok follows [(3,13,[]),(5,13,[]),(12,13,[])] [.q 0,.q 1,.q 2,.q 3,.q 4,.q 5,.q 6,.q 7,.q 8,.q 9,.q 10,.q 11,.l 12,.l 13,.q 14] (by kernel_rfl) ?_|refine Ok.region_plan (id:=2) tok follows [(3,12,[]),(7,12,[]),(10,12,[])] [.q 0,.q 1,.q 2,.q 3,.q 4,.q 5,.q 6,.q 7,.q 8,.q 9,.q 10,.q 11,.l 12] (by kernel_rfl) ?_|refine nI ?_|refine rd rfl (by assumption) ?_|refine aJ ?_);conv=>whnf)|fail)
       refine st b ha (by simp[Rch.row]) (by simp[setCells,Rch.row]) ?_
       (try (conv=>whnf));repeat' (first|refine Ok.seq ?_|(refine Ok.region tok ?_;conv=>whnf)|fail)
       refine⟨hs.length - 1,rfl,by show ((hs.length:Int) - 1)=_;omega,by simp,?_⟩
       (try (conv=>whnf));repeat' (first|refine Ok.seq ?_|(refine Ok.region tok ?_;conv=>whnf)|refine Ok.block ?_|fail)
       obtain⟨vs,hvs⟩:∃ vs,vs=(hs.set 0 b).take (hs.length - 1):=⟨_,rfl⟩
       have hvl:vs.length=hs.length - 1:=by rw[hvs];simp
       have hvp:(a :: vs).Perm hs:=by rw[hvs];exact Hp.top_perm ha hb
       have hvd:Hp.HeapD nearP vs 0:=by rw[hvs];exact Hp.heapD_top hh b
       have hmin:∀ c ∈ hs,¬ nearP c a:=fun c hc=>let ⟨j,hj⟩:=List.getElem?_of_mem hc;Hp.heap_min near_swo hh ha j c hj
       refine Ok.trunc 0 0 4 rfl rfl rfl (vs.map Rch.row) (by rw[hvs];simp[List.map_take]) ?_
       (conv=>whnf)
       refine Ok.loopU [0,2,3,4,109,118,119,121] [5] 5 3 (fun (x:Nat × List Rch)=>[.i .i64 (x.1:Nat)]) (fun (x:Nat × List Rch) (_:List (List D))=>[[.own 4 (hs.length - 1),.fnh 111 [.own 2 N] []],[.i .i64 0,.i .i64 0],a.row]) (fun (x:Nat × List Rch) (_:Vx.Rows)=>[none,none,some (3,far.map irow),some (3,(List.replicate N (-1)).map irow),some (185,x.2.map Rch.row)]) (fun (x:Nat × List Rch)=>x.2.Perm vs/\Hp.HeapD nearP x.2 x.1/\(x.1<x.2.length\/x.1=0)) (fun (x:Nat × List Rch)=>vs.length - x.1) ((0,vs)) (⟨.refl _,hvd,.inr rfl⟩) ?_;(conv=>whnf);refine⟨by ((conv=>whnf);first|rfl|(simp[envCat,tkL0,Eg.row,irow,Rch.row];done)|(simp[envCat,tkL0,Eg.row,irow,Rch.row];rw[IntKind.wrap_i64];omega)),?_⟩
       rintro⟨i,xs⟩ ⟨hxp,hxd,hxi⟩
       dsimp only at hxp hxd hxi ⊢
       have hxl:xs.length=hs.length - 1:=by rw[hxp.length_eq,hvl]
       have hxml:(xs.map Rch.row).length=hs.length - 1:=by simp[hxl]
       refine Ok.block ?_
       refine Ok.seq ?_
       refine Ok.region tok ?_
       (conv=>whnf)
       refine Ok.seqU [0,2,3,4,5,109,118,119,121] [6] 5 3 (fun x:Nat=>[.i .i64 (x:Nat)]) (fun _ b=>b) (fun _ r=>r)
        (fun x=>(x=i\/2*i+1<=x/\x<=2*i+2/\x<xs.length/\∀ c d,xs[i]? = some c->xs[x]? = some d->nearP d c)/\∀ j c d,2*i+1<=j->j<=2*i+2->xs[j]? = some c->xs[x]? = some d->¬ nearP c d) ?_
       (conv=>whnf)
       refine And.intro ?_ ?_
       . (try (conv=>whnf));repeat' (first|refine Ok.seq ?_|(refine Ok.region tok ?_;conv=>whnf)|refine Ok.block ?_|(refine nI ?_;conv=>whnf)|fail)
         refine Ok.loopU [0,2,3,4,5,109,118,119,121] [6,7] 5 3 (fun (x:Nat × Nat)=>[.i .i64 (x.1:Nat),.i .i64 (x.2:Nat)]) (fun _ b=>b) (fun _ r=>r) (fun (x:Nat × Nat)=>2*i+1<=x.2/\x.2<=2*i+3/\(x.1=i\/2*i+1<=x.1/\x.1<x.2/\x.1<xs.length/\∀ c d,xs[i]? = some c->xs[x.1]? = some d->nearP d c)/\∀ j c d,2*i+1<=j->j<x.2->xs[j]? = some c->xs[x.1]? = some d->¬ nearP c d) (fun (x:Nat × Nat)=>2*i+3 - x.2) ((i,2*i+1)) (⟨by dsimp only;omega,by dsimp only;omega,.inl rfl,fun j c d h1 h2=>absurd h2 (by dsimp only;omega)⟩) ?_;(conv=>whnf);refine⟨by ((conv=>whnf);first|rfl|(simp[envCat,tkL0,Eg.row,irow,Rch.row];done)|(simp[envCat,tkL0,Eg.row,irow,Rch.row];rw[IntKind.wrap_i64];omega)),?_⟩
         rintro⟨x,y⟩ ⟨hy1,hy2,hx1,hx2⟩
         dsimp only at hy1 hy2 hx1 hx2 ⊢
         by_cases hyy:y<=2*i+2/\y<xs.length
         . obtain⟨hyy,hyl⟩:=hyy
           have hxl2:x<xs.length:=by omega
           obtain⟨c,hc⟩:∃ c,xs[y]? = some c:=⟨_,gEt0 hyl⟩
           obtain⟨d,hd⟩:∃ d,xs[x]? = some d:=⟨_,gEt0 hxl2⟩
           (try (conv=>whnf));repeat' (first|refine Ok.seq ?_|((first|refine Ok.region tok ?_|refine Ok.region_draw tok follows (by kernel_rfl) ?_|refine Ok.cond ?_);conv=>whnf)|refine Ok.block ?_|((first|refine Ok.skip ?_|refine nI ?_|refine⟨_,nearer_spec _ _ c d,rfl,?_⟩|refine rd rfl (by assumption) ?_);conv=>whnf)|(refine bI ?_ ?_<;>intro<;>(conv=>whnf)<;>(try (exfalso;omega)))|(refine aJ ?_;conv=>whnf)|fail)
           . rename_i h5
             refine⟨(y,y+1),by dsimp only;omega,⟨by dsimp only;omega,by dsimp only;omega,.inr ⟨hy1,by dsimp only;omega,hyl,fun e f he hf=>?_⟩,fun j e f h6 h7 he hf=>?_⟩,?_⟩
             . rw[hc] at hf
               cases hf
               rcases hx1 with rfl|⟨_,_,_,hx3⟩
               . rw[hd] at he;cases he;exact h5
               . exact Classical.byContradiction fun hn=>near_swo.trans _ _ _ (near_swo.asymm _ _ (hx3 e d he hd)) hn h5
             . rw[hc] at hf
               cases hf
               by_cases hj:j=y
               . subst hj;rw[hc] at he;cases he;exact near_swo.irrefl _
               . exact near_swo.trans _ _ _ (near_swo.asymm _ _ h5) (hx2 j e d h6 (by dsimp only at h7;omega) he hd)
             . (conv=>whnf);(first|rfl|simp[envCat,tkL0,Eg.row,irow,Rch.row])
           . rename_i h5
             refine⟨(x,y+1),by dsimp only;omega,⟨by dsimp only;omega,by dsimp only;omega,?_,fun j e f h6 h7 he hf=>?_⟩,?_⟩
             . rcases hx1 with h|⟨h6,h7,h8,h9⟩
               . exact .inl h
               . exact .inr ⟨h6,by dsimp only;omega,h8,h9⟩
             . by_cases hj:j=y
               . subst hj;rw[hc] at he;rw[hd] at hf;cases he;cases hf;exact h5
               . exact hx2 j e f h6 (by dsimp only at h7;omega) he hf
             . (conv=>whnf);(first|rfl|simp[envCat,tkL0,Eg.row,irow,Rch.row])
         . (try (conv=>whnf));repeat' (first|refine Ok.seq ?_|((first|refine Ok.region tok ?_|refine Ok.cond ?_|refine Ok.exit ?_|refine nI ?_);conv=>whnf)|(refine bI ?_ ?_<;>intro<;>(conv=>whnf)<;>(try (exfalso;omega)))|fail)
           all_goals
            refine⟨x,⟨?_,fun j e f h6 h7 he hf=>?_⟩,?_⟩
            . rcases hx1 with h|⟨h6,h7,h8,h9⟩
              . exact .inl h
              . exact .inr ⟨h6,by omega,h8,h9⟩
            . have:=(gSm0.1 he).1
              exact hx2 j e f h6 (by omega) he hf
            . (conv=>whnf);(first|rfl|simp[envCat,tkL0,Eg.row,irow,Rch.row])
       . intro x ⟨hx1,hx2⟩
         by_cases h3':x=i
         . subst h3'
           (try (conv=>whnf));repeat' (first|refine Ok.seq ?_|((first|refine Ok.region tok ?_|refine Ok.cond ?_|refine Ok.ret ?_);conv=>whnf)|(refine bI ?_ ?_<;>intro<;>(conv=>whnf)<;>(try (exfalso;omega)))|fail)
           refine⟨(a,xs),⟨rfl,(hxp.cons a).trans hvp,hmin,?_⟩,?_⟩
           . by_cases hxl3:x<xs.length
             . obtain⟨c,hc⟩:∃ c,xs[x]? = some c:=⟨_,gEt0 hxl3⟩
               exact Hp.heapD_stop hxd hc fun j e h6 h7 he=>hx2 j e c h6 h7 he hc
             . intro j hj e f he hf
               have:=(gSm0.1 he).1
               dsimp only at this
               omega
           . (conv=>whnf);simp[envCat,hxl,Rch.row]
         . obtain⟨hx3,hx4,hx5,hx6⟩:=hx1.resolve_left h3'
           have hil:i<xs.length:=by omega
           obtain⟨c,hc⟩:∃ c,xs[i]? = some c:=⟨_,gEt0 hil⟩
           obtain⟨d,hd⟩:∃ d,xs[x]? = some d:=⟨_,gEt0 hx5⟩
           have hd':(xs.set i d)[x]? = some d:=by rw[List.getElem?_set_ne (Ne.symm h3')];exact hd
           have hxml2:((xs.set i d).map Rch.row).length=hs.length - 1:=by simp[hxl]
           (try (conv=>whnf));repeat' (first|refine Ok.seq ?_|((first|refine Ok.region tok ?_|refine Ok.region_plan (id:=13) tok follows [(3,25,[]),(8,25,[]),(13,25,[]),(16,25,[]),(20,25,[]),(23,25,[]),(3,27,[]),(8,27,[]),(13,27,[]),(16,27,[]),(20,27,[]),(23,27,[]),(25,27,[])] [.q 0,.q 1,.q 2,.q 3,.q 4,.q 5,.q 6,.q 7,.q 8,.q 9,.q 10,.q 11,.q 12,.q 13,.q 14,.q 15,.q 16,.q 17,.q 18,.q 19,.q 20,.q 21,.q 22,.q 23,.q 24,.l 25,.q 26,.l 27] (by kernel_rfl) ?_|refine Ok.cond ?_|refine Ok.skip ?_|refine rd rfl (by assumption) ?_);conv=>whnf)|(refine bI ?_ ?_<;>intro<;>(conv=>whnf)<;>(try (exfalso;omega)))|(refine aJ ?_;conv=>whnf)|fail)
           refine st d hc (by simp[Rch.row]) (by simp[setCells,Rch.row]) ?_
           (try (conv=>whnf));repeat' (first|(refine aJ ?_;conv=>whnf)|fail)
           refine st c hd' (by simp[Rch.row]) (by simp[setCells,Rch.row]) ?_
           (try (conv=>whnf));repeat' (first|(refine Ok.region tok ?_;conv=>whnf)|fail)
           refine⟨(x,Hp.swp xs i x c d),by dsimp only;omega,⟨(Hp.swp_perm hc hd (Ne.symm h3')).trans hxp,Hp.heapD_down near_swo hxd hc hd hx3 hx4 (hx6 c d hc hd) fun j e h6 h7 he=>hx2 j e d h6 h7 he hd,.inl (by rw[Hp.swp_length];exact hx5)⟩,?_⟩
           (conv=>whnf);simp[envCat,Hp.swp]
     . rintro e ⟨r,hs'⟩ ⟨rfl,hp,hmin,hh'⟩
       dsimp only at hp hmin hh' ⊢
       have hr:r ∈ hs:=hp.subset (by simp)
       obtain⟨hn0,hn1,hf0⟩:=hdij.hin r hr
       have hrb:=hbd r hr
       have hunl:=unf_le far
       rw[hdij.len] at hunl
       obtain⟨x,hx⟩:∃ x,far[r.node.toNat]? = some x:=⟨_,gEt0 (by rw[hdij.len];omega)⟩
       have hlen:=hp.length_eq
       simp only[List.length_cons] at hlen
       have hmin':∀ s ∈ hs,r.far<=s.far:=fun s hs=>by have:=hmin s hs;unfold nearP at this;omega
       rcases hdij.low _ _ hx with rfl|hx0
       . obtain⟨hd2,htop⟩:=Dij.take (fun e he=>⟨(hE e he).1,(hE e he).2.2.1⟩) (fun d h=>(hD d h).1) hdij hp.symm hmin' hx
         have hunf:=unf_set far r.node.toNat r.far hx hf0
         have hrat:(far.set r.node.toNat r.far)[r.node.toNat]? = some r.far:=List.getElem?_set_self (by rw[hdij.len];omega)
         have hfb2:∀ (v:Nat) y,(far.set r.node.toNat r.far)[v]? = some y->y<=9999*((N - unf (far.set r.node.toNat r.far):Nat):Int):=fun v y hv=>by
          by_cases hvn:v=r.node.toNat
          . subst hvn;rw[hrat] at hv;cases hv;omega
          . rw[List.getElem?_set_ne (Ne.symm hvn)] at hv;have:=hfb v y hv;omega
         have hset2:(far.set r.node.toNat r.far).length=N:=by simp[hdij.len]
         (try (conv=>whnf));repeat' (first|refine Ok.seq ?_|((first|refine Ok.region tok ?_|refine Ok.cond ?_|refine Ok.skip ?_|refine rd rfl (by assumption) ?_);conv=>whnf)|(refine bI ?_ ?_<;>intro<;>(conv=>whnf)<;>(try (exfalso;omega)))|(refine aJ ?_;conv=>whnf)|fail)
         refine st r.far hx (by simp[irow]) (by simp[setCells,irow]) ?_
         generalize hfar2:far.set r.node.toNat r.far=far2 at hd2 htop hunf hrat hset2 hfb2 ⊢
         have hfl2:(far2.map irow).length=N:=by simp[hset2]
         have hmul:unf far*(es.length+1)=unf far2*(es.length+1)+(es.length+1):=by rw[<- hunf,Nat.add_mul,Nat.one_mul]
         (try (conv=>whnf));repeat' (first|refine Ok.seq ?_|(refine Ok.region tok ?_;conv=>whnf)|refine Ok.block ?_|fail)
         refine Ok.loopU [1,10,11,13,16,73,74] [75] 5 3 (fun (x:Nat × List Rch)=>[.i .i64 (x.1:Nat)]) (fun (x:Nat × List Rch) (_:List (List D))=>[[.own 4 x.2.length,.fnh 111 [.own 2 N] []],r.row,r.row]) (fun (x:Nat × List Rch) (_:Vx.Rows)=>[none,none,some (3,far2.map irow),some (3,(List.replicate N (-1)).map irow),some (185,x.2.map Rch.row)]) (fun (x:Nat × List Rch)=>x.1<=es.length/\Dij N es ds far2 x.2 (fun i e=>e.dst=r.node->i<x.1)/\Hp.Heap nearP x.2/\(∀ r ∈ x.2,r.far<=9999*((N - unf far2:Nat):Int))/\x.2.length<=hs'.length+x.1) (fun (x:Nat × List Rch)=>es.length - x.1) ((0,hs')) (⟨Nat.zero_le _,hd2.weaken (fun i e _ h ht=>absurd (h ht) (Nat.not_lt_zero _)),hh',fun s hs=>by have:=hbd s (hp.subset (by simp[hs]));omega,Nat.le_refl _⟩) ?_;(conv=>whnf);refine⟨by ((conv=>whnf);first|rfl|(simp[envCat,tkL0,Eg.row,irow,Rch.row];done)|(simp[envCat,tkL0,Eg.row,irow,Rch.row];rw[IntKind.wrap_i64];omega)),?_⟩
         rintro⟨k,hs2⟩ ⟨hk,hd3,hh2,hbd2,hsz2⟩
         dsimp only at hk hd3 hh2 hbd2 hsz2 ⊢
         by_cases hke:k<es.length
         . obtain⟨g,he⟩:∃ e,es[k]? = some e:=⟨_,gEt0 hke⟩
           obtain⟨e1,e2,e3,e4,e5,e6,_,_⟩:=hE g (mOf0 he)
           obtain⟨y,hy⟩:∃ y,far2[g.frm.toNat]? = some y:=⟨_,gEt0 (by rw[hset2];omega)⟩
           (try (conv=>whnf));repeat' (first|refine Ok.seq ?_|((first|refine Ok.region tok ?_|refine Ok.cond ?_);conv=>whnf)|refine Ok.block ?_|((first|refine Ok.skip ?_|refine nI ?_|refine ix _ (by assumption) ?_|refine rd rfl (by assumption) ?_);conv=>whnf)|(refine bI ?_ ?_<;>intro<;>(conv=>whnf)<;>(try (exfalso;omega)))|(refine aJ ?_;conv=>whnf)|fail)
           . rename_i a b
             have hym:y=-1:=by rcases hd3.low _ _ hy with h|h<;>omega
             subst hym
             refine Or.inr (Or.inr (Or.inl ?_));(conv=>whnf);refine⟨_,_,Tryz.func112,rfl,Tryz.call112,?_⟩;(conv=>whnf)
             refine Ok.joinU [75,84,85,87,90,147,148,149] [] 5 3 (fun (zs:List Rch)=>[]) (fun (zs:List Rch) (_:List (List D))=>[[.own 4 zs.length,.fnh 111 [.own 2 N] []],r.row,r.row]) (fun (zs:List Rch) (_:Vx.Rows)=>[none,none,some (3,far2.map irow),some (3,(List.replicate N (-1)).map irow),some (185,zs.map Rch.row)]) (fun e (zs:List Rch)=>(e = .normal\/e = .ret)/\zs.Perm (hs2++[⟨g.frm,r.far+g.cost⟩])/\Hp.Heap nearP zs) ?_;(conv=>whnf);refine And.intro ?_ ?_
             . have hsl0:(hs2.map Rch.row).length=hs2.length:=by simp
               have hpl0:hs2.length<=2000:=by omega
               (try (conv=>whnf));repeat' (first|refine Ok.seq ?_|((first|refine Ok.region tok ?_|refine Ok.region_plan (id:=1) tok follows [(5,6,[]),(4,7,[]),(5,7,[6]),(6,7,[]),(4,10,[]),(5,10,[]),(6,10,[]),(7,10,[])] [.q 0,.q 1,.q 2,.q 3,.q 4,.q 5,.l 6,.l 7,.q 8,.q 9,.l 10] (by kernel_rfl) ?_);conv=>whnf)|refine Ok.block ?_|((first|refine Alt2.l (aI ?_)|refine⟨_,.inl ⟨rfl,rfl⟩,?_⟩|refine⟨_,_,rfl,rfl,?_⟩|refine aJ ?_|refine num_any ?_);conv=>whnf)|fail)
               refine Ok.loopU [0,75,84,85,87,90,147,148,149] [4] 5 3 (fun (y:Nat × List Rch)=>[.i .i64 (y.1:Nat)]) (fun (y:Nat × List Rch) (_:List (List D))=>[[.own 4 y.2.length,.fnh 111 [.own 2 N] []],r.row,r.row]) (fun (y:Nat × List Rch) (_:Vx.Rows)=>[none,none,some (3,far2.map irow),some (3,(List.replicate N (-1)).map irow),some (185,y.2.map Rch.row)]) (fun (y:Nat × List Rch)=>y.1<y.2.length/\y.2.Perm (hs2++[⟨g.frm,r.far+g.cost⟩])/\Hp.HeapX nearP y.2 y.1) (fun (y:Nat × List Rch)=>y.1) ((hs2.length,hs2++[⟨g.frm,r.far+g.cost⟩])) (⟨by simp,.refl _,Hp.heapX_snoc hh2 _⟩) ?_;(conv=>whnf);refine⟨by ((conv=>whnf);first|rfl|(simp[envCat,tkL0,Eg.row,irow,Rch.row];done)|(simp[envCat,tkL0,Eg.row,irow,Rch.row];rw[IntKind.wrap_i64];omega)),?_⟩
               rintro⟨i,us⟩ ⟨hi,hup,hux⟩
               dsimp only at hi hup hux ⊢
               have husl:(us.map Rch.row).length=us.length:=by simp
               have husp:us.length=hs2.length+1:=by rw[hup.length_eq];simp
               obtain⟨a,ha⟩:∃ a,us[i]? = some a:=⟨_,gEt0 hi⟩
               by_cases hi0:0<i
               . obtain⟨u,hu⟩:∃ u,u=(i - 1) / 2:=⟨_,rfl⟩
                 have htd:IntKind.i64.wrap (((i:Int) - 1).tdiv 2)=(u:Int):=by
                  rw[Int.tdiv_eq_ediv_of_nonneg (by omega),IntKind.wrap_i64]
                  omega
                 obtain⟨b,hb⟩:∃ b,us[u]? = some b:=⟨_,gEt0 (by omega)⟩
                 have hne:i ≠ u:=by omega
                 have hb':(us.set i b)[u]? = some b:=by rw[List.getElem?_set_ne hne];exact hb
                 have hsl1:((us.set i b).map Rch.row).length=us.length:=by simp
                 (try (conv=>whnf));repeat' (first|refine Ok.seq ?_|((first|refine Ok.region tok ?_|refine Ok.region_plan (id:=6) tok follows [(3,25,[]),(8,25,[]),(13,25,[]),(16,25,[]),(20,25,[]),(23,25,[]),(3,27,[]),(8,27,[]),(13,27,[]),(16,27,[]),(20,27,[]),(23,27,[]),(25,27,[])] [.q 0,.q 1,.q 2,.q 3,.q 4,.q 5,.q 6,.q 7,.q 8,.q 9,.q 10,.q 11,.q 12,.q 13,.q 14,.q 15,.q 16,.q 17,.q 18,.q 19,.q 20,.q 21,.q 22,.q 23,.q 24,.l 25,.q 26,.l 27] (by kernel_rfl) ?_|refine⟨_,(htd).symm,?_⟩|refine Ok.region_draw tok follows (by kernel_rfl) ?_|refine Ok.cond ?_);conv=>whnf)|refine Ok.block ?_|((first|refine Ok.skip ?_|refine Ok.ret ?_|refine nI ?_|refine⟨_,nearer_spec _ _ a b,rfl,?_⟩|refine rd rfl (by assumption) ?_);conv=>whnf)|(refine bI ?_ ?_<;>intro<;>(conv=>whnf)<;>(try (exfalso;omega)))|(refine aJ ?_;conv=>whnf)|fail)
                 . rename_i h3
                   refine⟨us,⟨.inr rfl,hup,Hp.heapX_stop hux ha (by rw[<- hu];exact hb) h3⟩,?_⟩
                   (conv=>whnf);(first|rfl|simp[envCat,tkL0,Eg.row,irow,Rch.row])
                 . rename_i h3
                   have h3:nearP a b:=Classical.not_not.1 h3
                   refine st b ha (by simp[Rch.row]) (by simp[setCells,Rch.row]) ?_
                   (try (conv=>whnf));repeat' (first|(refine aJ ?_;conv=>whnf)|fail)
                   refine st a hb' (by simp[Rch.row]) (by simp[setCells,Rch.row]) ?_
                   (try (conv=>whnf));repeat' (first|(refine Ok.region tok ?_;conv=>whnf)|fail)
                   refine⟨(u,Hp.swp us i u a b),by dsimp only;omega,⟨by rw[Hp.swp_length];dsimp only;omega,(Hp.swp_perm ha hb hne).trans hup,by dsimp only;rw[hu] at hb ⊢;exact Hp.heapX_up near_swo hux hi0 ha hb h3⟩,?_⟩
                   (conv=>whnf);simp[envCat,Hp.swp]
               . have hi0:i=0:=by omega
                 subst hi0
                 (try (conv=>whnf));repeat' (first|refine Ok.seq ?_|((first|refine Ok.region tok ?_|refine Ok.cond ?_|refine Ok.exit ?_);conv=>whnf)|(refine bI ?_ ?_<;>intro<;>(conv=>whnf)<;>(try (exfalso;omega)))|fail)
                 refine⟨us,⟨.inl rfl,hup,Hp.heapX_zero hux⟩,?_⟩
                 (conv=>whnf);(first|rfl|simp[envCat,tkL0,Eg.row,irow,Rch.row])
             . rintro ex zs ⟨hex,hp2,hh3⟩
               rcases hex with rfl|rfl
               all_goals
                (try (conv=>whnf));repeat' (first|((first|refine Ok.region tok ?_|refine nI ?_);conv=>whnf)|fail)
                refine⟨(k+1,zs),by dsimp only;omega,⟨by dsimp only;omega,hd3.push htop hrat hf0 he e5 e1 e2 a hy (hp2.trans List.perm_append_comm),hh3,fun s hs=>?_,?_⟩,?_⟩
                . rcases mAp0.1 (hp2.subset hs) with hs|hs
                  . exact hbd2 s hs
                  . simp at hs;subst hs;dsimp only;omega
                . have:=hp2.length_eq;simp at this;dsimp only;omega
                . (conv=>whnf);(first|rfl|simp[envCat,tkL0,Eg.row,irow,Rch.row])
           . rename_i a b
             refine⟨(k+1,hs2),by dsimp only;omega,⟨by dsimp only;omega,hd3.pass htop hrat he e5 (fun _=>⟨y,hy,by omega⟩),hh2,hbd2,by dsimp only;omega⟩,?_⟩
             (conv=>whnf);(first|rfl|simp[envCat,tkL0,Eg.row,irow,Rch.row])
           . rename_i a
             refine⟨(k+1,hs2),by dsimp only;omega,⟨by dsimp only;omega,hd3.pass htop hrat he e5 (fun h=>absurd h a),hh2,hbd2,by dsimp only;omega⟩,?_⟩
             (conv=>whnf);(first|rfl|simp[envCat,tkL0,Eg.row,irow,Rch.row])
         . obtain rfl:k=es.length:=by omega
           (try (conv=>whnf));repeat' (first|refine Ok.seq ?_|((first|refine Ok.region tok ?_|refine Ok.cond ?_|refine Ok.exit ?_);conv=>whnf)|(refine bI ?_ ?_<;>intro<;>(conv=>whnf)<;>(try (exfalso;omega)))|fail)
           refine⟨(far2,hs2),by dsimp only;omega,⟨hd3.weaken (fun i e hi _ _=>(gSm0.1 hi).1),hh2,hbd2,by dsimp only;omega,hfb2⟩,?_⟩
           (conv=>whnf);(first|rfl|simp[envCat,tkL0,Eg.row,irow,Rch.row])
       . (try (conv=>whnf));repeat' (first|refine Ok.seq ?_|((first|refine Ok.region tok ?_|refine Ok.cond ?_|refine Ok.exit ?_|refine rd rfl (by assumption) ?_);conv=>whnf)|(refine bI ?_ ?_<;>intro<;>(conv=>whnf)<;>(try (exfalso;omega)))|(refine aJ ?_;conv=>whnf)|fail)
         refine⟨(far,hs'),by dsimp only;omega,⟨hdij.skip hp.symm hx hx0,hh',fun s hs=>hbd s (hp.subset (by simp[hs])),by dsimp only;omega,hfb⟩,?_⟩
         (conv=>whnf);(first|rfl|simp[envCat,tkL0,Eg.row,irow,Rch.row])
   . have hnil:hs=[]:=List.eq_nil_of_length_eq_zero (by omega)
     subst hnil
     (try (conv=>whnf));repeat' (first|refine Ok.seq ?_|((first|refine Ok.region tok ?_|refine Ok.cond ?_|refine Ok.exit ?_);conv=>whnf)|(refine bI ?_ ?_<;>intro<;>(conv=>whnf)<;>(try (exfalso;omega)))|fail)
     refine⟨far,⟨rfl,hdij.dist,fun v x hv=>by have:=hfb v x hv;omega⟩,?_⟩
     (conv=>whnf);(first|rfl|simp[envCat,tkL0,Eg.row,irow,Rch.row])
 clear hh hp hdij
 rintro e far ⟨rfl,hdist,hfb⟩
 have hfl:(far.map irow).length=N:=by simp[hdist.len]
 (try (conv=>whnf));repeat' (first|refine Ok.seq ?_|(refine Ok.region tok ?_;conv=>whnf)|refine Ok.block ?_|fail)
 refine Ok.loopU [10,11,102,103] [104] 4 0 (fun (x:List Int × Nat)=>[.i .i64 (x.2:Nat)]) (fun _ b=>b) (fun (x:List Int × Nat) (_:Vx.Rows)=>[none,none,some (3,far.map irow),some (3,x.1.map irow)]) (fun (x:List Int × Nat)=>x.2<=es.length/\IsFirst N es far x.1 0 x.2) (fun (x:List Int × Nat)=>es.length - x.2) ((List.replicate N (-1),0)) (⟨Nat.zero_le _,by simp,fun v p hv=>.inl ⟨by simp[List.getElem?_replicate] at hv;omega,fun i _ h=>by dsimp only at h;omega⟩⟩) ?_;(conv=>whnf);refine⟨by ((conv=>whnf);first|rfl|(simp[envCat,tkL0,Eg.row,irow,Rch.row];done)|(simp[envCat,tkL0,Eg.row,irow,Rch.row];rw[IntKind.wrap_i64];omega)),?_⟩
 rintro⟨f,k⟩ ⟨hk,hf⟩
 dsimp only at hk hf ⊢
 have hffl:(f.map irow).length=N:=by simp[hf.1]
 by_cases hke:k<es.length
 . obtain⟨g,he⟩:∃ e,es[k]? = some e:=⟨_,gEt0 hke⟩
   obtain⟨e1,e2,e3,e4,e5,e6,_,_⟩:=hE g (mOf0 he)
   obtain⟨x,hx⟩:∃ y,far[g.frm.toNat]? = some y:=⟨_,gEt0 (by rw[hdist.len];omega)⟩
   obtain⟨y,hy⟩:∃ y,far[g.dst.toNat]? = some y:=⟨_,gEt0 (by rw[hdist.len];omega)⟩
   obtain⟨p,hp⟩:∃ y,f[g.frm.toNat]? = some y:=⟨_,gEt0 (by rw[hf.1];omega)⟩
   have hTi:Ti es far k g.frm.toNat ↔ 0<=y/\x=y+g.cost:=by
    constructor
    . rintro⟨e',x',y',h1,h2,h3,h4,h5,h6⟩
      rw[he] at h1;cases h1
      rw[hy] at h3;cases h3
      rw[hx] at h5;cases h5
      exact⟨h4,h6⟩
    . rintro⟨h1,h2⟩
      exact⟨g,x,y,he,rfl,hy,h1,hx,h2⟩
   have hTo:∀ v,v ≠ g.frm.toNat->¬ Ti es far k v:=by
    rintro v hv ⟨e',x',y',h1,h2,_⟩
    rw[he] at h1;cases h1
    exact hv h2.symm
   have hbound:y<=160000:=hfb _ y hy
   have hlow:-1<=y:=by rcases hdist.low _ y hy with h|h<;>omega
   have hskip:(¬ (0<=y/\x=y+g.cost)\/0<=p)->IsFirst N es far f 0 (k+1):=fun hc=>⟨hf.1,fun v q hv=>(hf.2 v q hv).skipR (by
    by_cases hvg:v=g.frm.toNat
    . subst hvg
      rw[hp] at hv;cases hv
      rcases hc with hc|hc
      . exact .inl fun h=>hc (hTi.1 h)
      . exact .inr hc
    . exact .inl (hTo v hvg))⟩
   have htake:0<=y->x=y+g.cost->p<0->IsFirst N es far (f.set g.frm.toNat (k:Int)) 0 (k+1):=fun h1 h2 h3=>⟨by simp[hf.1],fun v q hv=>by
    by_cases hvg:v=g.frm.toNat
    . subst hvg
      rw[List.getElem?_set_self (by rw[hf.1];omega)] at hv
      cases hv
      exact (hf.2 _ p hp).takeR h3 (Nat.zero_le _) (hTi.2 ⟨h1,h2⟩)
    . rw[List.getElem?_set_ne (Ne.symm hvg)] at hv
      exact (hf.2 v q hv).skipR (.inl (hTo v hvg))⟩
   (try (conv=>whnf));repeat' (first|refine Ok.seq ?_|((first|refine Ok.region tok ?_|refine Ok.region_draw tok follows (by kernel_rfl) ?_|refine Ok.cond ?_);conv=>whnf)|refine Ok.block ?_|((first|refine Ok.skip ?_|refine nI ?_|refine ix _ (by assumption) ?_|refine rd rfl (by assumption) ?_);conv=>whnf)|(refine bI ?_ ?_<;>intro<;>(conv=>whnf)<;>(try (exfalso;omega)))|(refine aJ ?_;conv=>whnf)|fail)
   . refine st (k:Int) hp (by simp[irow]) (by simp[setCells,irow]) ?_
     (try (conv=>whnf));repeat' (first|((first|refine Ok.region tok ?_|refine nI ?_);conv=>whnf)|fail)
     refine⟨(f.set g.frm.toNat (k:Int),k+1),by dsimp only;omega,⟨by dsimp only;omega,htake (by omega) (by omega) (by omega)⟩,?_⟩
     (conv=>whnf);(first|rfl|simp[envCat,tkL0,Eg.row,irow,Rch.row])
   all_goals
    refine⟨(f,k+1),by dsimp only;omega,⟨by dsimp only;omega,hskip (by omega)⟩,?_⟩
    (conv=>whnf);(first|rfl|simp[envCat,tkL0,Eg.row,irow,Rch.row])
 . obtain rfl:k=es.length:=by omega
   (try (conv=>whnf));repeat' (first|refine Ok.seq ?_|((first|refine Ok.region tok ?_|refine Ok.cond ?_|refine Ok.exit ?_|refine Ok.ret ?_);conv=>whnf)|(refine bI ?_ ?_<;>intro<;>(conv=>whnf)<;>(try (exfalso;omega)))|fail)
   refine Or.inr (Or.inl ?_);(conv=>whnf)
   have h2:farE (N:Int) es ds=far:=by unfold farE;rw[if_neg (by omega),Int.toNat_natCast];exact distF_eq hc1 hdist
   have h3:fstE (N:Int) es ds=f:=by unfold fstE;rw[if_neg (by omega),Int.toNat_natCast,distF_eq hc1 hdist];exact firF_eq hf
   rw[h2,h3,h1]
   simp[oneD,hdist.len,hf.1]
end Go.Proofs.YtnlingegeangmaaGreatDoor
namespace Go.Proofs.YtnlingegeangmaaGreatDoor
open Go Go.Vx
theorem least_far:∀ (hs:List Rch),hs ≠ []->∃ r ∈ hs,∀ s ∈ hs,r.far<=s.far
 | [],h=>absurd rfl h
 | [a],_=>⟨a,by simp,by simp⟩
 | a :: b :: hs,_=>by
  obtain⟨r,hr,hm⟩:=least_far (b :: hs) (by simp)
  by_cases h:a.far<=r.far
  . refine⟨a,by simp,fun s hs'=>?_⟩
    rcases List.mem_cons.1 hs' with rfl|hs'
    . omega
    . have:=hm s hs';omega
  . refine⟨r,List.mem_cons_of_mem _ hr,fun s hs'=>?_⟩
    rcases List.mem_cons.1 hs' with rfl|hs'
    . omega
    . exact hm s hs'
theorem push_all{n:Nat}{es:List Eg}{ds far:List Int}{r:Rch}(hE:∀ e ∈ es,okE n e)(htop:∀ (v:Nat) x,far[v]? = some x->0<=x->x<=r.far)(hr:far[r.node.toNat]? = some r.far)(hr0:0<=r.far)(hlen:far.length=n)(hlow:∀ (v:Nat) x,far[v]? = some x->x=-1\/0<=x) :
    ∀ (j k:Nat) (hs:List Rch),k+j=es.length->Dij n es ds far hs (fun i e=>e.dst=r.node->i<k)->∃ hs',hs'.length<=hs.length+j/\Dij n es ds far hs' (fun _ _=>True)
 | 0,k,hs,hk,h=>⟨hs,Nat.le_refl _,h.weaken fun i e hi _ _=>by have:=(gSm0.1 hi).1;omega⟩
 | j+1,k,hs,hk,h=>by
  obtain⟨e,he⟩:∃ e,es[k]? = some e:=⟨_,gEt0 (by omega)⟩
  obtain⟨e1,e2,e3,e4,e5,e6,_,_⟩:=hE e (mOf0 he)
  obtain⟨y,hy⟩:∃ y,far[e.frm.toNat]? = some y:=⟨_,gEt0 (by omega)⟩
  by_cases hc:e.dst=r.node/\y=-1
  . obtain⟨hc,rfl⟩:=hc
    obtain⟨hs',h1,h2⟩:=push_all hE htop hr hr0 hlen hlow j (k+1) _ (by omega) (h.push htop hr hr0 he e5 e1 e2 hc hy (.refl _))
    exact⟨hs',by simp at h1;omega,h2⟩
  . obtain⟨hs',h1,h2⟩:=push_all hE htop hr hr0 hlen hlow j (k+1) hs (by omega) (h.pass htop hr he e5 fun ht=>⟨y,hy,by rcases hlow _ y hy with h|h;exact absurd ⟨ht,h⟩ hc;exact h⟩)
    exact⟨hs',by omega,h2⟩
theorem dij_run{n:Nat}{es:List Eg}{ds:List Int}(hE:∀ e ∈ es,okE n e)(hD:∀ d ∈ ds,okD n d):∀ (m:Nat) (far:List Int) (hs:List Rch),hs.length+unf far*(es.length+1)<=m->Dij n es ds far hs (fun _ _=>True)->∃ f,IsDist n es ds f
 | m,far,[],_,h=>⟨far,h.dist⟩
 | 0,far,a :: hs,hm,h=>by simp at hm
 | m+1,far,a :: hs,hm,h=>by
  obtain⟨r,hr,hmin⟩:=least_far (a :: hs) (by simp)
  obtain⟨us,ws,hus⟩:=List.append_of_mem hr
  have hp:(a :: hs).Perm (r :: (us++ws)):=by rw[hus];exact List.perm_middle
  have hl:=hp.length_eq
  simp only[List.length_cons] at hl
  obtain⟨hn0,hn1,hf0⟩:=h.hin r hr
  obtain⟨x,hx⟩:∃ x,far[r.node.toNat]? = some x:=⟨_,gEt0 (by rw[h.len];omega)⟩
  rcases h.low _ _ hx with rfl|hx0
  . obtain⟨hd2,htop⟩:=Dij.take (fun e he=>⟨(hE e he).1,(hE e he).2.2.1⟩) (fun d h=>(hD d h).1) h hp hmin hx
    have hunf:=unf_set far r.node.toNat r.far hx hf0
    have hmul:unf far*(es.length+1)=unf (far.set r.node.toNat r.far)*(es.length+1)+(es.length+1):=by rw[<- hunf,Nat.add_mul,Nat.one_mul]
    obtain⟨hs',h1,h2⟩:=push_all hE htop (List.getElem?_set_self (by rw[h.len];omega)) hf0 hd2.len hd2.low es.length 0 _ (by omega) (hd2.weaken fun i e _ hh ht=>absurd (hh ht) (Nat.not_lt_zero _))
    exact dij_run hE hD m _ hs' (by simp at hm;omega) h2
  . exact dij_run hE hD m far (us++ws) (by simp at hm ⊢;simp at hl;omega) (h.skip hp hx hx0)
theorem dist_ex{n:Nat}{es:List Eg}{ds:List Int}(hE:∀ e ∈ es,okE n e)(hD:∀ d ∈ ds,okD n d):∃ f,IsDist n es ds f:=
 dij_run hE hD _ _ _ (Nat.le_refl _) (Dij.start (hs:=ds.map fun d=>⟨d,0⟩) (fun d hd=>hD d hd) (.refl _))
def rank(g:List Int)(y:Int):Nat:=g.countP fun z=>decide (0<=z/\z<y)
theorem rank_lt{g:List Int}{v:Nat}{z y:Int}(hz:g[v]? = some z)(h0:0<=z)(h:z<y):rank g z<rank g y:=by
 unfold rank
 rw[count_lt (fun x _ hx=>by simp only[decide_eq_true_eq] at hx ⊢;omega)]
 exact⟨z,mOf0 hz,by simp only[decide_eq_true_eq];omega,by simp⟩
theorem rank_le(g:List Int)(v:Nat)(y:Int)(hv:g[v]? = some y):rank g y<g.length:=by
 unfold rank
 have h:=(count_lt (p:=fun z=>decide (0<=z/\z<y)) (s:=fun _=>true) (l:=g) (fun _ _ _=>rfl)).2 ⟨y,mOf0 hv,rfl,by simp⟩
 simpa using h
theorem firstOf_ex(es:List Eg)(far:List Int)(v:Nat):∀ hi,∃ p,FirstOf es far 0 hi v p
 | 0=>⟨-1,.inl ⟨rfl,fun i _ h=>by omega⟩⟩
 | hi+1=>by
  obtain⟨p,hp⟩:=firstOf_ex es far v hi
  by_cases h:¬ Ti es far hi v\/0<=p
  . exact⟨p,hp.skipR h⟩
  . exact⟨hi,hp.takeR (by omega) (Nat.zero_le _) (Classical.not_not.1 fun h'=>h (.inl h'))⟩
theorem isFirst_ex(n:Nat)(es:List Eg)(far:List Int):∃ f,IsFirst n es far f 0 es.length:=by
 refine⟨(List.range n).map fun v=>(firstOf_ex es far v es.length).choose,by simp,fun v p hv=>?_⟩
 rw[gMp0] at hv
 by_cases h:v<n
 . rw[List.getElem?_range h] at hv
   cases hv
   exact (firstOf_ex es far v es.length).choose_spec
 . rw[List.getElem?_eq_none (by simp;omega)] at hv
   cases hv
theorem short_ok{n:Int}{es:List Eg}{ds:List Int}(h:graphE n es ds=0):∃ (N:Nat) (far fst:List Int),n=(N:Int)/\IsDist N es ds far/\IsFirst N es far fst 0 es.length/\farE n es ds=far/\fstE n es ds=fst:=by
 obtain⟨g1,g2,g3,g4,hE,hD⟩:=graphE_ok h
 obtain⟨N,rfl⟩:=Int.eq_ofNat_of_zero_le (show 0<=n by omega)
 obtain⟨far,hg⟩:=dist_ex hE hD
 obtain⟨fst,hf⟩:=isFirst_ex N es far
 have hc1:∀ e ∈ es,1<=e.cost:=fun e he=>(hE e he).2.2.2.2.1
 refine⟨N,far,fst,rfl,hg,hf,?_,?_⟩
 . unfold farE;rw[if_neg (by omega),Int.toNat_natCast];exact distF_eq hc1 hg
 . unfold fstE;rw[if_neg (by omega),Int.toNat_natCast,distF_eq hc1 hg];exact firF_eq hf
end Go.Proofs.YtnlingegeangmaaGreatDoor
namespace Go.Proofs.YtnlingegeangmaaGreatDoor
open Go Go.Vx
def fE(o:Option Eg):D:=.agg (o.getD ⟨0,0,0,0⟩).row
theorem mtIE:MTy Tryz.prog 214 (D.i .i64) fE:=by
 refine⟨⟨3,122,Tryz.underlying214,keyI Tryz.underlying3,fun w=>?_⟩,fun o=>rfl⟩
 kernel_rfl
theorem boxAt_of{c:ConfigB}{s:Str}(hs:s ∈ fullsL c.boxes):∃ p:Prt,(prtsN 0 c.boxes)[(plc (fullsL c.boxes) s).toNat]? = some p/\boxAt c (plc (fullsL c.boxes) s)=(p.box:Int):=by
 have h2:=plc_lt (fullsL c.boxes) s
 have h1:=(plc_at hs).1
 have hl:(prtsN 0 c.boxes).length=(fullsL c.boxes).length:=by rw[<- prtsN_names 0,lMp0]
 have hk:(plc (fullsL c.boxes) s).toNat<(prtsN 0 c.boxes).length:=by omega
 refine⟨_,gEt0 hk,?_⟩
 unfold boxAt
 rw[gEt0 hk]
 rfl
theorem medges_ok(c:Config)(hc:c.Ok)(ht:c.Tx)(h0:(checkO c.b).1=0) :
    FSpecH Tryz.prog T [] 85 [.agg c.row] (fun d rows M=>(d = .tup [.own 0 (egsF c.b).length,.i .i64 0]/\rows=[some (122,(egsF c.b).map Eg.row)])/\M=[]):=by
 have hck:=mcheck_at word_ok itoa_ok c hc ht
 rw[h0] at hck
 obtain⟨_,h1,h2,_,h4,_⟩:=check_parts h0
 have hpn:(fullsL c.b.boxes).length<=48:=by rw[fullsL_len];exact (count_ok h1).2.1
 have hlk:=(count_ok h1).2.2.1
 have hnum:=numbered_at c hc (tx_names ht) (by omega)
 have hpr:((plcs c.b.boxes).map plRow).length=(plcs c.b.boxes).length:=by simp
 have hll:(c.links.l.map Link.row).length=c.links.l.length:=by simp
 have hL:=hc.links
 have hpl:(plcs c.b.boxes).length=(fullsL c.b.boxes).length:=by rw[plcs_eq,lMp0,<- prtsN_names 0,lMp0]
 refine FSpecH.of_ok0 tok Tryz.func85 rfl Tryz.call85 (by simp) ?_
 (try (conv=>whnf));repeat' (first|(refine⟨_,_,_,_,_,mtIE,fun _ _=>?_⟩;conv=>whnf)|(refine Or.inr (Or.inl ?_);(conv=>whnf);(repeat (refine aI ?_;conv=>whnf));refine⟨_,hnum , ?_⟩;rintro _ _ _ ⟨gn,lst,cn,rfl,rfl,rfl,hnm,hwf,hky⟩<;>(conv=>whnf))|refine OkM.seq ?_|((first|refine OkM.region tok ?_|refine OkM.cond ?_);conv=>whnf)|refine OkM.block ?_|(refine OkM.skip ?_;conv=>whnf)|(refine Or.inl ?_;(conv=>whnf);refine Or.inl ?_;(conv=>whnf);(repeat (refine aI ?_;conv=>whnf));refine⟨_,hck,rfl,?_⟩;conv=>whnf)|(refine bI ?_ ?_<;>intro<;>(conv=>whnf)<;>(try (exfalso;omega)))|fail)
 rename_i gb hgb
 have hN:NumOk c.b lst:=⟨fulls_nodup h2,hnm,hky⟩
 have hat:∀ s,s ∈ fullsL c.b.boxes->∃ p:Prt,((plcs c.b.boxes).map plRow)[((lk lst s).getD 0).toNat]? = some (plRow (p.box,p.inn))/\boxAt c.b (plc (fullsL c.b.boxes) s)=(p.box:Int)/\(lk lst s).getD 0=plc (fullsL c.b.boxes) s/\0<=(lk lst s).getD 0/\(lk lst s).getD 0<((plcs c.b.boxes).length:Nat):=by
  intro s hs
  obtain⟨_,_,e1,_⟩:=hN.some hs
  obtain⟨p,hp,hb⟩:=boxAt_of hs
  obtain⟨g0,_⟩:=plc_at hs
  have g2:=plc_lt (fullsL c.b.boxes) s
  rw[e1]
  simp only[Option.getD_some]
  refine⟨p,?_,hb,trivial,g0,by omega⟩
  rw[plcs_eq,List.map_map,gMp0,hp]
  rfl
 refine OkM.loopU [6,7,8,32,33] [34] 1 1 (fun (x:Nat × List (Int × Eg × Nat) × Nat)=>[.i .i64 (x.1:Nat)]) (fun (x:Nat × List (Int × Eg × Nat) × Nat) (_:List (List D))=>[c.row]) (fun (x:Nat × List (Int × Eg × Nat) × Nat) (_:Vx.Rows)=>[some (211,(plcs c.b.boxes).map plRow)]) (fun (x:Nat × List (Int × Eg × Nat) × Nat)=>[(gb,mObj (D.i .i64) fE x.2.1 x.2.2),(gn,mObj D.s fI lst cn)]) (fun (x:Nat × List (Int × Eg × Nat) × Nat)=>x.1<=c.links.l.length/\∀ k,lk x.2.1 k=egLast c.b (c.b.links.take x.1) k) (fun (x:Nat × List (Int × Eg × Nat) × Nat)=>c.links.l.length - x.1) ((0,[],0)) (⟨Nat.zero_le _,fun k=>rfl⟩) (by first|exact .refl _|exact .cons _ (.refl _)|exact List.nil_sublist _) ?_;(conv=>whnf);refine⟨by ((conv=>whnf);first|rfl|(simp[envCat, tkL0, SI.row, Node.row, Pfx.row, Link.row, srow, Line.row, Rule.row, Box.row, Slc.row, Config.row, plRow, Eg.row];done)|(simp[envCat, tkL0, SI.row, Node.row, Pfx.row, Link.row, srow, Line.row, Rule.row, Box.row, Slc.row, Config.row, plRow, Eg.row];rw[IntKind.wrap_i64];omega)),?_⟩
 rintro⟨n,lb,cb⟩ ⟨hn,hlb⟩
 dsimp only at hn hlb ⊢
 (conv=>whnf)
 by_cases hlt:n<c.links.l.length
 . obtain⟨x,hx⟩:∃ x,c.links.l[n]? = some x:=⟨_,gEt0 hlt⟩
   have hxI:c.links.l[((n:Nat):Int).toNat]? = some x:=hx
   have hxr:(c.links.l.map Link.row)[((n:Nat):Int).toNat]? = some x.row:=by rw[gMp0,hxI];rfl
   obtain⟨hxf,hxt⟩:=link_known h4 (mOf0 hx)
   obtain⟨p,f1,f2,f3,f4,f5⟩:=hat x.frm hxf
   obtain⟨q,t1,t2,t3,t4,t5⟩:=hat x.dst hxt
   have heg:D.agg [.i .i64 (p.box:Nat),.i .i64 (q.box:Nat),.i .i64 x.cost,.i .i64 ((lk lst x.frm).getD 0)]=fE (some (egOf c.b x)):=by
    unfold fE egOf Eg.row
    simp only[Option.getD_some,f2,f3,t2]
   (try (conv=>whnf));repeat' (first|((first|refine⟨_,_,_,_,_,_,_,0,_,egOf c.b x,mtIE,rfl,rfl,heg,?_⟩|refine⟨_,_,_,_,_,_,_,_,mtSI,(by first|exact .head _|exact .tail _ (.head _)|exact .tail _ (.tail _ (.head _))|exact .tail _ (.tail _ (.tail _ (.head _)))|exact List.mem_append_left _ (by assumption)),rfl,?_⟩);conv=>whnf)|refine OkM.seq ?_|((first|refine OkM.region tok ?_|refine OkM.region_tree (id:=9) tok follows [(2,3,[]),(6,7,[])] (.q 0 (.q 1 (.q 2 (.q 4 (.q 5 (.q 6 (.alt 3 (.q 8 (.l 7 (.q 9 .nil))) (.alt 7 (.l 3 (.q 8 (.q 9 .nil))) .nil)))))))) (by kernel_rfl) ?_|refine OkM.region_tree (id:=10) tok follows [(6,16,[]),(11,16,[]),(13,16,[])] (.q 0 (.q 1 (.q 2 (.q 3 (.q 4 (.q 5 (.q 6 (.q 7 (.q 8 (.q 9 (.q 10 (.q 11 (.q 12 (.q 13 (.q 14 (.q 15 (.l 16 .nil))))))))))))))))) (by kernel_rfl) ?_|refine OkM.cond ?_);conv=>whnf)|refine OkM.block ?_|((first|refine OkM.skip ?_|refine nI ?_|refine ix _ (by assumption) ?_|refine⟨_,by assumption,?_⟩);conv=>whnf)|(refine bI ?_ ?_<;>intro<;>(conv=>whnf)<;>(try (exfalso;omega)))|(refine aJ ?_;conv=>whnf)|(exact True.intro)|(refine And.intro ?_ ?_<;>(conv=>whnf))|fail)
   all_goals
    refine⟨(n+1,(mput lb cb ((lk lst x.frm).getD 0) (egOf c.b x)).1,(mput lb cb ((lk lst x.frm).getD 0) (egOf c.b x)).2),by dsimp only;omega,⟨by dsimp only;omega,fun k=>?_⟩,List.Sublist.refl _,?_⟩
    . dsimp only
      rw[mput_lk,egLast_succ (l:=c.b.links) (x:=x) hx k,hlb,f3]
    . (conv=>whnf)
      rfl
 . obtain rfl:n=c.links.l.length:=by omega
   have htl:c.b.links.take c.links.l.length=c.b.links:=tkL0 (Nat.le_refl _)
   rw[htl] at hlb
   (try (conv=>whnf));repeat' (first|refine OkM.seq ?_|((first|refine OkM.region tok ?_|refine OkM.cond ?_);conv=>whnf)|refine OkM.block ?_|(refine OkM.exit ?_;conv=>whnf)|(refine bI ?_ ?_<;>intro<;>(conv=>whnf)<;>(try (exfalso;omega)))|fail)
   refine OkM.ghost 13 122 rfl ?_
   (conv=>whnf)
   have hel:∀ k:Nat,k<=(plcs c.b.boxes).length->(egsL c.b k).length<=2304:=fun k hk=>by have:=egsL_len (c:=c.b) hlk k;omega
   refine OkM.loopU [8,64] [13,65] 2 1 (fun (k:Nat)=>[.own 1 (egsL c.b k).length,.i .i64 (k:Nat)]) (fun (k:Nat) (_:List (List D))=>[c.row]) (fun (k:Nat) (_:Vx.Rows)=>[some (211,(plcs c.b.boxes).map plRow),some (122,(egsL c.b k).map Eg.row)]) (fun (k:Nat)=>[(gb,mObj (D.i .i64) fE lb cb),(gn,mObj D.s fI lst cn)]) (fun (k:Nat)=>k<=(plcs c.b.boxes).length) (fun (k:Nat)=>(plcs c.b.boxes).length - k) (0) (Nat.zero_le _) (by first|exact .refl _|exact .cons _ (.refl _)|exact List.nil_sublist _) ?_;(conv=>whnf);refine⟨by ((conv=>whnf);first|rfl|(simp[envCat, tkL0, SI.row, Node.row, Pfx.row, Link.row, srow, Line.row, Rule.row, Box.row, Slc.row, Config.row, plRow, Eg.row];done)|(simp[envCat, tkL0, SI.row, Node.row, Pfx.row, Link.row, srow, Line.row, Rule.row, Box.row, Slc.row, Config.row, plRow, Eg.row];rw[IntKind.wrap_i64];omega)),?_⟩
   rintro k hk
   (conv=>whnf)
   have hem:((egsL c.b k).map Eg.row).length=(egsL c.b k).length:=by simp
   have hek:=hel k hk
   by_cases hkl:k<(plcs c.b.boxes).length
   . have hlbk:=hlb k
     cases he:egLast c.b c.b.links k with
     | none=>
      rw[he] at hlbk
      have hes:egsL c.b (k+1)=egsL c.b k:=by rw[egsL_succ,egAt_last h4,he];simp
      (try (conv=>whnf));repeat' (first|(refine⟨_,_,_,_,_,_,_,_,mtIE,(by first|exact .head _|exact .tail _ (.head _)|exact .tail _ (.tail _ (.head _))|exact .tail _ (.tail _ (.tail _ (.head _)))|exact List.mem_append_left _ (by assumption)),rfl,?_⟩;conv=>whnf)|refine OkM.seq ?_|((first|refine OkM.region tok ?_|refine OkM.cond ?_);conv=>whnf)|refine OkM.block ?_|((first|refine OkM.skip ?_|refine nI ?_|refine Alt2.l (aI ?_)|refine⟨_,.inl ⟨rfl,rfl⟩,?_⟩|refine⟨_,_,rfl,rfl,?_⟩);conv=>whnf)|(refine bI ?_ ?_<;>intro<;>(conv=>whnf)<;>(try (exfalso;omega)))|(refine aJ ?_;conv=>whnf)|fail)
      all_goals first
       | (exfalso;rename_i hx;rw[hlbk] at hx;cases hx;done)
       | (refine⟨k+1,by omega,by omega,List.Sublist.refl _,?_⟩
          rw[hes]
          (conv=>whnf)
          rfl)
     | some e=>
      rw[he] at hlbk
      have hes:egsL c.b (k+1)=egsL c.b k++[e]:=by rw[egsL_succ,egAt_last h4,he];simp
      (try (conv=>whnf));repeat' (first|(refine⟨_,_,_,_,_,_,_,_,mtIE,(by first|exact .head _|exact .tail _ (.head _)|exact .tail _ (.tail _ (.head _))|exact .tail _ (.tail _ (.tail _ (.head _)))|exact List.mem_append_left _ (by assumption)),rfl,?_⟩;conv=>whnf)|refine OkM.seq ?_|((first|refine OkM.region tok ?_|refine OkM.cond ?_);conv=>whnf)|refine OkM.block ?_|((first|refine OkM.skip ?_|refine nI ?_|refine Alt2.l (aI ?_)|refine⟨_,.inl ⟨rfl,rfl⟩,?_⟩|refine⟨_,_,rfl,rfl,?_⟩);conv=>whnf)|(refine bI ?_ ?_<;>intro<;>(conv=>whnf)<;>(try (exfalso;omega)))|(refine aJ ?_;conv=>whnf)|fail)
      all_goals first
       | (exfalso;rename_i hx;exact hx (by rw[hlbk];rfl))
       | (refine⟨k+1,by omega,by omega,List.Sublist.refl _,?_⟩
          rw[hes,hlbk]
          (conv=>whnf);(first|rfl|simp[envCat, tkL0, SI.row, Node.row, Pfx.row, Link.row, srow, Line.row, Rule.row, Box.row, Slc.row, Config.row, plRow, Eg.row])
          done)
   . obtain rfl:k=(plcs c.b.boxes).length:=by omega
     (try (conv=>whnf));repeat' (first|refine OkM.seq ?_|((first|refine OkM.region tok ?_|refine OkM.cond ?_|refine OkM.exit ?_|refine OkM.ret ?_);conv=>whnf)|(refine bI ?_ ?_<;>intro<;>(conv=>whnf)<;>(try (exfalso;omega)))|fail)
     refine Or.inr (Or.inl ?_);(conv=>whnf)
     refine⟨?_,?_⟩<;>(rw[hpl];rfl)
end Go.Proofs.YtnlingegeangmaaGreatDoor
namespace Go.Proofs.YtnlingegeangmaaGreatDoor
open Go Go.Vx
theorem lkAt_one{c:ConfigB}(h:(linkO c).1=0){x:Link}(hx:x ∈ c.links):lkAt c c.links (plc (fullsL c.boxes) x.frm)=[x]:=by
 have h1:(lkAt c c.links (plc (fullsL c.boxes) x.frm)).Pairwise fun x y=>plc (fullsL c.boxes) x.frm ≠ plc (fullsL c.boxes) y.frm:=(link_pair h).filter _
 have h2:∀ y ∈ lkAt c c.links (plc (fullsL c.boxes) x.frm),plc (fullsL c.boxes) y.frm=plc (fullsL c.boxes) x.frm:=fun y hy=>by simpa using (List.mem_filter.1 hy).2
 have h3:x ∈ lkAt c c.links (plc (fullsL c.boxes) x.frm):=List.mem_filter.2 ⟨hx,by simp⟩
 generalize lkAt c c.links (plc (fullsL c.boxes) x.frm)=l at h1 h2 h3
 match l with
 | []=>cases h3
 | [y]=>rw[List.mem_singleton.1 h3]
 | y :: z :: l=>exact absurd ((h2 y (by simp)).trans (h2 z (by simp)).symm) ((List.pairwise_cons.1 h1).1 z (by simp))
theorem filter_lt{α:Type}(f:α->Int)(n:Int):∀ l:List α,(l.filter fun x=>decide (f x<n+1)).length=(l.filter fun x=>decide (f x<n)).length+(l.filter fun x=>decide (f x=n)).length
 | []=>rfl
 | x :: l=>by
  have ih:=filter_lt f n l
  simp only[List.filter_cons]
  by_cases h1:f x<n
  . rw[if_pos (by simpa using by omega),if_pos (by simpa using h1),if_neg (by simpa using by omega)]
    simp only[List.length_cons]
    omega
  . by_cases h2:f x=n
    . rw[if_pos (by simpa using by omega),if_neg (by simpa using by omega),if_pos (by simpa using h2)]
      simp only[List.length_cons]
      omega
    . rw[if_neg (by simpa using by omega),if_neg (by simpa using by omega),if_neg (by simpa using h2)]
      exact ih
theorem egsL_count{c:ConfigB}(h:∀ x ∈ c.links,0<=plc (fullsL c.boxes) x.frm):∀ n:Nat,(egsL c n).length=(c.links.filter fun x=>decide (plc (fullsL c.boxes) x.frm<n)).length
 | 0=>by
  rw[show (c.links.filter fun x=>decide (plc (fullsL c.boxes) x.frm<(0:Nat)))=[] from List.filter_eq_nil_iff.2 fun x hx=>by have:=h x hx;simp;omega]
  rfl
 | n+1=>by
  rw[egsL_succ,List.length_append,egsL_count h n]
  have:=filter_lt (fun x:Link=>plc (fullsL c.boxes) x.frm) n c.links
  simp only[egAt,lkAt,lMp0]
  rw[<- this]
  rfl
theorem egsF_len{c:ConfigB}(h:(linkO c).1=0):(egsF c).length=c.links.length:=by
 unfold egsF
 rw[egsL_count fun x hx=>(plc_at (link_known h hx).1).1,List.filter_eq_self.2]
 intro x hx
 have:=plc_lt (fullsL c.boxes) x.frm
 simpa using this
theorem egsL_mem{c:ConfigB}{e:Eg}{n:Nat}(h:e ∈ egsL c n):∃ x ∈ c.links,e=egOf c x/\e.out<n:=by
 simp only[egsL,List.mem_flatMap,List.mem_range,egAt,lkAt,List.mem_map,List.mem_filter,decide_eq_true_eq] at h
 obtain⟨i,hi,x,⟨hx,hp⟩,rfl⟩:=h
 refine⟨x,hx,rfl,?_⟩
 show plc (fullsL c.boxes) x.frm<n
 omega
end Go.Proofs.YtnlingegeangmaaGreatDoor
namespace Go.Proofs.YtnlingegeangmaaGreatDoor
open Go Go.Vx
theorem deed_box{c:ConfigB}(h:(deedO c).1=0){b:BoxB}(hb:b ∈ c.boxes):(firstE (ownE c b) [] b.owns).1=0/\(firstE (routE c b) [] b.routes).1=0:=by
 obtain⟨i,hi⟩:=List.getElem?_of_mem hb
 have h1:=firstE_zero h i b hi
 unfold doesE at h1
 by_cases a1:(firstE (guardE c b) [] b.guards).1=0
 . rw[orE_r _ a1] at h1
   by_cases a2:(firstE (ruleE c b) [] b.rules).1=0
   . rw[orE_r _ a2] at h1
     by_cases a3:(firstE (ownE c b) [] b.owns).1=0
     . rw[orE_r _ a3] at h1
       exact⟨a3,h1⟩
     . rw[orE_l _ a3] at h1;exact absurd h1 a3
   . rw[orE_l _ a2] at h1;exact absurd h1 a2
 . rw[orE_l _ a1] at h1;exact absurd h1 a1
structure PfxOk(c:ConfigB)(b:BoxB)(p:Pfx):Prop where
 l0:0<=p.len
 l1:p.len<=rbits c
 v0:0<=p.value
 v1:p.value<(tw (rbits c).toNat:Int)
 md:p.value % (tw (rbits c - p.len).toNat:Int)=0
 out:p.dst ∈ b.outs
theorem prefI_zero{c:ConfigB}{b:BoxB}{pre:List Pfx}{p:Pfx}(h:prefI c b pre p=0):PfxOk c b p:=by
 unfold prefI at h
 split at h
 . cases h
 split at h
 . cases h
 split at h
 . cases h
 rename_i h1 h2 h3
 refine⟨by omega,by omega,by omega,by omega,by omega,?_⟩
 rw[sidesI_one] at h
 refine Classical.byContradiction fun hn=>?_
 by_cases hi:p.dst ∈ b.ins
 . rw[sideE_side hn hi] at h;cases h
 . rw[sideE_unk hn hi] at h;cases h
theorem told_zero{e:Int}{t:Str}(h:(told e t).1=0):e=0:=by
 unfold told at h
 split at h
 . exact absurd h (by assumption)
 . omega
theorem pfx_ok{c:ConfigB}(h:(deedO c).1=0){b:BoxB}(hb:b ∈ c.boxes){p:Pfx}(hp:p ∈ b.owns\/p ∈ b.routes):PfxOk c b p:=by
 obtain⟨h1,h2⟩:=deed_box h hb
 rcases hp with hp|hp
 . obtain⟨i,hi⟩:=List.getElem?_of_mem hp
   exact prefI_zero (told_zero (firstE_zero h1 i p hi))
 . obtain⟨i,hi⟩:=List.getElem?_of_mem hp
   exact prefI_zero (told_zero (firstE_zero h2 i p hi))
theorem chk_uniqF{all:List Fd}:∀ (r:List Fd) (i:Nat) (sum:Int),r=all.drop i->(chkFrom all r i sum).1=0->∀ (j:Nat) f,i<=j->all[j]? = some f->∀ g ∈ all.take j,g.name ≠ f.name
 | [],i,sum,hr,_,j,f,hj,hf=>by
  have:=(gSm0.1 hf).1
  have h2:(all.drop i).length=0:=by rw[<- hr];rfl
  rw[List.length_drop] at h2
  omega
 | x :: r,i,sum,hr,h,j,f,hj,hf=>by
  have hx:all[i]? = some x:=by
   have:(all.drop i)[0]? = some x:=by rw[<- hr];rfl
   rwa [List.getElem?_drop,Nat.add_zero] at this
  have hr':r=all.drop (i+1):=by
   have:(all.drop i).drop 1=r:=by rw[<- hr];rfl
   rw[<- this,List.drop_drop]
  by_cases hb:badF (all.take i) x sum
  . rw[chkFrom_bad hb] at h;cases h
  . rw[chkFrom_ok hb] at h
    rcases Nat.eq_or_lt_of_le hj with e|e
    . subst e
      rw[hx] at hf
      cases hf
      intro g hg he
      exact hb (.inr (.inr (.inr (.inl ⟨g,hg,he⟩))))
    . exact chk_uniqF r (i+1) _ hr' h j f e hf
theorem fld_uniq{c:ConfigB}(h:HeadOk c){i j:Nat}{f g:SI}(hi:c.fields[i]? = some f)(hj:c.fields[j]? = some g)(he:f.s=g.s):i=j:=by
 have h0:=h.chk
 have h1:(chkFrom (fds c.fields) (fds c.fields) 0 0).1=0:=by
  unfold chkO at h0
  split at h0
  . cases h0
  split at h0
  . cases h0
  rw[h0]
 have key:∀ {i j:Nat} {f g:SI},c.fields[i]? = some f->c.fields[j]? = some g->f.s=g.s->¬ i<j:=by
  intro i j f g hi hj he hlt
  have h2:(fds c.fields)[j]? = some g.fd:=by unfold fds;rw[gMp0,hj];rfl
  have h3:(fds c.fields)[i]? = some f.fd:=by unfold fds;rw[gMp0,hi];rfl
  exact chk_uniqF _ 0 0 rfl h1 j g.fd (Nat.zero_le _) h2 f.fd (mOf0 (by rw[List.getElem?_take_of_lt hlt];exact h3)) he
 rcases Nat.lt_trichotomy i j with h|h|h
 . exact absurd h (key hi hj he)
 . exact h
 . exact absurd h (key hj hi he.symm)
def outN(c:Config)(b:Box)(p:Pfx):Int:=plc (fullsL c.b.boxes) (dot b.name p.dst)
def rtO(c:Config)(b:Box)(k:Int)(p:Pfx):Route:=⟨k,p.value,p.len,outN c b p⟩
def wrtB(c:Config)(b:Box):List Route:=b.owns.l.map (rtO c b 1)++b.routes.l.map (rtO c b 2)
def wrtJ(c:Config)(j:Nat):List Route:=match c.boxes.l[j]? with|some b=>wrtB c b|none=>[]
def wlF(c:Config)(i:Nat)(e:List Route):List (List Route):=(List.range c.boxes.l.length).map fun j=>if j<i then wrtJ c j else if j=i then e else []
theorem wlF_get{c:Config}{i:Nat}(e:List Route)(h:i<c.boxes.l.length):(wlF c i e)[i]? = some e:=by
 unfold wlF
 rw[gMp0,List.getElem?_range h]
 simp
theorem wlF_set{c:Config}{i:Nat}(e e':List Route):(wlF c i e).set i e'=wlF c i e':=by
 unfold wlF
 apply List.ext_getElem?
 intro j
 by_cases hj:i=j
 . subst hj
   by_cases hl:i<c.boxes.l.length
   . rw[List.getElem?_set_self (by simpa using hl),gMp0,List.getElem?_range hl]
     simp
   . rw[List.getElem?_eq_none (by simp;omega),List.getElem?_eq_none (by simp;omega)]
 . rw[List.getElem?_set_ne hj,gMp0,gMp0]
   by_cases hl:j<c.boxes.l.length
   . rw[List.getElem?_range hl]
     simp only[Option.map_some]
     congr 1
     split
     . rfl
     . rw[if_neg (fun e=>hj e.symm),if_neg (fun e=>hj e.symm)]
   . rw[List.getElem?_eq_none (l:=List.range _) (by simp;omega)]
     rfl
theorem wlF_next{c:Config}{i:Nat}{b:Box}(h:c.boxes.l[i]? = some b):wlF c i (wrtB c b)=wlF c (i+1) []:=by
 unfold wlF
 apply List.map_congr_left
 intro j _
 by_cases h1:j<i
 . rw[if_pos h1,if_pos (by omega)]
 . by_cases h2:j=i
   . subst h2
     rw[if_neg h1,if_pos rfl,if_pos (by omega)]
     unfold wrtJ
     rw[h]
   . rw[if_neg h1,if_neg h2,if_neg (by omega)]
     split<;>rfl
theorem wlF_zero(c:Config):wlF c 0 []=List.replicate c.boxes.l.length []:=by
 unfold wlF
 apply List.ext_getElem?
 intro j
 rw[gMp0,List.getElem?_replicate]
 by_cases hl:j<c.boxes.l.length
 . rw[List.getElem?_range hl,if_pos hl]
   simp
 . rw[List.getElem?_eq_none (by simp;omega),if_neg hl]
   rfl
noncomputable def farK(c:Config)(k:Key):List Int:=farE c.boxes.l.length (egsF c.b) (byF (ownN c.boxes.l c.boxes.l.length) k)
noncomputable def fstK(c:Config)(k:Key):List Int:=fstE c.boxes.l.length (egsF c.b) (byF (ownN c.boxes.l c.boxes.l.length) k)
noncomputable def outE(c:Config)(k:Key)(i:Nat):Int:=(((egsF c.b)[(((fstK c k)[i]?).getD 0).toNat]?).map Eg.out).getD 0
noncomputable def cmpR(c:Config)(i:Nat)(k:Key):List Route:=if 0<((farK c k)[i]?).getD 0 then [⟨3,k.1,k.2,outE c k i⟩] else []
noncomputable def rawF(c:Config)(ks:List Key)(n i:Nat):List Route:=wrtJ c i++(ks.take n).flatMap (cmpR c i)
noncomputable def clF(c:Config)(ks:List Key)(n i:Nat):List (List Route):=(List.range c.boxes.l.length).map fun j=>rawF c ks (if j<i then n+1 else n) j
theorem rawF_succ{c:Config}{ks:List Key}{n:Nat}{k:Key}(h:ks[n]? = some k)(i:Nat):rawF c ks (n+1) i=rawF c ks n i++cmpR c i k:=by
 unfold rawF
 rw[List.take_add_one,h]
 simp[List.flatMap_append]
theorem clF_get{c:Config}{ks:List Key}{n i:Nat}(h:i<c.boxes.l.length):(clF c ks n i)[i]? = some (rawF c ks n i):=by
 unfold clF
 rw[gMp0,List.getElem?_range h]
 simp
theorem clF_set{c:Config}{ks:List Key}{n i:Nat}:(clF c ks n i).set i (rawF c ks (n+1) i)=clF c ks n (i+1):=by
 unfold clF
 apply List.ext_getElem?
 intro j
 by_cases hj:i=j
 . subst hj
   by_cases hl:i<c.boxes.l.length
   . rw[List.getElem?_set_self (by simpa using hl),gMp0,List.getElem?_range hl]
     simp
   . rw[List.getElem?_eq_none (by simp;omega),List.getElem?_eq_none (by simp;omega)]
 . rw[List.getElem?_set_ne hj,gMp0,gMp0]
   by_cases hl:j<c.boxes.l.length
   . rw[List.getElem?_range hl]
     simp only[Option.map_some]
     congr 2
     by_cases h1:j<i
     . rw[if_pos h1,if_pos (by omega)]
     . rw[if_neg h1,if_neg (by omega)]
   . rw[List.getElem?_eq_none (l:=List.range _) (by simp;omega)]
     rfl
theorem clF_same{c:Config}{ks:List Key}{n i:Nat}(h:rawF c ks (n+1) i=rawF c ks n i):clF c ks n (i+1)=clF c ks n i:=by
 rw[<- clF_set,h]
 by_cases hl:i<c.boxes.l.length
 . exact lset_self (clF_get hl)
 . apply List.ext_getElem?
   intro j
   by_cases hj:i=j
   . subst hj
     have e:(clF c ks n i).length=c.boxes.l.length:=by unfold clF;simp
     rw[List.getElem?_eq_none (by simp;omega),List.getElem?_eq_none (by omega)]
   . rw[List.getElem?_set_ne hj]
theorem clF_next(c:Config)(ks:List Key)(n:Nat):clF c ks n c.boxes.l.length=clF c ks (n+1) 0:=by
 unfold clF
 apply List.map_congr_left
 intro j hj
 rw[if_pos (List.mem_range.1 hj),if_neg (by omega)]
theorem clF_zero(c:Config)(ks:List Key):clF c ks 0 0=wlF c c.boxes.l.length []:=by
 unfold clF wlF
 apply List.map_congr_left
 intro j hj
 rw[if_neg (by omega),if_pos (List.mem_range.1 hj)]
 simp[rawF]
end Go.Proofs.YtnlingegeangmaaGreatDoor
namespace Go.Proofs.YtnlingegeangmaaGreatDoor
open Go Go.Vx
def isOf(bn name:Str):Prop:=bn.length<name.length/\name.take bn.length=bn/\name[bn.length]? = some 46
instance (bn name:Str):Decidable (isOf bn name):=by unfold isOf;infer_instance
def boxN(name:Str):Nat->List BoxB->Int
 | _,[]=>-1
 | n,b :: bs=>if isOf b.name name then (n:Int) else boxN name (n+1) bs
def boxF(c:ConfigB)(name:Str):Int:=boxN name 0 c.boxes
theorem boxN_none{name:Str}:∀ {bs:List BoxB} {n:Nat},(∀ b ∈ bs,¬ isOf b.name name)->boxN name n bs=-1
 | [],_,_=>rfl
 | b :: bs,n,h=>by
  unfold boxN
  rw[if_neg (h b (by simp))]
  exact boxN_none fun x hx=>h x (by simp[hx])
theorem boxN_first{name:Str}:∀ {bs:List BoxB} {n i:Nat} {b:BoxB},bs[i]? = some b->isOf b.name name->(∀ (j:Nat) x,j<i->bs[j]? = some x->¬ isOf x.name name)->boxN name n bs=(n+i:Nat)
 | [],_,_,_,h,_,_=>by simp at h
 | b :: bs,n,0,_,h,hi,_=>by
  simp at h
  subst h
  unfold boxN
  rw[if_pos hi]
  rfl
 | b :: bs,n,i+1,x,h,hi,hf=>by
  unfold boxN
  rw[if_neg (hf 0 b (by omega) rfl),boxN_first (i:=i) (by simpa using h) hi fun j y hj hy=>hf (j+1) y (by omega) (by simpa using hy)]
  congr 1
  omega
theorem isOf_dot(n p:Str):isOf n (dot n p):=by
 unfold isOf dot
 refine⟨by simp,by simp[List.append_assoc],?_⟩
 rw[List.append_assoc,List.getElem?_append_right (Nat.le_refl _)]
 simp
theorem isOf_name{n n' p:Str}(hn:(46:UInt8) ∉ n)(hn':(46:UInt8) ∉ n')(h:isOf n' (dot n p)):n'=n:=by
 obtain⟨h1,h2,h3⟩:=h
 have e:dot n p=dot n' ((dot n p).drop (n'.length+1)):=by
  conv=>lhs;rw[<- List.take_append_drop n'.length (dot n p)]
  rw[h2]
  have h4:(dot n p).drop n'.length=46 :: (dot n p).drop (n'.length+1):=by
   rw[List.drop_eq_getElem_cons h1]
   congr 1
   rw[gEt0 h1] at h3
   exact Option.some.inj h3
  rw[h4]
  simp[dot]
 exact (dot_inj hn hn' e).1.symm
theorem box_names{c:ConfigB}(h:(nameO c).1=0):(c.boxes.map BoxB.name).Nodup/\∀ b ∈ c.boxes,(46:UInt8) ∉ b.name:=by
 have hb:=firstE_zero h
 refine⟨nodup_of_take fun i x hx=>?_,fun b hm=>?_⟩
 . rw[gMp0] at hx
   obtain⟨b,hbb,rfl⟩:=Option.map_eq_some_iff.1 hx
   have:=hb i b hbb
   intro hmem
   by_cases hm:MName b.name
   . rw[boxE_dbl hm (by rw[List.map_take];exact hmem)] at this
     cases this
   . rw[boxE_bad hm] at this
     cases this
 . obtain⟨i,hi⟩:=List.getElem?_of_mem hm
   have:=hb i b hi
   by_cases hmn:MName b.name
   . exact name_nodot hmn
   . rw[boxE_bad hmn] at this
     cases this
theorem boxF_dot{c:ConfigB}(h:(nameO c).1=0){i:Nat}{b:BoxB}(hb:c.boxes[i]? = some b)(p:Str):boxF c (dot b.name p)=i:=by
 obtain⟨h1,h2⟩:=box_names h
 unfold boxF
 rw[boxN_first hb (isOf_dot _ _) fun j x hj hx hi=>?_]
 . simp
 . have:=isOf_name (h2 b (mOf0 hb)) (h2 x (mOf0 hx)) hi
   have e:=nodup_idx h1 (i:=j) (j:=i) (s:=b.name) (by rw[gMp0,hx];simp[this]) (by rw[gMp0,hb];rfl)
   omega
theorem full_box{c:ConfigB}(h:(nameO c).1=0){k:Nat}{s:Str}(hk:(fullsL c.boxes)[k]? = some s):∃ (i:Nat) (b:BoxB),c.boxes[i]? = some b/\boxF c s=i/\boxAt c k=i/\(∃ p,s=dot b.name p):=by
 obtain⟨i,q,b,h1,h2,h3⟩:=plcs_at hk
 have hs:∃ p,s=dot b.name p:=by
  rcases h3 with⟨_,h3⟩|⟨_,h3⟩<;>(obtain⟨p,_,rfl⟩:=List.mem_map.1 h3;exact⟨p,rfl⟩)
 refine⟨i,b,h2,?_,?_,hs⟩
 . obtain⟨p,rfl⟩:=hs
   exact boxF_dot h h2 p
 . unfold boxAt
   rw[plcs_eq,gMp0] at h1
   obtain⟨p,hp,he⟩:=Option.map_eq_some_iff.1 h1
   rw[Int.toNat_natCast,hp]
   simp only[Option.map_some,Option.getD_some]
   exact congrArg (fun x:Nat × Prop=>(x.1:Int)) he
theorem link_box{c:ConfigB}(h:(nameO c).1=0)(hl:(linkO c).1=0){x:Link}(hx:x ∈ c.links) :
    ∃ f t:Nat,f<c.boxes.length/\t<c.boxes.length/\boxF c x.frm=f/\boxF c x.dst=t/\(egOf c x).frm=f/\(egOf c x).dst=t:=by
 obtain⟨h1,h2⟩:=link_known hl hx
 have key:∀ s,s ∈ fullsL c.boxes->∃ i:Nat,i<c.boxes.length/\boxF c s=i/\boxAt c (plc (fullsL c.boxes) s)=i:=by
  intro s hs
  obtain⟨g0,g1⟩:=plc_at hs
  obtain⟨i,b,a1,a2,a3,_⟩:=full_box h g1
  refine⟨i,(gSm0.1 a1).1,a2,?_⟩
  rw[Int.toNat_of_nonneg g0] at a3
  exact a3
 obtain⟨f,f1,f2,f3⟩:=key _ h1
 obtain⟨t,t1,t2,t3⟩:=key _ h2
 exact⟨f,t,f1,t1,f2,t2,f3,t3⟩
def nstep(c:ConfigB)(l:List Bool)(x:Link):List Bool:=
 if 0<=boxF c x.frm/\0<=boxF c x.dst/\l[(boxF c x.frm).toNat]? = some true then l.set (boxF c x.dst).toNat true else l
def nround(c:ConfigB)(l:List Bool):List Bool:=c.links.foldl (nstep c) l
def nrounds(c:ConfigB)(l:List Bool):Nat->List Bool
 | 0=>l
 | k+1=>nround c (nrounds c l k)
def nearF(c:ConfigB)(b:Nat):List Bool:=nrounds c ((List.replicate c.boxes.length false).set b true) c.boxes.length
inductive Nr(c:ConfigB)(b:Nat):Nat->Prop where
 | refl:Nr c b b
 | step {i j:Nat} {x:Link}:Nr c b i->x ∈ c.links->boxF c x.frm=i->boxF c x.dst=j->Nr c b j
theorem Nr.trans{c:ConfigB}{a b d:Nat}(h:Nr c a b)(h2:Nr c b d):Nr c a d:=by
 induction h2 with
 | refl=>exact h
 | step _ h1 h2 h3 ih=>exact .step ih h1 h2 h3
def LeB(l m:List Bool):Prop:=l.length=m.length/\∀ i:Nat,l[i]? = some true->m[i]? = some true
theorem LeB.refl(l:List Bool):LeB l l:=⟨rfl,fun _ h=>h⟩
theorem LeB.trans{l m k:List Bool}(h:LeB l m)(h2:LeB m k):LeB l k:=⟨h.1.trans h2.1,fun i hi=>h2.2 i (h.2 i hi)⟩
theorem leB_set(l:List Bool)(i:Nat):LeB l (l.set i true):=⟨by simp,fun j hj=>by
 by_cases h:i=j
 . subst h
   rw[List.getElem?_set_self (gSm0.1 hj).1]
 . rw[List.getElem?_set_ne h];exact hj⟩
theorem leB_step(c:ConfigB)(l:List Bool)(x:Link):LeB l (nstep c l x):=by
 unfold nstep
 split
 . exact leB_set _ _
 . exact .refl _
theorem leB_fold(c:ConfigB):∀ (ls:List Link) (l:List Bool),LeB l (ls.foldl (nstep c) l)
 | [],l=>.refl l
 | x :: ls,l=>(leB_step c l x).trans (leB_fold c ls _)
theorem cnt_leB:∀ {l m:List Bool},LeB l m->l.count true<=m.count true/\((∃ i:Nat,l[i]? = some false/\m[i]? = some true)->l.count true<m.count true)
 | [],[],_=>⟨Nat.le_refl _,fun⟨i,h,_⟩=>by simp at h⟩
 | [],_ :: _,h=>by have:=h.1;simp at this
 | _ :: _,[],h=>by have:=h.1;simp at this
 | a :: l,b :: m,h=>by
  have ht:LeB l m:=⟨by simpa using h.1,fun i hi=>by simpa using h.2 (i+1) (by simpa using hi)⟩
  obtain⟨h1,h2⟩:=cnt_leB ht
  have h0:=h.2 0
  simp only[List.getElem?_cons_zero,Option.some.injEq] at h0
  refine⟨?_,?_⟩
  . cases a<;>cases b<;>simp_all[List.count_cons]<;>omega
  . rintro⟨i,g1,g2⟩
    cases i with
    | zero=>
     simp at g1 g2
     subst g1 g2
     simp[List.count_cons]
     omega
    | succ i=>
     have:=h2 ⟨i,by simpa using g1,by simpa using g2⟩
     cases a<;>cases b<;>simp_all[List.count_cons]<;>omega
def ClosB(c:ConfigB)(l:List Bool):Prop:=∀ x ∈ c.links,∀ f t:Nat,boxF c x.frm=f->boxF c x.dst=t->l[f]? = some true->l[t]? = some true
theorem clos_fold{c:ConfigB}{l:List Bool}(h:ClosB c l):∀ (ls:List Link),(∀ x ∈ ls,x ∈ c.links)->ls.foldl (nstep c) l=l
 | [],_=>rfl
 | x :: ls,hs=>by
  have e:nstep c l x=l:=by
   unfold nstep
   split
   . rename_i hc
     obtain⟨h1,h2,h3⟩:=hc
     have:=h x (hs x (by simp)) (boxF c x.frm).toNat (boxF c x.dst).toNat (by omega) (by omega) h3
     apply List.ext_getElem?
     intro j
     by_cases hj:(boxF c x.dst).toNat=j
     . subst hj;rw[List.getElem?_set_self (gSm0.1 this).1,this]
     . rw[List.getElem?_set_ne hj]
   . rfl
  rw[List.foldl_cons,e]
  exact clos_fold h ls fun y hy=>hs y (by simp[hy])
theorem fold_hit{c:ConfigB}{x:Link}{f t:Nat}(hf:boxF c x.frm=f)(ht:boxF c x.dst=t):∀ (ls:List Link) (l:List Bool),x ∈ ls->l[f]? = some true->t<l.length->(ls.foldl (nstep c) l)[t]? = some true
 | [],_,hx,_,_=>by cases hx
 | y :: ls,l,hx,hl,htl=>by
  rw[List.foldl_cons]
  rcases List.mem_cons.1 hx with rfl|hx
  . have e:nstep c l x=l.set t true:=by
      unfold nstep
      rw[hf,ht,if_pos ⟨by omega,by omega,by simpa using hl⟩]
      simp
    rw[e]
    exact (leB_fold c ls _).2 t (by rw[List.getElem?_set_self htl])
  . exact fold_hit hf ht ls _ hx ((leB_step c l y).2 f hl) (by rw[<- (leB_step c l y).1];exact htl)
theorem nround_cnt{c:ConfigB}{l:List Bool}(hb:∀ x ∈ c.links,∀ t:Nat,boxF c x.dst=t->t<l.length)(h:¬ ClosB c l):l.count true<(nround c l).count true:=by
 unfold ClosB at h
 simp only[Classical.not_forall] at h
 obtain⟨x,hx,f,t,hf,ht,hl,hn⟩:=h
 have htl:=hb x hx t ht
 refine (cnt_leB (leB_fold c c.links l)).2 ⟨t,?_,fold_hit hf ht c.links l hx hl htl⟩
 rw[gEt0 htl] at hn ⊢
 cases hv:l[t] with
 | true=>rw[hv] at hn;exact absurd rfl hn
 | false=>rfl
theorem nrounds_leB(c:ConfigB)(l:List Bool):∀ k,LeB l (nrounds c l k)
 | 0=>.refl l
 | k+1=>(nrounds_leB c l k).trans (leB_fold c c.links _)
theorem nrounds_cnt{c:ConfigB}{l:List Bool}(hb:∀ x ∈ c.links,∀ t:Nat,boxF c x.dst=t->t<l.length)(h1:1<=l.count true):∀ k,ClosB c (nrounds c l k)\/k+1<=(nrounds c l k).count true
 | 0=>.inr h1
 | k+1=>by
  have hl:=(nrounds_leB c l k).1
  by_cases hc:ClosB c (nrounds c l k)
  . left
    show ClosB c (nround c (nrounds c l k))
    unfold nround
    rw[clos_fold hc c.links fun _ h=>h]
    exact hc
  . have h2:=(nrounds_cnt hb h1 k).resolve_left hc
    have h3:=nround_cnt (l:=nrounds c l k) (by rw[<- hl];exact hb) hc
    right
    show _<=(nround c (nrounds c l k)).count true
    omega
theorem nsound{c:ConfigB}{b:Nat}:∀ (ls:List Link) (l:List Bool),(∀ x ∈ ls,x ∈ c.links)->(∀ i:Nat,l[i]? = some true->Nr c b i)->∀ i:Nat,(ls.foldl (nstep c) l)[i]? = some true->Nr c b i
 | [],_,_,h=>h
 | x :: ls,l,hs,h=>by
  rw[List.foldl_cons]
  refine nsound ls _ (fun y hy=>hs y (by simp[hy])) fun i hi=>?_
  unfold nstep at hi
  split at hi
  . rename_i hc
    obtain⟨h1,h2,h3⟩:=hc
    by_cases he:(boxF c x.dst).toNat=i
    . exact .step (h _ h3) (hs x (by simp)) (by omega) (by omega)
    . rw[List.getElem?_set_ne he] at hi
      exact h i hi
  . exact h i hi
theorem near_len(c:ConfigB)(b:Nat):(nearF c b).length=c.boxes.length:=by
 unfold nearF
 rw[<- (nrounds_leB c _ _).1]
 simp
theorem near_iff{c:ConfigB}(h:(nameO c).1=0)(hl:(linkO c).1=0){b:Nat}(hb:b<c.boxes.length)(i:Nat):(nearF c b)[i]? = some true ↔ Nr c b i:=by
 have h0:∀ j:Nat,((List.replicate c.boxes.length false).set b true)[j]? = some true ↔ j=b:=by
  intro j
  by_cases hj:b=j
  . subst hj
    rw[List.getElem?_set_self (by simpa using hb)]
    simp
  . rw[List.getElem?_set_ne hj,List.getElem?_replicate]
    constructor
    . intro h;split at h<;>simp at h
    . intro h;exact absurd h.symm hj
 constructor
 . have:∀ k,∀ i:Nat,(nrounds c ((List.replicate c.boxes.length false).set b true) k)[i]? = some true->Nr c b i:=by
     intro k
     induction k with
     | zero=>intro i hi;rw[(h0 i).1 hi];exact .refl
     | succ k ih=>exact nsound c.links _ (fun _ h=>h) ih
   exact this _ i
 . intro hr
   have hcl:ClosB c (nearF c b):=by
    refine (nrounds_cnt (fun x hx t ht=>?_) ?_ c.boxes.length).resolve_right fun hc=>?_
    . obtain⟨f,t',h1,h2,h3,h4,_⟩:=link_box h hl hx
      rw[h4] at ht
      simp
      omega
    . rw[List.one_le_count_iff]
      exact mOf0 ((h0 b).2 rfl)
    . have h1:=List.count_le_length (a:=true) (l:=nrounds c ((List.replicate c.boxes.length false).set b true) c.boxes.length)
      have h2:=near_len c b
      unfold nearF at h2
      omega
   induction hr with
   | refl=>exact (nrounds_leB c _ _).2 b ((h0 b).2 rfl)
   | step _ hx h1 h2 ih=>exact hcl _ hx _ _ h1 h2 ih
end Go.Proofs.YtnlingegeangmaaGreatDoor
namespace Go.Proofs.YtnlingegeangmaaGreatDoor
open Go Go.Vx
def exL:List Route:=[⟨2,8,1,2⟩,⟨3,8,2,3⟩,⟨1,8,1,1⟩,⟨2,0,0,5⟩,⟨2,8,1,4⟩]
def exS:List Route:=[⟨2,0,0,3⟩,⟨2,8,1,3⟩]
theorem numb_ex:numb exL=[⟨⟨2,8,1,2⟩,0⟩,⟨⟨3,8,2,3⟩,1⟩,⟨⟨1,8,1,1⟩,2⟩,⟨⟨2,0,0,5⟩,3⟩,⟨⟨2,8,1,4⟩,4⟩]:=by simp[numb,exL]
theorem ord_exL:ordF exL=[⟨3,8,2,3⟩,⟨1,8,1,1⟩,⟨2,0,0,5⟩]:=by
 refine (ordF_eq (os:=[⟨⟨3,8,2,3⟩,1⟩,⟨⟨1,8,1,1⟩,2⟩,⟨⟨2,0,0,5⟩,3⟩]) ⟨by simp[preLt],?_,?_⟩).trans rfl
 . rw[numb_ex];simp[samePre,firstP]
 . rw[numb_ex];simp[samePre]
theorem ordE_ex:ordE 4 exL=[⟨3,8,2,3⟩,⟨1,8,1,1⟩,⟨2,0,0,5⟩]:=by
 unfold ordE
 rw[if_neg (by decide),ord_exL]
theorem look_ex:lookK 4 exL 12=2/\lookE 4 exL 12=0:=by
 have h:lookE 4 exL 12=0:=by decide
 refine⟨?_,h⟩
 unfold lookK
 rw[if_neg (by omega)]
 refine pick_eq (.inr ⟨⟨⟨1,8,1,1⟩,2⟩,by simp[numb_ex],rfl,by decide,?_⟩)
 rw[numb_ex]
 simp[hasR,firstP]
theorem far_ex:farE 2 [⟨0,1,7,4⟩] [1]=[7,0]/\fstE 2 [⟨0,1,7,4⟩] [1]=[0,-1]/\graphE 2 [⟨0,1,7,4⟩] [1]=0:=by
 have h:graphE 2 [⟨0,1,7,4⟩] [1]=0:=by decide
 have hd:IsDist 2 [⟨0,1,7,4⟩] [1] [7,0]:=by
  refine⟨rfl,fun v x hv=>?_,by simp,by simp,fun v x hv h0=>?_⟩
  . match v,hv with
    | 0,hv=>simp at hv;omega
    | 1,hv=>simp at hv;omega
  . match v,hv with
    | 0,hv=>simp at hv;subst hv;exact .inr ⟨_,List.mem_singleton.2 rfl,rfl,0,by simp,by omega,by simp⟩
    | 1,hv=>simp at hv;subst hv;exact .inl ⟨rfl,by simp⟩
 have hf:IsFirst 2 [⟨0,1,7,4⟩] [7,0] [0,-1] 0 1:=by
  refine⟨rfl,fun v x hv=>?_⟩
  match v,hv with
  | 0,hv=>simp at hv;subst hv;exact .inr ⟨0,rfl,by omega,by omega,⟨_,7,0,rfl,rfl,rfl,by omega,rfl,by simp⟩,fun j h1 h2=>by omega⟩
  | 1,hv=>
   simp at hv;subst hv
   refine .inl ⟨rfl,?_⟩
   rintro i h1 h2 ⟨e,x,y,he,hfr,_⟩
   obtain rfl:i=0:=by omega
   cases he
   cases hfr
 refine⟨?_,?_,h⟩
 . unfold farE
   rw[if_neg (by omega)]
   exact distF_eq (by simp) hd
 . unfold fstE
   rw[if_neg (by omega)]
   have:=distF_eq (by simp) hd
   show firF 2 _ (distF 2 _ _)=_
   rw[this]
   exact firF_eq hf
theorem slim_ex:slimE 4 exS=[⟨2,0,0,3⟩]/\checkE 4 exS=0:=by
 have h:checkE 4 exS=0:=by decide
 refine⟨?_,h⟩
 have hn:numb exS=[⟨⟨2,0,0,3⟩,0⟩,⟨⟨2,8,1,3⟩,1⟩]:=by simp[numb,exS]
 have ho:ordF exS=[⟨2,8,1,3⟩,⟨2,0,0,3⟩]:=by
  refine (ordF_eq (os:=[⟨⟨2,8,1,3⟩,1⟩,⟨⟨2,0,0,3⟩,0⟩]) ⟨by simp[preLt],?_,?_⟩).trans rfl
  . rw[hn];simp[samePre,firstP]
  . rw[hn];simp[samePre]
 have hok:∀ r ∈ [(⟨2,8,1,3⟩:Route),⟨2,0,0,3⟩],okR 4 r:=by decide
 have hs:[(⟨2,8,1,3⟩:Route),⟨2,0,0,3⟩].Pairwise preR:=by simp[preR]
 have h1:¬ Hal [(⟨2,8,1,3⟩:Route),⟨2,0,0,3⟩] 4 8 1:=by
  intro hh
  obtain⟨r,hr,hl,_⟩:=hh 8 (by omega) (by decide) rfl
  simp at hr
  rcases hr with rfl|rfl<;>simp at hl
 have h2:¬ Hal [(⟨2,8,1,3⟩:Route),⟨2,0,0,3⟩] 4 0 0:=by
  intro hh
  obtain⟨r,hr,hl,hq⟩:=hh 0 (by omega) (by decide) rfl
  simp at hr
  rcases hr with rfl|rfl
  . revert hq;unfold hasR;decide
  . simp at hl
 have hm:metF 4 [(⟨2,8,1,3⟩:Route),⟨2,0,0,3⟩]=[⟨2,8,1,3⟩,⟨2,0,0,3⟩]:=by
  unfold metF metG
  simp[h1,h2]
 have p0:parF 4 [(⟨2,8,1,3⟩:Route),⟨2,0,0,3⟩] 0 ⟨2,8,1,3⟩=1:=by
  refine parF_eq hok hs (.inr ⟨1,⟨2,0,0,3⟩,rfl,by decide,by decide,rfl,by simp[cvR,hasR],?_⟩)
  intro i r h1 h2 h3 _
  match i,h3 with
  | 0,h3=>omega
  | 1,h3=>cases h3;omega
 have p1:parF 4 [(⟨2,8,1,3⟩:Route),⟨2,0,0,3⟩] 1 ⟨2,0,0,3⟩=-1:=by
  refine parF_eq hok hs (.inl ⟨rfl,?_⟩)
  intro i r h1 h2 h3
  match i,h3 with
  | 0,h3=>cases h3;simp[cvR]
  | 1,h3=>omega
 unfold slimE
 rw[if_neg (by omega),ho]
 unfold slimF
 rw[hm]
 have k0:¬ keepR 4 [(⟨2,8,1,3⟩:Route),⟨2,0,0,3⟩] 0 ⟨2,8,1,3⟩:=by
  unfold keepR
  rw[p0]
  rintro (h|h)
  . omega
  . exact h _ rfl rfl
 have k1:keepR 4 [(⟨2,8,1,3⟩:Route),⟨2,0,0,3⟩] 1 ⟨2,0,0,3⟩:=by
  unfold keepR
  rw[p1]
  exact .inl (by omega)
 show keepF 4 _ 2=_
 rw[keepF_succ_pos (k:=1) rfl k1,keepF_succ_neg (k:=0) rfl k0,keepF_zero]
 rfl
theorem example_spec:FSpec Tryz.prog T 60 [] (fun d rows=>rows=[some (57,exL.map Route.row)]/\d = .own 0 5):=by
 refine FSpec.of_ok tok Tryz.func60 rfl Tryz.call60 (by simp) ?_
 (try (conv=>whnf));repeat' (first|refine Ok.seq ?_|((first|refine Ok.region tok ?_|refine Ok.ret ?_);conv=>whnf)|fail)
 refine Or.inr (Or.inl ?_);(conv=>whnf)
 exact⟨rfl,rfl⟩
def exO:List Route:=[⟨3,8,2,3⟩,⟨1,8,1,1⟩,⟨2,0,0,5⟩]
theorem ordEx_at{rl sl:List (List D)}(h:rl=exL.map Route.row):FSpec Tryz.prog T 38 [.i .i64 4,.lst 57 rl sl] (fun d rows=>rows=[some (57,exO.map Route.row)]/\d = .tup [.own 0 3,.i .i64 0]):=by
 have:=Order_at 4 exL (rl:=rl) (sl:=sl) h
 rw[ordE_ex,show checkE 4 exL=0 by decide] at this
 exact this
theorem lookEx_at{rl sl:List (List D)}(h:rl=exL.map Route.row):FSpec Tryz.prog T 18 [.i .i64 4,.lst 57 rl sl,.i .i64 12] (fun d _=>d = .tup [.i .i64 2,.i .i64 0]):=by
 subst h
 have:=Lookup_spec 4 12 exL sl
 rw[look_ex.1,look_ex.2] at this
 exact this
theorem slimEx_at{rl sl:List (List D)}(h:rl=exS.map Route.row):FSpec Tryz.prog T 39 [.i .i64 4,.lst 57 rl sl] (fun d rows=>rows=[some (57,[(⟨2,0,0,3⟩:Route)].map Route.row)]/\d = .tup [.own 0 1,.i .i64 0]):=by
 have:=Slim_at 4 exS (rows:=rl) (room:=sl) h
 rw[slim_ex.1,slim_ex.2] at this
 exact this
theorem shortEx_at{re se rd sd:List (List D)}(he:re=[(⟨0,1,7,4⟩:Eg)].map Eg.row)(hd:rd=[1].map irow):FSpec Tryz.prog T 61 [.i .i64 2,.lst 122 re se,.lst 3 rd sd] (fun d rows=>rows=[some (3,[7,0].map irow),some (3,[0,-1].map irow)]/\d = .tup [.own 0 2,.own 1 2,.i .i64 0]):=by
 have:=Shortest_at 2 [⟨0,1,7,4⟩] [1] (re:=re) (se:=se) (rd:=rd) (sd:=sd) he hd
 rw[far_ex.1,far_ex.2.1,far_ex.2.2] at this
 exact this
theorem awake_spec:FSpec Tryz.prog T 14 [] (fun d _=>d = .tt):=by
 refine FSpec.tt (p:=True) ?_ trivial
 refine FSpec.of_ok tok Tryz.func14 rfl Tryz.call14 (by simp) ?_
 have l1:(exL.map Route.row).length=5:=rfl
 have l2:(exO.map Route.row).length=3:=rfl
 (try (conv=>whnf));repeat' (first|refine Ok.seq ?_|((first|refine Ok.region tok ?_|refine Ok.ret ?_);conv=>whnf)|(refine Or.inl ?_;(conv=>whnf);(repeat (refine aI ?_;conv=>whnf));refine⟨_,lookEx_at rfl,rfl,?_⟩;conv=>whnf)|(refine Or.inr (Or.inr (Or.inr (Or.inl ?_)));(conv=>whnf);(repeat (refine aI ?_;conv=>whnf));refine⟨_,example_spec,?_⟩;rintro _ _ ⟨rfl,rfl⟩<;>(refine And.intro (by simp[gRowsP,grounds,D.ground,Route.row,irow,exO,exL]) ?_;conv=>whnf))|(refine Or.inr (Or.inr (Or.inr (Or.inl ?_)));(conv=>whnf);(repeat (refine aI ?_;conv=>whnf));refine⟨_,ordEx_at rfl,?_⟩;rintro _ _ ⟨rfl,rfl⟩<;>(refine And.intro (by simp[gRowsP,grounds,D.ground,Route.row,irow,exO,exL]) ?_;conv=>whnf))|(refine Or.inr (Or.inr (Or.inr (Or.inl ?_)));(conv=>whnf);(repeat (refine aI ?_;conv=>whnf));refine⟨_,slimEx_at rfl,?_⟩;rintro _ _ ⟨rfl,rfl⟩<;>(refine And.intro (by simp[gRowsP,grounds,D.ground,Route.row,irow,exO,exL]) ?_;conv=>whnf))|(refine Or.inr (Or.inr (Or.inr (Or.inl ?_)));(conv=>whnf);(repeat (refine aI ?_;conv=>whnf));refine⟨_,shortEx_at rfl rfl,?_⟩;rintro _ _ ⟨rfl,rfl⟩<;>(refine And.intro (by simp[gRowsP,grounds,D.ground,Route.row,irow,exO,exL]) ?_;conv=>whnf))|(refine bI ?_ ?_<;>intro<;>(conv=>whnf)<;>(try (exfalso;omega)))|((first|refine aJ ?_|refine⟨_,rfl,?_⟩);conv=>whnf)|fail)
 . refine Or.inl ?_;(conv=>whnf)
   exact b_eq ⟨fun _=>trivial,fun _=>rfl⟩
 all_goals exact absurd rfl (by assumption)
end Go.Proofs.YtnlingegeangmaaGreatDoor
namespace Go.Proofs.YtnlingegeangmaaGreatDoor
open Go Go.Vx
theorem hasL_spec(bits:Int)(r:Route)(v:Int)(h0:bits<=32)(h1:0<=r.len)(h2:r.len<=bits):FSpec Tryz.prog T 63 [.i .i64 bits,.agg r.row,.i .i64 v] (fun d _=>d = .b (hasR bits r v)):=by
 have hm2:min (bits - r.len).toNat IntKind.i64.bits=(bits - r.len).toNat:=by show min (bits - r.len).toNat 64=_;omega
 refine FSpec.of_ok tok Tryz.func63 rfl Tryz.call63 (by simp) ?_
 (try (conv=>whnf));repeat' (first|refine Ok.seq ?_|((first|refine Ok.region tok ?_|refine Ok.region_draw tok follows (by kernel_rfl) ?_|refine Ok.ret ?_|refine nI ?_);conv=>whnf)|(refine bI ?_ ?_<;>intro<;>(conv=>whnf)<;>(try (exfalso;omega)))|((first|refine aJ ?_|refine num_any ?_);conv=>whnf)|fail)
 refine Or.inl ?_;(conv=>whnf)
 refine b_eq ?_
 rw[hm2]
 rfl
theorem pick_ex(bits:Int)(l:List Route)(v:Int):IsPick bits l v (pick bits l v):=by
 have hex:∃ k,IsPick bits l v k:=by
  obtain⟨ps,h1,h2⟩:=sorted_ex (numb l)
  obtain⟨h3,h4⟩:=find_pick (bits:=bits) (v:=v) h1 h2
  cases h:(ps.foldl ddF []).find? fun x=>decide (v.fdiv (2 ^ (bits - x.r.len).toNat)=x.r.value.fdiv (2 ^ (bits - x.r.len).toNat)) with
  | none=>exact⟨_,h4 h⟩
  | some x=>exact⟨_,h3 x h⟩
 unfold pick
 rw[dif_pos hex]
 exact hex.choose_spec
theorem has_same{bits v:Int}{r s:Route}(hr:okR bits r)(hs:okR bits s)(h:r.len=s.len)(h1:hasR bits r v)(h2:hasR bits s v):r.value=s.value:=by
 have e1:=hr.2.2.2.2.2.2.2.2
 have e2:=hs.2.2.2.2.2.2.2.2
 have h3:r.value.fdiv (2 ^ (bits - s.len).toNat)=s.value.fdiv (2 ^ (bits - s.len).toNat):=by
  unfold hasR at h1 h2
  rw[h] at h1
  rw[<- h1,<- h2]
 have hp:(0:Int)<2 ^ (bits - s.len).toNat:=Int.pow_pos (by omega)
 rw[h] at e1
 rw[Int.fdiv_eq_ediv_of_nonneg _ (by omega),Int.fdiv_eq_ediv_of_nonneg _ (by omega)] at h3
 have k1:=Int.mul_ediv_add_emod r.value (2 ^ (bits - s.len).toNat)
 have k2:=Int.mul_ediv_add_emod s.value (2 ^ (bits - s.len).toNat)
 rw[e1,h3] at k1
 rw[e2] at k2
 omega
theorem cov_has{bits v:Int}{p x:Route}(h:cvR bits p x)(hv:hasR bits x v):hasR bits p v:=by
 rw[hasR_q] at hv ⊢
 rw[q_up hv (i:=(bits - p.len).toNat) (by have:=h.1;omega)]
 exact hasR_q.1 h.2
theorem has_cov{bits v:Int}{p x:Route}(hl:p.len<=x.len)(hp:hasR bits p v)(hx:hasR bits x v):cvR bits p x:=by
 refine⟨hl,?_⟩
 rw[hasR_q] at hp hx ⊢
 rw[<- q_up hx (i:=(bits - p.len).toNat) (by omega)]
 exact hp
theorem pre_uniq{m:List Route}(hs:m.Pairwise preR){r s:Route}{i j:Nat}(hi:m[i]? = some r)(hj:m[j]? = some s)(h1:r.len=s.len)(h2:r.value=s.value):i=j:=by
 rcases Nat.lt_trichotomy i j with h|h|h
 . have:=pre_at hs hi hj h;unfold preR at this;omega
 . exact h
 . have:=pre_at hs hj hi h;unfold preR at this;omega
theorem pre_eq{m:List Route}(hs:m.Pairwise preR){r s:Route}(hr:r ∈ m)(hss:s ∈ m)(h1:r.len=s.len)(h2:r.value=s.value):r=s:=by
 obtain⟨i,hi⟩:=List.getElem?_of_mem hr
 obtain⟨j,hj⟩:=List.getElem?_of_mem hss
 have:=pre_uniq hs hi hj h1 h2
 subst this
 rw[hi] at hj
 cases hj
 rfl
theorem mem_keepF{bits:Int}{m:List Route}{w:Route}:w ∈ keepF bits m m.length ↔ ∃ k,m[k]? = some w/\keepR bits m k w:=by
 unfold keepF
 constructor
 . intro h
   obtain⟨x,hx,rfl⟩:=List.mem_map.1 h
   rw[List.mem_filter] at hx
   have:=List.mem_of_mem_take hx.1
   rw[List.mem_zipIdx_iff_getElem?] at this
   exact⟨x.2,this,by simpa using hx.2⟩
 . rintro⟨k,hk,h⟩
   refine List.mem_map.2 ⟨(w,k),List.mem_filter.2 ⟨?_,by simpa using h⟩,rfl⟩
   rw[tkL0 (by simp),List.mem_zipIdx_iff_getElem?]
   exact hk
theorem parF_is{bits:Int}{m:List Route}{k:Nat}{rk:Route}(hok:∀ r ∈ m,okR bits r)(hs:m.Pairwise preR)(hk:m[k]? = some rk):IsPar bits m k rk m.length (parF bits m k rk):=by
 have hex:∃ p,IsPar bits m k rk m.length p:=by
  by_cases hc:∃ (i:Nat) (r:Route),k<i/\m[i]? = some r/\cvR bits r rk
  . have key:∀ n,(∃ (i:Nat) (r:Route),k<i/\i<n/\m[i]? = some r/\cvR bits r rk)->∃ (i:Nat) (r:Route),k<i/\m[i]? = some r/\cvR bits r rk/\∀ (j:Nat) s,k<j->j<i->m[j]? = some s->¬ cvR bits s rk:=by
      intro n
      induction n with
      | zero=>rintro⟨i,r,_,h,_⟩;omega
      | succ n ih=>
       rintro⟨i,r,h1,h2,h3,h4⟩
       by_cases hex:∃ (i:Nat) (r:Route),k<i/\i<n/\m[i]? = some r/\cvR bits r rk
       . exact ih hex
       . exact⟨i,r,h1,h3,h4,fun j s a b c d=>hex ⟨j,s,a,by omega,c,d⟩⟩
    obtain⟨i0,r0,a0,b0,c0⟩:=hc
    obtain⟨i,r,h1,h2,h3,h4⟩:=key (i0+1) ⟨i0,r0,a0,by omega,b0,c0⟩
    refine⟨(i:Int),.inr ⟨i,r,rfl,(gSm0.1 h2).1,by omega,h2,h3,fun j s a b c d=>?_⟩⟩
    have hb:=(behind hok hs c hk b d).1
    rcases Nat.lt_trichotomy j i with h|h|h
    . exact absurd d (h4 j s hb h c)
    . subst h;rw[h2] at c;cases c;omega
    . have:=pre_at hs h2 c h;unfold preR at this;omega
  . exact⟨-1,.inl ⟨rfl,fun i r a b c d=>hc ⟨i,r,(behind hok hs c hk b d).1,c,d⟩⟩⟩
 obtain⟨p,hp⟩:=hex
 rw[parF_eq hok hs hp]
 exact hp
def OutIs(bits:Int)(m:List Route)(v d:Int):Prop:=(d=-1/\∀ r ∈ m,¬ hasR bits r v)\/∃ r ∈ m,hasR bits r v/\d=r.out/\∀ s ∈ m,hasR bits s v->s.len<=r.len
theorem OutIs.uniq{bits v d d':Int}{m:List Route}(hok:∀ r ∈ m,okR bits r)(hs:m.Pairwise preR)(h:OutIs bits m v d)(h':OutIs bits m v d'):d=d':=by
 rcases h with⟨rfl,h⟩|⟨r,hr,hh,rfl,hm⟩<;>rcases h' with⟨rfl,h'⟩|⟨s,hss,hh',rfl,hm'⟩
 . rfl
 . exact absurd hh' (h s hss)
 . exact absurd hh (h' r hr)
 . have h1:=hm s hss hh'
   have h2:=hm' r hr hh
   rw[pre_eq hs hr hss (by omega) (has_same (hok r hr) (hok s hss) (by omega) hh hh')]
theorem climb{bits v:Int}{m:List Route}(hok:∀ r ∈ m,okR bits r)(hs:m.Pairwise preR)(E:Route->Prop):∀ (n:Nat) (y:Route),y ∈ m->y.len.toNat<=n->hasR bits y v ->
    (∀ w ∈ keepF bits m m.length,¬ E w->hasR bits w v->w.len<=y.len)->(∀ w,E w->y.len<w.len) ->
    ∃ z ∈ keepF bits m m.length,¬ E z/\hasR bits z v/\z.out=y.out/\∀ w ∈ keepF bits m m.length,¬ E w->hasR bits w v->w.len<=z.len:=by
 intro n
 induction n with
 | zero=>
  intro y hy hn hv hmax hE
  obtain⟨k,hk⟩:=List.getElem?_of_mem hy
  by_cases hkp:keepR bits m k y
  . exact⟨y,mem_keepF.2 ⟨k,hk,hkp⟩,fun h=>by have:=hE y h;omega,hv,rfl,hmax⟩
  . exfalso
    have hp:=parF_is hok hs hk
    unfold keepR at hkp
    rcases hp with⟨hp,_⟩|⟨pp,rp,hp,hpl,hpk,hrp,hcov,hbest⟩
    . exact hkp (.inl (by omega))
    . have h1:=hok rp (mOf0 hrp)
      have h2:=hok y hy
      have hl:=hcov.1
      have hlen:rp.len=y.len:=by have:=h1.2.2.1;omega
      exact hpk (pre_uniq hs hrp hk hlen (has_same h1 h2 hlen (cov_has hcov hv) hv))
 | succ n ih=>
  intro y hy hn hv hmax hE
  obtain⟨k,hk⟩:=List.getElem?_of_mem hy
  by_cases hkp:keepR bits m k y
  . exact⟨y,mem_keepF.2 ⟨k,hk,hkp⟩,fun h=>by have:=hE y h;omega,hv,rfl,hmax⟩
  . have hp:=parF_is hok hs hk
    rcases hp with⟨hp,_⟩|⟨pp,rp,hp,hpl,hpk,hrp,hcov,hbest⟩
    . exact absurd (.inl (by omega)) hkp
    . have h1:=hok rp (mOf0 hrp)
      have h2:=hok y hy
      have hl:=hcov.1
      have hpv:=cov_has hcov hv
      have hlen:rp.len ≠ y.len:=fun hlen=>hpk (pre_uniq hs hrp hk hlen (has_same h1 h2 hlen hpv hv))
      have hout:rp.out=y.out:=by
       apply Classical.byContradiction
       intro hne
       refine hkp (.inr fun rq hq=>?_)
       rw[hp,Int.toNat_natCast,hrp] at hq
       cases hq
       exact hne
      obtain⟨z,hz1,hz2,hz3,hz4,hz5⟩:=ih rp (mOf0 hrp) (by have:=h1.2.2.1;omega) hpv (fun w hw hEw hwv=>by
       obtain⟨i,hi,hki⟩:=mem_keepF.1 hw
       by_cases hik:i=k
       . subst hik
         rw[hk] at hi
         cases hi
         exact absurd hki hkp
       . exact hbest i w (gSm0.1 hi).1 hik hi (has_cov (hmax w hw hEw hwv) hwv hv)) (fun w hw=>by have:=hE w hw;omega)
      exact⟨z,hz1,hz2,hz3,hz4.trans hout,hz5⟩
theorem met_sub{bits:Int}{o:List Route}{r:Route}(h:r ∈ metF bits o):r ∈ o:=(List.mem_filter.1 h).1
theorem met_mem{bits:Int}{o:List Route}{r:Route}:r ∈ metF bits o ↔ r ∈ o/\¬ Hal o bits r.value r.len:=by
 unfold metF metG
 rw[List.mem_filter]
 simp
theorem keep_sub{bits:Int}{m:List Route}{r:Route}(h:r ∈ keepF bits m m.length):r ∈ m:=by
 obtain⟨k,hk,_⟩:=mem_keepF.1 h
 exact mOf0 hk
theorem keep_pre{bits:Int}{m:List Route}(hs:m.Pairwise preR):(keepF bits m m.length).Pairwise preR:=by
 unfold keepF
 rw[List.pairwise_map]
 refine List.Pairwise.filter _ ?_
 rw[tkL0 (by simp)]
 have:(m.zipIdx.map (·.1)).Pairwise preR:=by rw[List.zipIdx_map_fst];exact hs
 exact List.pairwise_map.1 this
theorem slim_out{bits v d:Int}{o:List Route}(hok:∀ r ∈ o,okR bits r)(hs:o.Pairwise preR)(h0:0<=v)(h1:v<2 ^ bits.toNat)(h:OutIs bits o v d):OutIs bits (slimF bits o) v d:=by
 obtain⟨hMok,hMs,_⟩:=metF_ok hok hs
 unfold slimF
 rcases h with⟨rfl,h⟩|⟨r,hr,hh,rfl,hm⟩
 . exact .inl ⟨rfl,fun s hs=>h s (met_sub (keep_sub hs))⟩
 . have hrm:r ∈ metF bits o:=met_mem.2 ⟨hr,fun hH=>by
     obtain⟨s,hs1,hs2,hs3⟩:=hH v h0 h1 (hasR_q.1 hh)
     have:=hm s hs1 hs3
     omega⟩
   obtain⟨z,hz1,_,hz3,hz4,hz5⟩:=climb (v:=v) hMok hMs (fun _=>False) _ r hrm (Nat.le_refl _) hh (fun w hw _ hwv=>hm w (met_sub (keep_sub hw)) hwv) (fun _ h=>h.elim)
   exact .inr ⟨z,hz1,hz3,hz4.symm,fun s hs hsv=>hz5 s hs id hsv⟩
def outK(l:List Route)(k:Int):Int:=if k<0 then -1 else match l[k.toNat]? with|some r=>r.out|none=>-1
theorem pick_out{bits v k:Int}{l:List Route}{os:List Num}(hok:∀ r ∈ l,okR bits r)(ho:IsOrd l os)(h:IsPick bits l v k):OutIs bits (os.map (·.r)) v (outK l k):=by
 have hin:∀ r ∈ os.map (·.r),r ∈ l:=fun r hr=>by
  obtain⟨x,hx,rfl⟩:=List.mem_map.1 hr
  obtain⟨j,hj,hjx⟩:=numb_mem (ho.best x hx).1
  rw[hjx]
  exact List.getElem_mem hj
 rcases h with⟨rfl,h⟩|⟨x,hx,rfl,hh,hm⟩
 . refine .inl ⟨rfl,fun r hr=>?_⟩
   obtain⟨i,hi⟩:=List.getElem?_of_mem (hin r hr)
   obtain⟨hil,hi⟩:=gSm0.1 hi
   have:=h _ (numb_at l i hil)
   rw[hi] at this
   exact this
 . obtain⟨j,hj,rfl⟩:=numb_mem hx
   dsimp only at hh hm ⊢
   have hjo:outK l (j:Int)=l[j].out:=by unfold outK;rw[if_neg (by omega),Int.toNat_natCast,gEt0 hj]
   obtain⟨z,hz,hsp⟩:=ho.all _ hx
   obtain⟨hzn,hzb⟩:=ho.best z hz
   obtain⟨i,hi,rfl⟩:=numb_mem hzn
   obtain⟨hsl,hsv⟩:=hsp
   dsimp only at hsl hsv
   have hzv:hasR bits l[i] v:=by unfold hasR at hh ⊢;rw[<- hsl,<- hsv];exact hh
   have hij:=first_tie (hzb _ hx ⟨hsl,hsv⟩) (hm _ hzn hzv)
   dsimp only at hij
   obtain rfl:i=j:=by omega
   refine .inr ⟨l[i],List.mem_map.2 ⟨_,hz,rfl⟩,hh,hjo,fun s hss hsh=>?_⟩
   obtain⟨p,hp⟩:=List.getElem?_of_mem (hin s hss)
   obtain⟨hpl,hp⟩:=gSm0.1 hp
   have:=hm _ (numb_at l p hpl) (by rw[hp];exact hsh)
   rw[hp] at this
   unfold firstP at this
   dsimp only at this
   apply Classical.byContradiction
   intro hlt
   exact this (by rw[if_pos (by omega)];omega)
theorem pick_out1{bits v k:Int}{m:List Route}(h:IsPick bits m v k):OutIs bits m v (outK m k):=by
 rcases h with⟨rfl,h⟩|⟨x,hx,rfl,hh,hm⟩
 . refine .inl ⟨rfl,fun r hr=>?_⟩
   obtain⟨i,hi⟩:=List.getElem?_of_mem hr
   obtain⟨hil,hi⟩:=gSm0.1 hi
   have:=h _ (numb_at m i hil)
   rw[hi] at this
   exact this
 . obtain⟨j,hj,rfl⟩:=numb_mem hx
   dsimp only at hh hm ⊢
   have hjo:outK m (j:Int)=m[j].out:=by unfold outK;rw[if_neg (by omega),Int.toNat_natCast,gEt0 hj]
   refine .inr ⟨m[j],List.getElem_mem hj,hh,hjo,fun s hss hsh=>?_⟩
   obtain⟨p,hp⟩:=List.getElem?_of_mem hss
   obtain⟨hpl,hp⟩:=gSm0.1 hp
   have:=hm _ (numb_at m p hpl) (by rw[hp];exact hsh)
   rw[hp] at this
   unfold firstP at this
   dsimp only at this
   apply Classical.byContradiction
   intro hlt
   exact this (by rw[if_pos (by omega)];omega)
end Go.Proofs.YtnlingegeangmaaGreatDoor
namespace Go.Proofs.YtnlingegeangmaaGreatDoor
open Go Go.Vx
theorem ord_exists(l:List Route):∃ os,IsOrd l os:=by
 obtain⟨ps,h1,h2⟩:=sorted_ex (numb l)
 exact⟨_,dd_ord h1 h2⟩
noncomputable def layF(slim:Prop)(bits:Int)(l:List Route):List Route:=by classical exact if slim then slimE bits l else ordE bits l
theorem checkE_of{bits:Int}{l:List Route}(h:l.length<=256)(h1:1<=bits)(h2:bits<=32)(hok:∀ r ∈ l,okR bits r):checkE bits l=0:=by
 unfold checkE
 rw[if_neg (by omega),if_neg (by omega),if_pos hok]
theorem lay_out{slim:Prop}{bits v:Int}{l:List Route}(h:checkE bits l=0)(h0:0<=v)(h1:v<2 ^ bits.toNat) :
    lookE bits (layF slim bits l) v=0/\IsPick bits (layF slim bits l) v (lookK bits (layF slim bits l) v)/\(∀ r ∈ layF slim bits l,okR bits r) /\
    outK (layF slim bits l) (lookK bits (layF slim bits l) v)=outK l (pick bits l v):=by
 obtain⟨hl,b1,b2,hok⟩:=checkE_ok h
 obtain⟨os,hos⟩:=ord_exists l
 obtain⟨g1,g2,g3⟩:=ordF_ok h ⟨os,hos⟩
 have hraw:OutIs bits (ordF l) v (outK l (pick bits l v)):=by
  rw[ordF_eq hos]
  exact pick_out hok hos (pick_ex bits l v)
 have key:∀ m:List Route,m.length<=256->(∀ r ∈ m,okR bits r)->m.Pairwise preR->OutIs bits m v (outK l (pick bits l v)) ->
     lookE bits m v=0/\IsPick bits m v (lookK bits m v)/\(∀ r ∈ m,okR bits r)/\outK m (lookK bits m v)=outK l (pick bits l v):=by
  intro m m1 m2 m3 m4
  have e1:lookE bits m v=0:=by
   unfold lookE
   rw[checkE_of m1 b1 b2 m2,if_neg (by omega),if_neg (by omega)]
  have e2:lookK bits m v=pick bits m v:=by
   unfold lookK
   rw[e1,if_neg (by omega)]
  rw[e2]
  exact⟨e1,pick_ex _ _ _,m2,OutIs.uniq m2 m3 (pick_out1 (pick_ex bits m v)) m4⟩
 unfold layF
 split
 . have e:slimE bits l=slimF bits (ordF l):=by unfold slimE;rw[if_neg (by omega)]
   rw[e]
   obtain⟨q1,q2,q3⟩:=metF_ok g1 g2
   refine key _ ?_ ?_ ?_ (slim_out g1 g2 h0 h1 hraw)
   . have:=keepF_len bits (metF bits (ordF l)) (metF bits (ordF l)).length
     unfold slimF
     omega
   . intro r hr
     exact q1 r (keep_sub hr)
   . exact keep_pre q2
 . have e:ordE bits l=ordF l:=by unfold ordE;rw[if_neg (by omega)]
   rw[e]
   exact key _ g3 g1 g2 hraw
def hasK(bits:Int)(k:Key)(v:Int):Prop:=hasR bits ⟨0,k.1,k.2,0⟩ v
theorem hasK_of{bits v:Int}{r:Route}{k:Key}(h1:r.value=k.1)(h2:r.len=k.2):hasR bits r v ↔ hasK bits k v:=by
 unfold hasK hasR
 rw[h1,h2]
def Owns(c:Config)(i:Nat)(k:Key):Prop:=∃ b p,c.boxes.l[i]? = some b/\p ∈ b.owns.l/\keyOf p=k
theorem owns_by{c:Config}{i:Nat}{k:Key}:(i:Int) ∈ byF (ownN c.boxes.l c.boxes.l.length) k ↔ Owns c i k:=by
 rw[byF_mem,ownN_mem]
 constructor
 . rintro⟨j,b,p,h1,h2,h3,h4,h5⟩
   obtain rfl:i=j:=by omega
   exact⟨b,p,h2,h3,h4⟩
 . rintro⟨b,p,h1,h2,h3⟩
   exact⟨i,b,p,(gSm0.1 h1).1,h1,h2,h3,rfl⟩
theorem by_nat{c:Config}{d:Int}{k:Key}(h:d ∈ byF (ownN c.boxes.l c.boxes.l.length) k):∃ i:Nat,d=(i:Int):=by
 rw[byF_mem,ownN_mem] at h
 obtain⟨j,_,_,_,_,_,_,h5⟩:=h
 exact⟨j,h5⟩
section
variable {c : Config} {k : Key} {far : List Int} {N : Nat}
theorem eg_link(hn:(nameO c.b).1=0)(hl:(linkO c.b).1=0){e:Eg}(he:e ∈ egsF c.b):∃ x ∈ c.b.links,e=egOf c.b x/\∃ f t:Nat,e.frm=f/\e.dst=t/\boxF c.b x.frm=f/\boxF c.b x.dst=t:=by
 obtain⟨x,hx,rfl,_⟩:=egsL_mem he
 obtain⟨f,t,h1,h2,h3,h4,h5,h6⟩:=link_box hn hl hx
 exact⟨x,hx,rfl,f,t,h5,h6,h3,h4⟩
theorem link_eg(hl:(linkO c.b).1=0){x:Link}(hx:x ∈ c.b.links):egOf c.b x ∈ egsF c.b:=by
 obtain⟨h1,_⟩:=link_known hl hx
 obtain⟨g0,_⟩:=plc_at h1
 have g2:=plc_lt (fullsL c.b.boxes) x.frm
 unfold egsF egsL
 rw[List.mem_flatMap]
 refine⟨(plc (fullsL c.b.boxes) x.frm).toNat,List.mem_range.2 (by omega),?_⟩
 unfold egAt
 rw[Int.toNat_of_nonneg g0,lkAt_one hl hx]
 simp
theorem dist_reach(hn:(nameO c.b).1=0)(hl:(linkO c.b).1=0)(hE:∀ e ∈ egsF c.b,1<=e.cost)(hd:IsDist N (egsF c.b) (byF (ownN c.boxes.l c.boxes.l.length) k) far) :
    ∀ (m:Nat) (v:Nat) (x:Int),x.toNat<=m->far[v]? = some x->0<=x->∃ i,Nr c.b v i/\Owns c i k:=by
 intro m
 induction m with
 | zero=>
  intro v x hx hv h0
  rcases hd.tight v x hv h0 with⟨_,h⟩|⟨e,he,_,y,_,hy0,hxy⟩
  . exact⟨v,.refl,owns_by.1 h⟩
  . have:=hE e he;omega
 | succ m ih=>
  intro v x hx hv h0
  rcases hd.tight v x hv h0 with⟨_,h⟩|⟨e,he,hf,y,hy,hy0,hxy⟩
  . exact⟨v,.refl,owns_by.1 h⟩
  . have hc:=hE e he
    obtain⟨i,h1,h2⟩:=ih e.dst.toNat y (by omega) hy hy0
    obtain⟨z,hz,_,f,t,e1,e2,e3,e4⟩:=eg_link hn hl he
    refine⟨i,Nr.trans (.step .refl hz (j:=e.dst.toNat) (by omega) (by omega)) h1,h2⟩
theorem reach_dist(hl:(linkO c.b).1=0)(hn:(nameO c.b).1=0)(hd:IsDist N (egsF c.b) (byF (ownN c.boxes.l c.boxes.l.length) k) far){v i:Nat}(h:Nr c.b v i)(ho:∃ x,far[i]? = some x/\0<=x):∃ x,far[v]? = some x/\0<=x:=by
 induction h with
 | refl=>exact ho
 | step _ hx h1 h2 ih=>
  obtain⟨y,hy,hy0⟩:=ho
  obtain⟨f,t,a1,a2,a3,a4,a5,a6⟩:=link_box hn hl hx
  refine ih ?_
  obtain⟨x,e1,e2,_⟩:=hd.edge _ (link_eg hl hx) y (by rw[a6];have:(t:Int)=_:=a4.symm.trans h2;rw[this];simpa using hy) hy0
  rw[a5] at e1
  have:(f:Int)=_:=a3.symm.trans h1
  rw[this] at e1
  exact⟨x,by simpa using e1,e2⟩
end
structure TabsOk(c:Config)(L:List (List Route)):Prop where
 len:L.length=c.boxes.l.length
 at_:∃ ks:List Key,(∀ k,k ∈ ks ↔ byF (ownN c.boxes.l c.boxes.l.length) k ≠ [])/\(∀ k ∈ ks,graphE c.boxes.l.length (egsF c.b) (byF (ownN c.boxes.l c.boxes.l.length) k)=0) /\
  ∀ i:Nat,i<c.boxes.l.length->checkE (rbits c.b) (rawF c ks ks.length i)=0/\L[i]? = some (layF c.slim (rbits c.b) (rawF c ks ks.length i))
def Near(c:Config)(i:Nat)(k:Key):Prop:=∃ j,Nr c.b i j/\Owns c j k
theorem byF_ne{c:Config}{k:Key}:byF (ownN c.boxes.l c.boxes.l.length) k ≠ [] ↔ ∃ i,Owns c i k:=by
 constructor
 . intro h
   obtain⟨d,hd⟩:=List.exists_mem_of_ne_nil _ h
   obtain⟨i,rfl⟩:=by_nat hd
   exact⟨i,owns_by.1 hd⟩
 . rintro⟨i,hi⟩ h0
   have:=owns_by.2 hi
   rw[h0] at this
   cases this
section
variable {c : Config} {ks : List Key}
theorem key_dist(hg:∀ k ∈ ks,graphE c.boxes.l.length (egsF c.b) (byF (ownN c.boxes.l c.boxes.l.length) k)=0){k:Key}(hk:k ∈ ks) :
    IsDist c.boxes.l.length (egsF c.b) (byF (ownN c.boxes.l c.boxes.l.length) k) (farK c k)/\IsFirst c.boxes.l.length (egsF c.b) (farK c k) (fstK c k) 0 (egsF c.b).length/\∀ e ∈ egsF c.b,1<=e.cost:=by
 obtain⟨N,far,fst,h1,h2,h3,h4,h5⟩:=short_ok (hg k hk)
 obtain rfl:c.boxes.l.length=N:=by omega
 unfold farK fstK
 rw[h4,h5]
 obtain⟨_,_,_,_,hE,_⟩:=graphE_ok (hg k hk)
 exact⟨h2,h3,fun e he=>(hE e he).2.2.2.2.1⟩
inductive InRaw(c:Config)(i:Nat)(s:Route):Prop where
 | own (b:Box) (q:Pfx) (hb:c.boxes.l[i]? = some b) (hq:q ∈ b.owns.l) (hs:s=rtO c b 1 q)
 | cmp (k:Key) (x y:Int) (e:Eg) (t:Nat) (he:e ∈ egsF c.b) (hf:e.frm=(i:Int)) (ht:e.dst=(t:Int)) (hx:(farK c k)[i]? = some x) (hy:(farK c k)[t]? = some y) (y0:0<=y) (xy:y<x) (hk:∃ j,Owns c j k)
     (hs:s=⟨3,k.1,k.2,e.out⟩)
theorem raw_in(hn:(nameO c.b).1=0)(hl:(linkO c.b).1=0)(hks:∀ k,k ∈ ks ↔ byF (ownN c.boxes.l c.boxes.l.length) k ≠ [])(hg:∀ k ∈ ks,graphE c.boxes.l.length (egsF c.b) (byF (ownN c.boxes.l c.boxes.l.length) k)=0)
    (hw:∀ b ∈ c.boxes.l,b.routes.l=[]){i:Nat}{s:Route}(h:s ∈ rawF c ks ks.length i):InRaw c i s:=by
 unfold rawF at h
 rcases mAp0.1 h with h|h
 . unfold wrtJ at h
   split at h
   . rename_i b hb
     unfold wrtB at h
     rw[hw b (mOf0 hb)] at h
     simp only[List.map_nil,List.append_nil] at h
     obtain⟨q,hq,rfl⟩:=List.mem_map.1 h
     exact .own b q hb hq rfl
   . cases h
 . rw[List.take_length] at h
   obtain⟨k,hk,hs⟩:=List.mem_flatMap.1 h
   obtain⟨hd,hf,hc⟩:=key_dist hg hk
   unfold cmpR at hs
   split at hs
   case isFalse=>cases hs
   rename_i hpos
   have hs:=List.mem_singleton.1 hs
   obtain⟨x,hx⟩:∃ x,(farK c k)[i]? = some x:=by
    cases e:(farK c k)[i]? with
    | none=>rw[e] at hpos;simp at hpos
    | some x=>exact⟨x,rfl⟩
   rw[hx] at hpos
   simp only[Option.getD_some] at hpos
   have hil:i<(fstK c k).length:=by rw[hf.1,<- hd.len];exact (gSm0.1 hx).1
   have hfi:=hf.2 i _ (gEt0 hil)
   rcases hfi with⟨_,hno⟩|⟨j,hj,_,hjl,⟨e,x',y,h1,h2,h3,h4,h5,h6⟩,_⟩
   . exfalso
     rcases hd.tight i x hx (by omega) with⟨h0,_⟩|⟨e,he,h2,y,h3,h4,h5⟩
     . omega
     . obtain⟨j,hj⟩:=List.getElem?_of_mem he
       exact hno j (Nat.zero_le _) (gSm0.1 hj).1 ⟨e,x,y,hj,by omega,h3,h4,hx,h5⟩
   . rw[hx] at h5
     cases h5
     have hem:=mOf0 h1
     obtain⟨z,hz,_,f,t,e1,e2,_,_⟩:=eg_link hn hl hem
     have hce:=hc e hem
     refine .cmp k x y e t hem (by omega) e2 hx (by rw[e2] at h3;simpa using h3) h4 (by omega) (byF_ne.1 ((hks k).1 hk)) ?_
     rw[hs]
     have:outE c k i=e.out:=by
      unfold outE
      rw[gEt0 hil,Option.getD_some,hj,Int.toNat_natCast,h1]
      rfl
     rw[this]
theorem raw_has(hn:(nameO c.b).1=0)(hl:(linkO c.b).1=0)(hks:∀ k,k ∈ ks ↔ byF (ownN c.boxes.l c.boxes.l.length) k ≠ [])(hg:∀ k ∈ ks,graphE c.boxes.l.length (egsF c.b) (byF (ownN c.boxes.l c.boxes.l.length) k)=0)
    {i:Nat}{k:Key}(h:Near c i k):(∃ x,(farK c k)[i]? = some x/\0<=x)/\∃ s ∈ rawF c ks ks.length i,s.value=k.1/\s.len=k.2:=by
 obtain⟨j,h1,h2⟩:=h
 have hk:k ∈ ks:=(hks k).2 (byF_ne.2 ⟨j,h2⟩)
 obtain⟨hd,hf,hc⟩:=key_dist hg hk
 obtain⟨x,hx,hx0⟩:=reach_dist hl hn hd h1 ⟨0,by have:=hd.dest _ (owns_by.2 h2);simpa using this,Int.le_refl _⟩
 refine⟨⟨x,hx,hx0⟩,?_⟩
 by_cases hp:0<x
 . refine⟨⟨3,k.1,k.2,outE c k i⟩,?_,rfl,rfl⟩
   unfold rawF
   refine List.mem_append_right _ ?_
   rw[List.take_length]
   refine List.mem_flatMap.2 ⟨k,hk,?_⟩
   unfold cmpR
   rw[hx,if_pos (by simpa using hp)]
   simp
 . rcases hd.tight i x hx hx0 with⟨_,h⟩|⟨e,he,_,y,_,hy0,hxy⟩
   . obtain⟨b,q,b1,b2,b3⟩:=owns_by.1 h
     refine⟨rtO c b 1 q,?_,by rw[<- b3];rfl,by rw[<- b3];rfl⟩
     unfold rawF wrtJ
     rw[b1]
     refine List.mem_append_left _ ?_
     unfold wrtB
     exact List.mem_append_left _ (List.mem_map.2 ⟨q,b2,rfl⟩)
   . have:=hc e he;omega
end
def Best(c:Config)(v:Int)(i:Nat)(k:Key):Prop:=Near c i k/\hasK (rbits c.b) k v/\∀ k',Near c i k'->hasK (rbits c.b) k' v->k'.2<=k.2
theorem one_hop{c:Config}{L:List (List Route)}(hT:TabsOk c L)(hn:(nameO c.b).1=0)(hl:(linkO c.b).1=0)(hw:∀ b ∈ c.boxes.l,b.routes.l=[]){v:Int}(h0:0<=v)(h1:v<2 ^ (rbits c.b).toNat){i:Nat}(hi:i<c.boxes.l.length) :
    ∃ l,L[i]? = some l/\lookE (rbits c.b) l v=0/\((lookK (rbits c.b) l v=-1/\∀ k,Near c i k->¬ hasK (rbits c.b) k v) \/
     ∃ (m:Nat) (r:Route),lookK (rbits c.b) l v=(m:Int)/\l[m]? = some r/\∃ k,Best c v i k /\
      ((∃ b q,c.boxes.l[i]? = some b/\q ∈ b.owns.l/\keyOf q=k/\r.out=outN c b q) \/
       ∃ (x y:Int) (e:Eg) (t:Nat),e ∈ egsF c.b/\e.frm=(i:Int)/\e.dst=(t:Int)/\(farK c k)[i]? = some x/\(farK c k)[t]? = some y/\0<=y/\y<x/\r.out=e.out)):=by
 obtain⟨ks,hks,hg,hL⟩:=hT.at_
 obtain⟨hc,hLi⟩:=hL i hi
 obtain⟨_,_,_,hok⟩:=checkE_ok hc
 obtain⟨e1,e2,e3,e4⟩:=lay_out (slim:=c.slim) hc h0 h1
 refine⟨_,hLi,e1,?_⟩
 generalize layF c.slim (rbits c.b) (rawF c ks ks.length i)=l at e1 e2 e3 e4 ⊢
 have hpk:=pick_ex (rbits c.b) (rawF c ks ks.length i) v
 rcases e2 with⟨hk,hno⟩|⟨x,hx,hxk,hxh,hxm⟩
 . left
   refine⟨hk,fun k hk' hh=>?_⟩
   obtain⟨_,s,hs,s1,s2⟩:=raw_has hn hl hks hg hk'
   rw[hk,show outK l (-1)=-1 from rfl] at e4
   rcases hpk with⟨_,hno2⟩|⟨z,hz,hzk,_,_⟩
   . obtain⟨a,ha⟩:=List.getElem?_of_mem hs
     obtain⟨ha1,ha2⟩:=gSm0.1 ha
     exact hno2 _ (numb_at _ a ha1) ((hasK_of (by simpa[ha2] using s1) (by simpa[ha2] using s2)).2 hh)
   . obtain⟨a,ha,rfl⟩:=numb_mem hz
     rw[<- hzk] at e4
     unfold outK at e4
     rw[if_neg (by simp)] at e4
     simp only[Int.toNat_natCast,gEt0 ha] at e4
     have:=(hok _ (List.getElem_mem ha)).2.2.2.2.1
     omega
 . right
   obtain⟨m,hm,rfl⟩:=numb_mem hx
   refine⟨m,l[m],hxk.symm,gEt0 hm,?_⟩
   have eo:outK l (lookK (rbits c.b) l v)=l[m].out:=by
    rw[<- hxk]
    unfold outK
    rw[if_neg (by simp)]
    simp[gEt0 hm]
   rw[eo] at e4
   have hout:=(e3 _ (List.getElem_mem hm)).2.2.2.2.1
   rcases hpk with⟨hk2,_⟩|⟨z,hz,hzk,hzh,hzm⟩
   . rw[hk2] at e4
     have:outK (rawF c ks ks.length i) (-1)=-1:=rfl
     omega
   . obtain⟨a,ha,rfl⟩:=numb_mem hz
     have hs:outK (rawF c ks ks.length i) (pick (rbits c.b) (rawF c ks ks.length i) v)=(rawF c ks ks.length i)[a].out:=by
      rw[<- hzk]
      unfold outK
      rw[if_neg (by simp)]
      simp[gEt0 ha]
     rw[hs] at e4
     obtain⟨s,hsd⟩:∃ s,s=(rawF c ks ks.length i)[a]:=⟨_,rfl⟩
     have hsm:s ∈ rawF c ks ks.length i:=by rw[hsd];exact List.getElem_mem ha
     rw[<- hsd] at e4
     have hlong:∀ k',Near c i k'->hasK (rbits c.b) k' v->k'.2<=s.len:=by
      intro k' hk' hh
      obtain⟨_,t,ht,t1,t2⟩:=raw_has hn hl hks hg hk'
      obtain⟨a',ha'⟩:=List.getElem?_of_mem ht
      obtain⟨ha1,ha2⟩:=gSm0.1 ha'
      have:=hzm _ (numb_at _ a' ha1) ((hasK_of (by simpa[ha2] using t1) (by simpa[ha2] using t2)).2 hh)
      unfold firstP at this
      simp only[ha2,<- hsd,t2] at this
      split at this<;>omega
     have hsh:hasR (rbits c.b) s v:=by rw[hsd];exact hzh
     rcases raw_in hn hl hks hg hw hsm with⟨b,q,b1,b2,b3⟩|⟨k,x,y,e,t,c1,c2,c3,c4,c5,c6,c7,c8,c9⟩
     . refine⟨keyOf q,⟨⟨i,.refl,b,q,b1,b2,rfl⟩,(hasK_of (by rw[b3];rfl) (by rw[b3];rfl)).1 hsh,?_⟩,.inl ⟨b,q,b1,b2,rfl,by rw[e4,b3];rfl⟩⟩
       rw[b3] at hlong
       exact hlong
     . have hkk:k ∈ ks:=(hks k).2 (byF_ne.2 c8)
       obtain⟨hd,_,hE⟩:=key_dist hg hkk
       refine⟨k,⟨?_,(hasK_of (by rw[c9]) (by rw[c9])).1 hsh,?_⟩,.inr ⟨x,y,e,t,c1,c2,c3,c4,c5,c6,c7,by rw[e4,c9]⟩⟩
       . exact dist_reach hn hl hE hd x.toNat i x (Nat.le_refl _) c4 (by omega)
       . rw[c9] at hlong
         exact hlong
end Go.Proofs.YtnlingegeangmaaGreatDoor
namespace Go.Proofs.YtnlingegeangmaaGreatDoor
open Go Go.Vx
theorem chk_nameF{all:List Fd}:∀ (r:List Fd) (i:Nat) (sum:Int),(chkFrom all r i sum).1=0->∀ f ∈ r,NameP f.name
 | [],_,_,_,f,hf=>by cases hf
 | x :: r,i,sum,h,f,hf=>by
  by_cases hb:badF (all.take i) x sum
  . rw[chkFrom_bad hb] at h;cases h
  . rw[chkFrom_ok hb] at h
    rcases List.mem_cons.1 hf with rfl|hf
    . exact Classical.not_not.1 fun hn=>hb (.inl hn)
    . exact chk_nameF r _ _ h f hf
theorem fld_name{c:ConfigB}(h:HeadOk c){f:SI}(hf:f ∈ c.fields):f.s ≠ []:=by
 have h0:=h.chk
 have h1:(chkFrom (fds c.fields) (fds c.fields) 0 0).1=0:=by
  unfold chkO at h0
  split at h0
  . cases h0
  split at h0
  . cases h0
  rw[h0]
 have:=chk_nameF _ 0 0 h1 f.fd (List.mem_map.2 ⟨f,hf,rfl⟩)
 intro he
 have e:f.fd.name=[]:=he
 rw[e] at this
 revert this
 unfold NameP
 simp
def brow(b:Bool):List D:=[.b (b=true)]
theorem boxOf_at(c:Config)(hc:c.Ok)(name:Str)(hn:name.length<=1048576000):FSpec Tryz.prog T 67 [.agg c.row,.s name] (fun d _=>d = .i .i64 (boxF c.b name)):=by
 have hbl:(c.boxes.l.map Box.row).length=c.boxes.l.length:=by simp
 have hbn:=hc.boxes
 refine FSpec.of_ok tok Tryz.func67 rfl Tryz.call67 (by simp) ?_
 (try (conv=>whnf));repeat' (first|refine Ok.seq ?_|(refine Ok.region tok ?_;conv=>whnf)|refine Ok.block ?_|fail)
 refine Ok.loopU [1,2] [5] 0 1 (fun (i:Nat)=>[.i .i64 (i:Nat)]) (fun (i:Nat) (_:List (List D))=>[c.row]) (fun _ r=>r) (fun (i:Nat)=>i<=c.boxes.l.length/\∀ (j:Nat) x,j<i->c.b.boxes[j]? = some x->¬ isOf x.name name) (fun (i:Nat)=>c.boxes.l.length - i) (0) (⟨Nat.zero_le _,fun j x h=>absurd h (Nat.not_lt_zero j)⟩) ?_;(conv=>whnf);refine⟨by ((conv=>whnf);first|rfl|(simp[envCat, tkL0, SI.row, Node.row, Pfx.row, Link.row, srow, Line.row, Rule.row, Box.row, Slc.row, Config.row, brow];done)|(simp[envCat, tkL0, SI.row, Node.row, Pfx.row, Link.row, srow, Line.row, Rule.row, Box.row, Slc.row, Config.row, brow];rw[IntKind.wrap_i64];omega)),?_⟩
 rintro i ⟨hi,hno⟩
 (conv=>whnf)
 by_cases hlt:i<c.boxes.l.length
 . obtain⟨b,hb⟩:∃ b,c.boxes.l[i]? = some b:=⟨_,gEt0 hlt⟩
   have hbI:c.boxes.l[((i:Nat):Int).toNat]? = some b:=hb
   have hbr:(c.boxes.l.map Box.row)[((i:Nat):Int).toNat]? = some b.row:=by rw[gMp0,hbI];rfl
   have hbb:c.b.boxes[i]? = some b.b:=by simp[Config.b,hb]
   by_cases his:isOf b.name name
   . obtain⟨g1,g2,g3⟩:=id his
     (try (conv=>whnf));repeat' (first|(refine⟨46,g3,_,rfl,?_⟩;conv=>whnf)|refine Ok.seq ?_|((first|refine Ok.region tok ?_|refine Ok.region_draw tok follows (by kernel_rfl) ?_|refine Ok.cond ?_);conv=>whnf)|refine Ok.block ?_|((first|refine Ok.skip ?_|refine Ok.ret ?_|refine nI ?_|refine ix _ (by assumption) ?_|refine⟨_,_,rfl,rfl,?_⟩);conv=>whnf)|(refine bI ?_ ?_<;>intro<;>(conv=>whnf)<;>(try (exfalso;omega)))|((first|refine aJ ?_|refine⟨_,rfl,?_⟩);conv=>whnf)|fail)
     all_goals first
      | (refine Or.inl ?_;(conv=>whnf)
         show D.i _ _=_
         rw[show boxF c.b name=(0+i:Nat) from boxN_first hbb his hno,Nat.zero_add]
         done)
      | (exfalso;rename_i hx;exact hx rfl)
      | (exfalso;rename_i hx;exact hx (by simpa using g2))
      | (exfalso;omega)
   . (try (conv=>whnf));repeat' (first|(refine⟨_,gEt0 (show b.name.length<name.length by omega),_,rfl,?_⟩;conv=>whnf)|refine Ok.seq ?_|((first|refine Ok.region tok ?_|refine Ok.region_draw tok follows (by kernel_rfl) ?_|refine Ok.cond ?_);conv=>whnf)|refine Ok.block ?_|((first|refine Ok.skip ?_|refine Ok.ret ?_|refine nI ?_|refine ix _ (by assumption) ?_|refine⟨_,_,rfl,rfl,?_⟩);conv=>whnf)|(refine bI ?_ ?_<;>intro<;>(conv=>whnf)<;>(try (exfalso;omega)))|((first|refine aJ ?_|refine⟨_,rfl,?_⟩);conv=>whnf)|fail)
     all_goals first
      | (refine⟨i+1,by omega,⟨by omega,fun j x hj hx=>?_⟩,?_⟩
         . rcases Nat.lt_or_ge j i with h|h
           . exact hno j x h hx
           . obtain rfl:j=i:=by omega
             rw[hbb] at hx
             cases hx
             exact his
         . (conv=>whnf);(first|rfl|simp[envCat, tkL0, SI.row, Node.row, Pfx.row, Link.row, srow, Line.row, Rule.row, Box.row, Slc.row, Config.row, brow])
         done)
      | (exfalso
         rename_i hx hy hz
         refine his ⟨by omega,by simpa using hy,?_⟩
         rw[gEt0 (by omega)]
         congr 1
         refine UInt8.toNat_inj.1 ?_
         show _=46
         omega)
 . obtain rfl:i=c.boxes.l.length:=by omega
   (try (conv=>whnf));repeat' (first|refine Ok.seq ?_|((first|refine Ok.region tok ?_|refine Ok.cond ?_|refine Ok.exit ?_|refine Ok.ret ?_);conv=>whnf)|(refine bI ?_ ?_<;>intro<;>(conv=>whnf)<;>(try (exfalso;omega)))|fail)
   refine Or.inl ?_;(conv=>whnf)
   show D.i _ _=_
   rw[show boxF c.b name=-1 from boxN_none fun x hx=>by
    obtain⟨j,hj⟩:=List.getElem?_of_mem hx
    exact hno j x (by have:=(gSm0.1 hj).1;simpa[Config.b] using this) hj]
theorem bits_at(c:Config)(hc:c.Ok):FSpec Tryz.prog T 16 [.agg c.row] (fun d rows=>rows=[]/\∃ x,d = .i .i64 x/\((∃ (k:Nat) (f:SI),c.fields.l[k]? = some f/\f.s=c.routing/\x=f.n)\/((∀ (j:Nat) f,c.fields.l[j]? = some f->f.s ≠ c.routing)/\x=0))):=by
 have hfl:(c.fields.l.map SI.row).length=c.fields.l.length:=by simp
 have hfn:=hc.fields
 refine FSpec.of_ok tok Tryz.func16 rfl Tryz.call16 (by simp) ?_
 (try (conv=>whnf));repeat' (first|refine Ok.seq ?_|(refine Ok.region tok ?_;conv=>whnf)|refine Ok.block ?_|fail)
 refine Ok.loopU [1] [3] 0 1 (fun (i:Nat)=>[.i .i64 (i:Nat)]) (fun (i:Nat) (_:List (List D))=>[c.row]) (fun _ r=>r) (fun (i:Nat)=>i<=c.fields.l.length/\∀ (j:Nat) f,j<i->c.fields.l[j]? = some f->f.s ≠ c.routing) (fun (i:Nat)=>c.fields.l.length - i) (0) (⟨Nat.zero_le _,fun j x h=>absurd h (Nat.not_lt_zero j)⟩) ?_;(conv=>whnf);refine⟨by ((conv=>whnf);first|rfl|(simp[envCat, tkL0, SI.row, Node.row, Pfx.row, Link.row, srow, Line.row, Rule.row, Box.row, Slc.row, Config.row, brow];done)|(simp[envCat, tkL0, SI.row, Node.row, Pfx.row, Link.row, srow, Line.row, Rule.row, Box.row, Slc.row, Config.row, brow];rw[IntKind.wrap_i64];omega)),?_⟩
 rintro i ⟨hi,hno⟩
 (conv=>whnf)
 by_cases hlt:i<c.fields.l.length
 . obtain⟨f,hf⟩:∃ f,c.fields.l[i]? = some f:=⟨_,gEt0 hlt⟩
   have hfI:c.fields.l[((i:Nat):Int).toNat]? = some f:=hf
   have hfr:(c.fields.l.map SI.row)[((i:Nat):Int).toNat]? = some f.row:=by rw[gMp0,hfI];rfl
   (try (conv=>whnf));repeat' (first|refine Ok.seq ?_|((first|refine Ok.region tok ?_|refine Ok.region_draw tok follows (by kernel_rfl) ?_|refine Ok.cond ?_);conv=>whnf)|refine Ok.block ?_|((first|refine Ok.skip ?_|refine Ok.ret ?_|refine nI ?_|refine ix _ (by assumption) ?_);conv=>whnf)|(refine bI ?_ ?_<;>intro<;>(conv=>whnf)<;>(try (exfalso;omega)))|fail)
   all_goals first
    | (refine Or.inl ?_;(conv=>whnf)
       exact⟨rfl,_,rfl,.inl ⟨i,f,hf,by assumption,rfl⟩⟩)
    | (refine⟨i+1,by omega,⟨by omega,fun j x hj hx=>?_⟩,?_⟩
       . rcases Nat.lt_or_ge j i with h|h
         . exact hno j x h hx
         . obtain rfl:j=i:=by omega
           rw[hf] at hx
           cases hx
           assumption
       . (conv=>whnf);(first|rfl|simp[envCat, tkL0, SI.row, Node.row, Pfx.row, Link.row, srow, Line.row, Rule.row, Box.row, Slc.row, Config.row, brow])
       done)
 . obtain rfl:i=c.fields.l.length:=by omega
   (try (conv=>whnf));repeat' (first|refine Ok.seq ?_|((first|refine Ok.region tok ?_|refine Ok.cond ?_|refine Ok.exit ?_|refine Ok.ret ?_);conv=>whnf)|(refine bI ?_ ?_<;>intro<;>(conv=>whnf)<;>(try (exfalso;omega)))|fail)
   refine Or.inl ?_;(conv=>whnf)
   exact⟨rfl,_,rfl,.inr ⟨fun j f hj=>hno j f (gSm0.1 hj).1 hj,rfl⟩⟩
theorem bits_ok(c:Config)(hc:c.Ok)(h0:(checkO c.b).1=0)(hr:c.routing ≠ []):FSpec Tryz.prog T 16 [.agg c.row] (fun d _=>d = .i .i64 (rbits c.b)):=by
 obtain⟨hh,_⟩:=check_parts h0
 obtain⟨k,f,h1,h2,h3,h4,_⟩:=rbits_at (c:=c.b) (head_ok hh) hr
 refine (bits_at c hc).mono ?_
 rintro d _ ⟨_,x,rfl,⟨k',f',g1,g2,rfl⟩|⟨g1,_⟩⟩
 . have:k'=k:=fld_uniq (c:=c.b) (head_ok hh) g1 h2 (g2.trans h3.symm)
   subst this
   have:=g1.symm.trans h2
   cases this
   rw[h4]
 . exact absurd h3 (g1 k f h2)
end Go.Proofs.YtnlingegeangmaaGreatDoor
namespace Go.Proofs.YtnlingegeangmaaGreatDoor
open Go Go.Vx
theorem near_at(c:Config)(hc:c.Ok)(ht:c.Tx)(h0:(checkO c.b).1=0)(b:Nat)(hb:b<c.boxes.l.length):FSpec Tryz.prog T 62 [.agg c.row,.i .i64 (b:Nat)] (fun d rows=>rows=[some (4,(nearF c.b b).map brow)]/\d = .own 0 c.boxes.l.length):=by
 obtain⟨_,h1,h2,_,h4,_⟩:=check_parts h0
 have hbl:(c.boxes.l.map Box.row).length=c.boxes.l.length:=by simp
 have hll:(c.links.l.map Link.row).length=c.links.l.length:=by simp
 have hcb:c.b.boxes.length=c.boxes.l.length:=by simp[Config.b]
 have hbn:=hc.boxes
 have hln:=hc.links
 obtain⟨l0,hl0⟩:∃ l0,l0=(List.replicate c.boxes.l.length false).set b true:=⟨_,rfl⟩
 have hl0l:l0.length=c.boxes.l.length:=by rw[hl0];simp
 have hrep:(List.replicate c.boxes.l.length false)[b]? = some false:=by rw[List.getElem?_replicate,if_pos hb]
 have hrp:((List.replicate c.boxes.l.length false).map brow).length=c.boxes.l.length:=by simp
 refine FSpec.of_ok tok Tryz.func62 rfl Tryz.call62 (by simp) ?_
 (try (conv=>whnf));repeat' (first|(refine⟨_,_,rfl,rfl,Nat.le_refl _,by omega,?_⟩;(conv=>whnf);refine⟨(List.replicate c.boxes.l.length false).map brow,by simp[brow],?_⟩;(conv=>whnf))|(refine st true hrep (by simp[brow]) (by simp[setCells,brow]) ?_;conv=>whnf)|refine Ok.seq ?_|(refine Ok.region tok ?_;conv=>whnf)|refine Ok.block ?_|(refine aJ ?_;conv=>whnf)|fail)
 rw[show ((b:Nat):Int).toNat=b from rfl,<- hl0]
 refine Ok.loopU [2,5] [6] 1 1 (fun (r:Nat)=>[.i .i64 (r:Nat)]) (fun (r:Nat) (_:List (List D))=>[c.row]) (fun (r:Nat) (_:Vx.Rows)=>[some (4,(nrounds c.b l0 r).map brow)]) (fun (r:Nat)=>r<=c.boxes.l.length) (fun (r:Nat)=>c.boxes.l.length - r) (0) (Nat.zero_le _) ?_;(conv=>whnf);refine⟨by ((conv=>whnf);first|rfl|(simp[envCat, tkL0, SI.row, Node.row, Pfx.row, Link.row, srow, Line.row, Rule.row, Box.row, Slc.row, Config.row, brow];done)|(simp[envCat, tkL0, SI.row, Node.row, Pfx.row, Link.row, srow, Line.row, Rule.row, Box.row, Slc.row, Config.row, brow];rw[IntKind.wrap_i64];omega)),?_⟩
 rintro r hr
 (conv=>whnf)
 by_cases hlt:r<c.boxes.l.length
 . (try (conv=>whnf));repeat' (first|refine Ok.seq ?_|((first|refine Ok.region tok ?_|refine Ok.cond ?_);conv=>whnf)|refine Ok.block ?_|(refine Ok.skip ?_;conv=>whnf)|(refine bI ?_ ?_<;>intro<;>(conv=>whnf)<;>(try (exfalso;omega)))|fail)
   have hcl:=(nrounds_leB c.b l0 r).1
   refine Ok.loopU [2,5,6] [7] 1 1 (fun (i:Nat)=>[.i .i64 (i:Nat)]) (fun (i:Nat) (_:List (List D))=>[c.row]) (fun (i:Nat) (_:Vx.Rows)=>[some (4,((c.links.l.take i).foldl (nstep c.b) (nrounds c.b l0 r)).map brow)]) (fun (i:Nat)=>i<=c.links.l.length) (fun (i:Nat)=>c.links.l.length - i) (0) (Nat.zero_le _) ?_;(conv=>whnf);refine⟨by ((conv=>whnf);first|rfl|(simp[envCat, tkL0, SI.row, Node.row, Pfx.row, Link.row, srow, Line.row, Rule.row, Box.row, Slc.row, Config.row, brow];done)|(simp[envCat, tkL0, SI.row, Node.row, Pfx.row, Link.row, srow, Line.row, Rule.row, Box.row, Slc.row, Config.row, brow];rw[IntKind.wrap_i64];omega)),?_⟩
   rintro i hi
   (conv=>whnf)
   by_cases hil:i<c.links.l.length
   . obtain⟨x,hx⟩:∃ x,c.links.l[i]? = some x:=⟨_,gEt0 hil⟩
     have hxI:c.links.l[((i:Nat):Int).toNat]? = some x:=hx
     have hxr:(c.links.l.map Link.row)[((i:Nat):Int).toNat]? = some x.row:=by rw[gMp0,hxI];rfl
     have hxm:=mOf0 hx
     obtain⟨f,t,a1,a2,a3,a4,_⟩:=link_box (c:=c.b) h2 h4 hxm
     have hxt:=ht.links x hxm
     have hf1:x.frm.length<=1048576:=hxt.frm
     have hf2:x.dst.length<=1048576:=hxt.dst
     have s1:=boxOf_at c hc x.frm (by omega)
     have s2:=boxOf_at c hc x.dst (by omega)
     rw[a3] at s1
     rw[a4] at s2
     obtain⟨cur,hcur⟩:∃ cur,cur=(c.links.l.take i).foldl (nstep c.b) (nrounds c.b l0 r):=⟨_,rfl⟩
     have hcul:cur.length=c.boxes.l.length:=by rw[hcur,<- (leB_fold c.b (c.links.l.take i) (nrounds c.b l0 r)).1,<- hcl,hl0l]
     have hcum:(cur.map brow).length=cur.length:=by simp
     have hnext:(c.links.l.take (i+1)).foldl (nstep c.b) (nrounds c.b l0 r)=nstep c.b cur x:=by rw[List.take_add_one,hx,List.foldl_append,<- hcur];rfl
     rw[<- hcur]
     obtain⟨bf,hbf⟩:∃ bf,cur[f]? = some bf:=⟨_,gEt0 (by omega)⟩
     obtain⟨bt,hbt⟩:∃ bt,cur[t]? = some bt:=⟨_,gEt0 (by omega)⟩
     have hbfI:cur[((f:Nat):Int).toNat]? = some bf:=hbf
     have hbtI:cur[((t:Nat):Int).toNat]? = some bt:=hbt
     cases bf with
     | true=>
      have hns:nstep c.b cur x=cur.set t true:=by
       unfold nstep
       rw[a3,a4,if_pos ⟨by omega,by omega,by simpa using hbf⟩]
       simp
      (try (conv=>whnf));repeat' (first|((first|refine rd rfl hbfI ?_|refine st true hbtI (by simp[brow]) (by simp[setCells,brow]) ?_);conv=>whnf)|refine Ok.seq ?_|((first|refine Ok.region tok ?_|refine Ok.region_draw tok follows (by kernel_rfl) ?_|refine Ok.cond ?_);conv=>whnf)|refine Ok.block ?_|((first|refine Ok.skip ?_|refine nI ?_|refine ix _ (by assumption) ?_|refine⟨_,by assumption,?_⟩);conv=>whnf)|(refine bI ?_ ?_<;>intro<;>(conv=>whnf)<;>(try (exfalso;omega)))|(refine aJ ?_;conv=>whnf)|fail)
      all_goals first
       | (refine⟨i+1,by omega,by omega,?_⟩
          rw[hnext,hns]
          (conv=>whnf);(first|rfl|simp[envCat, tkL0, SI.row, Node.row, Pfx.row, Link.row, srow, Line.row, Rule.row, Box.row, Slc.row, Config.row, brow])
          done)
       | (exfalso;omega)
       | (exact absurd (by assumption:false=true) (by simp))
       | (exact absurd trivial (by assumption:¬ True))
       | (exfalso;rename_i hz;simp at hz;done)
       | (exfalso;rename_i hz _;simp at hz;done)
     | false=>
      have hns:nstep c.b cur x=cur:=by
       unfold nstep
       rw[a3,if_neg (fun h=>by have:=h.2.2;rw[Int.toNat_natCast,hbf] at this;cases this)]
      (try (conv=>whnf));repeat' (first|(refine rd rfl hbfI ?_;conv=>whnf)|refine Ok.seq ?_|((first|refine Ok.region tok ?_|refine Ok.region_draw tok follows (by kernel_rfl) ?_|refine Ok.cond ?_);conv=>whnf)|refine Ok.block ?_|((first|refine Ok.skip ?_|refine nI ?_|refine ix _ (by assumption) ?_|refine⟨_,by assumption,?_⟩);conv=>whnf)|(refine bI ?_ ?_<;>intro<;>(conv=>whnf)<;>(try (exfalso;omega)))|(refine aJ ?_;conv=>whnf)|fail)
      all_goals first
       | (refine⟨i+1,by omega,by omega,?_⟩
          rw[hnext,hns]
          (conv=>whnf);(first|rfl|simp[envCat, tkL0, SI.row, Node.row, Pfx.row, Link.row, srow, Line.row, Rule.row, Box.row, Slc.row, Config.row, brow])
          done)
       | (exfalso;omega)
       | (exact absurd (by assumption:false=true) (by simp))
       | (exact absurd trivial (by assumption:¬ True))
       | (exfalso;rename_i hz;simp at hz;done)
       | (exfalso;rename_i hz _;simp at hz;done)
   . obtain rfl:i=c.links.l.length:=by omega
     rw[List.take_length]
     (try (conv=>whnf));repeat' (first|refine Ok.seq ?_|((first|refine Ok.region tok ?_|refine Ok.cond ?_|refine Ok.exit ?_|refine nI ?_);conv=>whnf)|(refine bI ?_ ?_<;>intro<;>(conv=>whnf)<;>(try (exfalso;omega)))|fail)
     refine⟨r+1,by omega,by omega,?_⟩
     (conv=>whnf);(first|rfl|simp[envCat, tkL0, SI.row, Node.row, Pfx.row, Link.row, srow, Line.row, Rule.row, Box.row, Slc.row, Config.row, brow])
 . obtain rfl:r=c.boxes.l.length:=by omega
   have e:nrounds c.b l0 c.boxes.l.length=nearF c.b b:=by unfold nearF;rw[hl0,hcb]
   rw[e]
   (try (conv=>whnf));repeat' (first|refine Ok.seq ?_|((first|refine Ok.region tok ?_|refine Ok.cond ?_|refine Ok.exit ?_|refine Ok.ret ?_);conv=>whnf)|(refine bI ?_ ?_<;>intro<;>(conv=>whnf)<;>(try (exfalso;omega)))|fail)
   refine Or.inr (Or.inl ?_);(conv=>whnf)
   refine⟨rfl,?_⟩
   rw[hbl]
   rfl
def OwnI(bits v:Int)(C:Key->Prop)(x:Int):Prop:=(x=-1/\∀ k,C k->¬ hasK bits k v)\/∃ k,C k/\hasK bits k v/\x=k.2/\∀ k',C k'->hasK bits k' v->k'.2<=x
theorem OwnI.congr{bits v x:Int}{C C':Key->Prop}(h:OwnI bits v C x)(hc:∀ k,C' k ↔ C k):OwnI bits v C' x:=by
 rcases h with⟨h1,h2⟩|⟨k,h1,h2,h3,h4⟩
 . exact .inl ⟨h1,fun k hk=>h2 k ((hc k).1 hk)⟩
 . exact .inr ⟨k,(hc k).2 h1,h2,h3,fun k' hk'=>h4 k' ((hc k').1 hk')⟩
theorem OwnI.take{bits v x:Int}{C C':Key->Prop}{k:Key}(h:OwnI bits v C x)(hk0:0<=k.2)(hc:∀ k',C' k' ↔ C k'\/k'=k)(hh:hasK bits k v)(hx:x<k.2):OwnI bits v C' k.2:=by
 refine .inr ⟨k,(hc k).2 (.inr rfl),hh,rfl,fun k' hk' hh'=>?_⟩
 rcases (hc k').1 hk' with h1|rfl
 . rcases h with⟨_,h2⟩|⟨_,_,_,_,h4⟩
   . exact absurd hh' (h2 k' h1)
   . have:=h4 k' h1 hh';omega
 . exact Int.le_refl _
theorem OwnI.skip{bits v x:Int}{C C':Key->Prop}{k:Key}(h:OwnI bits v C x)(hk0:0<=k.2)(hc:∀ k',C' k' ↔ C k'\/k'=k)(hh:¬ (hasK bits k v/\x<k.2)):OwnI bits v C' x:=by
 rcases h with⟨h1,h2⟩|⟨k0,h1,h2,h3,h4⟩
 . refine .inl ⟨h1,fun k' hk' hh'=>?_⟩
   rcases (hc k').1 hk' with h5|rfl
   . exact h2 k' h5 hh'
   . exact hh ⟨hh',by omega⟩
 . refine .inr ⟨k0,(hc k0).2 (.inl h1),h2,h3,fun k' hk' hh'=>?_⟩
   rcases (hc k').1 hk' with h5|rfl
   . exact h4 k' h5 hh'
   . exact Int.not_lt.1 fun h6=>hh ⟨hh',h6⟩
def Cons(c:Config)(l:List Bool)(i m:Nat)(k:Key):Prop:=(∃ j,j<i/\l[j]? = some true/\Owns c j k)\/(l[i]? = some true/\∃ b,c.boxes.l[i]? = some b/\∃ p ∈ b.owns.l.take m,keyOf p=k)
theorem Cons.next{c:Config}{l:List Bool}{i:Nat}{b:Box}(hb:c.boxes.l[i]? = some b)(k:Key):Cons c l (i+1) 0 k ↔ Cons c l i b.owns.l.length k:=by
 unfold Cons
 constructor
 . rintro (⟨j,h1,h2,h3⟩|⟨_,b',_,p,hp,_⟩)
   . rcases Nat.lt_or_ge j i with h|h
     . exact .inl ⟨j,h,h2,h3⟩
     . obtain rfl:j=i:=by omega
       obtain⟨b',p,q1,q2,q3⟩:=h3
       rw[hb] at q1
       cases q1
       exact .inr ⟨h2,b,hb,p,by rw[List.take_length];exact q2,q3⟩
   . simp at hp
 . rintro (⟨j,h1,h2,h3⟩|⟨h1,b',h2,p,hp,h3⟩)
   . exact .inl ⟨j,by omega,h2,h3⟩
   . rw[hb] at h2
     cases h2
     rw[List.take_length] at hp
     exact .inl ⟨i,by omega,h1,b,p,hb,hp,h3⟩
theorem Cons.none{c:Config}{l:List Bool}{i:Nat}(hl:l[i]? = some false)(m:Nat)(k:Key):Cons c l (i+1) 0 k ↔ Cons c l i m k:=by
 unfold Cons
 constructor
 . rintro (⟨j,h1,h2,h3⟩|⟨_,b',_,p,hp,_⟩)
   . rcases Nat.lt_or_ge j i with h|h
     . exact .inl ⟨j,h,h2,h3⟩
     . obtain rfl:j=i:=by omega
       rw[hl] at h2;cases h2
   . simp at hp
 . rintro (⟨j,h1,h2,h3⟩|⟨h1,_⟩)
   . exact .inl ⟨j,by omega,h2,h3⟩
   . rw[hl] at h1;cases h1
theorem Cons.succ{c:Config}{l:List Bool}{i m:Nat}{b:Box}{p:Pfx}(hl:l[i]? = some true)(hb:c.boxes.l[i]? = some b)(hp:b.owns.l[m]? = some p)(k:Key):Cons c l i (m+1) k ↔ Cons c l i m k\/k=keyOf p:=by
 unfold Cons
 constructor
 . rintro (h|⟨h1,b',h2,q,hq,h3⟩)
   . exact .inl (.inl h)
   . rw[hb] at h2
     cases h2
     rw[List.take_add_one,hp] at hq
     rcases mAp0.1 hq with hq|hq
     . exact .inl (.inr ⟨h1,b,hb,q,hq,h3⟩)
     . have:q=p:=by simpa using hq
       exact .inr (by rw[<- h3,this])
 . rintro ((h|⟨h1,b',h2,q,hq,h3⟩)|rfl)
   . exact .inl h
   . rw[hb] at h2
     cases h2
     exact .inr ⟨h1,b,hb,q,by rw[List.take_add_one];exact List.mem_append_left _ hq,h3⟩
   . exact .inr ⟨hl,b,hb,p,by rw[List.take_add_one,hp];simp,rfl⟩
theorem Cons.zero{c:Config}{l:List Bool}(k:Key):¬ Cons c l 0 0 k:=by
 rintro (⟨j,h,_⟩|⟨_,_,_,p,hp,_⟩)
 . exact absurd h (Nat.not_lt_zero j)
 . simp at hp
theorem gB(l:List Bool):gRowsP [some (4,l.map brow)]:=by
 simp[gRowsP,brow]
 rintro x (⟨_,rfl⟩|⟨_,rfl⟩)<;>rfl
theorem owned_at(c:Config)(hc:c.Ok)(ht:c.Tx)(h0:(checkO c.b).1=0)(hr:c.routing ≠ [])(b:Nat)(hb:b<c.boxes.l.length)(v:Int) :
    FSpec Tryz.prog T 17 [.agg c.row,.i .i64 (b:Nat),.i .i64 v] (fun d rows=>rows=[]/\∃ x,d = .i .i64 x/\OwnI (rbits c.b) v (Near c b) x):=by
 obtain⟨hh,h1,h2,h3,h4,_⟩:=check_parts h0
 have hbl:(c.boxes.l.map Box.row).length=c.boxes.l.length:=by simp
 have hcb:c.b.boxes.length=c.boxes.l.length:=by simp[Config.b]
 have hbn:=hc.boxes
 obtain⟨_,_,_,_,_,hr4,hr5,hr6,_⟩:=rbits_at (c:=c.b) (head_ok hh) hr
 have hnl:(nearF c.b b).length=c.boxes.l.length:=by rw[near_len,hcb]
 have hnm:((nearF c.b b).map brow).length=c.boxes.l.length:=by simp[hnl]
 have hbo:=bits_ok c hc h0 hr
 refine FSpec.of_ok tok Tryz.func17 rfl Tryz.call17 (by simp) ?_
 (try (conv=>whnf));repeat' (first|(refine Or.inr (Or.inr (Or.inr (Or.inl ?_)));(conv=>whnf);(repeat (refine aI ?_;conv=>whnf));refine⟨_,near_at c hc ht h0 b hb,?_⟩;rintro _ _ ⟨rfl,rfl⟩;(refine And.intro (gB _) ?_;conv=>whnf))|refine Ok.seq ?_|(refine Ok.region tok ?_;conv=>whnf)|refine Ok.block ?_|fail)
 refine Ok.loopU [2,3,7] [8,9] 1 1 (fun (x:Nat × Int)=>[.i .i64 x.2,.i .i64 (x.1:Nat)]) (fun (x:Nat × Int) (_:List (List D))=>[c.row]) (fun (x:Nat × Int) (_:Vx.Rows)=>[some (4,(nearF c.b b).map brow)]) (fun (x:Nat × Int)=>x.1<=c.boxes.l.length/\OwnI (rbits c.b) v (Cons c (nearF c.b b) x.1 0) x.2) (fun (x:Nat × Int)=>c.boxes.l.length - x.1) ((0,-1)) (⟨Nat.zero_le _,.inl ⟨rfl,fun k hk=>by exact absurd hk (Cons.zero k)⟩⟩) ?_;(conv=>whnf);refine⟨by ((conv=>whnf);first|rfl|(simp[envCat, tkL0, SI.row, Node.row, Pfx.row, Link.row, srow, Line.row, Rule.row, Box.row, Slc.row, Config.row, brow];done)|(simp[envCat, tkL0, SI.row, Node.row, Pfx.row, Link.row, srow, Line.row, Rule.row, Box.row, Slc.row, Config.row, brow];rw[IntKind.wrap_i64];omega)),?_⟩
 rintro⟨i,x⟩ ⟨hi,hx⟩
 dsimp only at hi hx ⊢
 (conv=>whnf)
 by_cases hil:i<c.boxes.l.length
 . obtain⟨bx,hbx⟩:∃ bx,c.boxes.l[i]? = some bx:=⟨_,gEt0 hil⟩
   have hbI:c.boxes.l[((i:Nat):Int).toNat]? = some bx:=hbx
   have hbr:(c.boxes.l.map Box.row)[((i:Nat):Int).toNat]? = some bx.row:=by rw[gMp0,hbI];rfl
   have hol:(bx.owns.l.map Pfx.row).length=bx.owns.l.length:=by simp
   have hom:=(hc.box bx (mOf0 hbx)).owns
   obtain⟨bi,hbi⟩:∃ bi,(nearF c.b b)[i]? = some bi:=⟨_,gEt0 (by omega)⟩
   have hbiI:(nearF c.b b)[((i:Nat):Int).toNat]? = some bi:=hbi
   (try (conv=>whnf));repeat' (first|refine Ok.seq ?_|((first|refine Ok.region tok ?_|refine Ok.cond ?_);conv=>whnf)|refine Ok.block ?_|(refine Ok.skip ?_;conv=>whnf)|(refine bI ?_ ?_<;>intro<;>(conv=>whnf)<;>(try (exfalso;omega)))|fail)
   refine Ok.loopU [2,3,7,9] [8,10] 1 1 (fun (y:Nat × Int)=>[.i .i64 y.2,.i .i64 (y.1:Nat)]) (fun (y:Nat × Int) (_:List (List D))=>[c.row]) (fun (y:Nat × Int) (_:Vx.Rows)=>[some (4,(nearF c.b b).map brow)]) (fun (y:Nat × Int)=>y.1<=bx.owns.l.length/\OwnI (rbits c.b) v (Cons c (nearF c.b b) i y.1) y.2) (fun (y:Nat × Int)=>bx.owns.l.length - y.1) ((0,x)) (⟨Nat.zero_le _,hx⟩) ?_;(conv=>whnf);refine⟨by ((conv=>whnf);first|rfl|(simp[envCat, tkL0, SI.row, Node.row, Pfx.row, Link.row, srow, Line.row, Rule.row, Box.row, Slc.row, Config.row, brow];done)|(simp[envCat, tkL0, SI.row, Node.row, Pfx.row, Link.row, srow, Line.row, Rule.row, Box.row, Slc.row, Config.row, brow];rw[IntKind.wrap_i64];omega)),?_⟩
   clear hx x
   rintro⟨m,x⟩ ⟨hm,hx⟩
   dsimp only at hm hx ⊢
   (conv=>whnf)
   cases bi with
   | false=>
    by_cases hml:m<bx.owns.l.length
    . (try (conv=>whnf));repeat' (first|(refine rd rfl hbiI ?_;conv=>whnf)|refine Ok.seq ?_|((first|refine Ok.region tok ?_|refine Ok.region_draw tok follows (by kernel_rfl) ?_|refine Ok.cond ?_);conv=>whnf)|refine Ok.block ?_|((first|refine Ok.skip ?_|refine Ok.exit ?_|refine nI ?_|refine ix _ (by assumption) ?_|refine ix_new _ (by omega) fun _ _=>?_|refine⟨_,by assumption,?_⟩);conv=>whnf)|(refine bI ?_ ?_<;>intro<;>(conv=>whnf)<;>(try (exfalso;omega)))|(refine aJ ?_;conv=>whnf)|fail)
      all_goals first
       | (refine⟨(i+1,x),by dsimp only;omega,⟨by dsimp only;omega,hx.congr fun k=>Cons.none hbi m k⟩,?_⟩
          (conv=>whnf);(first|rfl|simp[envCat, tkL0, SI.row, Node.row, Pfx.row, Link.row, srow, Line.row, Rule.row, Box.row, Slc.row, Config.row, brow])
          done)
       | (exact absurd (by assumption:false=true) (by simp))
       | (exact absurd trivial (by assumption:¬ True))
       | (exfalso;rename_i hz;simp at hz;done)
       | (exfalso;rename_i hz _;simp at hz;done)
       | (exfalso;omega)
    . (try (conv=>whnf));repeat' (first|refine Ok.seq ?_|((first|refine Ok.region tok ?_|refine Ok.cond ?_|refine Ok.exit ?_|refine nI ?_|refine ix _ (by assumption) ?_);conv=>whnf)|(refine bI ?_ ?_<;>intro<;>(conv=>whnf)<;>(try (exfalso;omega)))|fail)
      all_goals first
       | (refine⟨(i+1,x),by dsimp only;omega,⟨by dsimp only;omega,hx.congr fun k=>Cons.none hbi m k⟩,?_⟩
          (conv=>whnf);(first|rfl|simp[envCat, tkL0, SI.row, Node.row, Pfx.row, Link.row, srow, Line.row, Rule.row, Box.row, Slc.row, Config.row, brow])
          done)
       | (exfalso;omega)
   | true=>
    by_cases hml:m<bx.owns.l.length
    . obtain⟨p,hp⟩:∃ p,bx.owns.l[m]? = some p:=⟨_,gEt0 hml⟩
      have hpI:bx.owns.l[((m:Nat):Int).toNat]? = some p:=hp
      have hpr:(bx.owns.l.map Pfx.row)[((m:Nat):Int).toNat]? = some p.row:=by rw[gMp0,hpI];rfl
      have hpo:=pfx_ok h3 (c:=c.b) (b:=bx.b) (List.mem_map.2 ⟨bx,mOf0 hbx,rfl⟩) (.inl (mOf0 hp))
      have hsp:=hasL_spec (rbits c.b) ⟨0,p.value,p.len,0⟩ v (by omega) hpo.l0 hpo.l1
      have hcs:=Cons.succ (c:=c) hbi hbx hp
      (try (conv=>whnf));repeat' (first|(refine rd rfl hbiI ?_;conv=>whnf)|refine Ok.seq ?_|((first|refine Ok.region tok ?_|refine Ok.region_draw tok follows (by kernel_rfl) ?_|refine Ok.cond ?_);conv=>whnf)|refine Ok.block ?_|((first|refine Ok.skip ?_|refine Ok.exit ?_|refine nI ?_|refine ix _ (by assumption) ?_|refine⟨_,by assumption,?_⟩);conv=>whnf)|(refine bI ?_ ?_<;>intro<;>(conv=>whnf)<;>(try (exfalso;omega)))|(refine aJ ?_;conv=>whnf)|fail)
      all_goals first
       | (refine⟨(m+1,p.len),by dsimp only;omega,⟨by dsimp only;omega,hx.take (k:=keyOf p) hpo.l0 hcs (by assumption) (by assumption)⟩,?_⟩
          (conv=>whnf);(first|rfl|simp[envCat, tkL0, SI.row, Node.row, Pfx.row, Link.row, srow, Line.row, Rule.row, Box.row, Slc.row, Config.row, brow])
          done)
       | (refine⟨(m+1,x),by dsimp only;omega,⟨by dsimp only;omega,hx.skip (k:=keyOf p) hpo.l0 hcs (fun h=>by first|exact absurd h.1 (by assumption)|exact absurd h.2 (by assumption))⟩,?_⟩
          (conv=>whnf);(first|rfl|simp[envCat, tkL0, SI.row, Node.row, Pfx.row, Link.row, srow, Line.row, Rule.row, Box.row, Slc.row, Config.row, brow])
          done)
       | (exact absurd (by assumption:false=true) (by simp))
       | (exact absurd trivial (by assumption:¬ True))
       | (exfalso;rename_i hz;simp at hz;done)
       | (exfalso;rename_i hz _;simp at hz;done)
       | (exfalso;omega)
    . obtain rfl:m=bx.owns.l.length:=by omega
      (try (conv=>whnf));repeat' (first|refine Ok.seq ?_|((first|refine Ok.region tok ?_|refine Ok.cond ?_|refine Ok.exit ?_|refine nI ?_|refine ix _ (by assumption) ?_);conv=>whnf)|(refine bI ?_ ?_<;>intro<;>(conv=>whnf)<;>(try (exfalso;omega)))|fail)
      all_goals first
       | (refine⟨(i+1,x),by dsimp only;omega,⟨by dsimp only;omega,hx.congr fun k=>Cons.next hbx k⟩,?_⟩
          (conv=>whnf);(first|rfl|simp[envCat, tkL0, SI.row, Node.row, Pfx.row, Link.row, srow, Line.row, Rule.row, Box.row, Slc.row, Config.row, brow])
          done)
       | (exfalso;omega)
 . obtain rfl:i=c.boxes.l.length:=by omega
   (try (conv=>whnf));repeat' (first|refine Ok.seq ?_|((first|refine Ok.region tok ?_|refine Ok.cond ?_|refine Ok.exit ?_|refine Ok.ret ?_);conv=>whnf)|(refine bI ?_ ?_<;>intro<;>(conv=>whnf)<;>(try (exfalso;omega)))|fail)
   refine Or.inl ?_;(conv=>whnf)
   refine⟨rfl,x,rfl,hx.congr fun k=>?_⟩
   unfold Near Cons
   constructor
   . rintro⟨j,q1,q2⟩
     obtain⟨bj,pj,q3,_⟩:=id q2
     exact .inl ⟨j,(gSm0.1 q3).1,(near_iff h2 h4 (by rw[hcb];exact hb) j).2 q1,q2⟩
   . rintro (⟨j,_,q2,q3⟩|⟨_,_,q3,_⟩)
     . exact⟨j,(near_iff h2 h4 (by rw[hcb];exact hb) j).1 q2,q3⟩
     . have:=(gSm0.1 q3).1
       omega
end Go.Proofs.YtnlingegeangmaaGreatDoor
namespace Go.Proofs.YtnlingegeangmaaGreatDoor
open Go Go.Vx
theorem full_mid{bs:List BoxB}{i:Nat}{b:BoxB}(h:bs[i]? = some b):fullsL bs=fullsL (bs.take i)++((b.ins++b.outs).map (dot b.name)++fullsL (bs.drop (i+1))):=by
 obtain⟨h1,h2⟩:=gSm0.1 h
 have e:bs=bs.take i++b :: bs.drop (i+1):=by
  rw[<- h2,<- List.drop_eq_getElem_cons h1,List.take_append_drop]
 conv=>lhs;rw[e]
 unfold fullsL fullsB
 rw[List.flatMap_append,List.flatMap_cons]
theorem full_len{bs:List BoxB}{i:Nat}{b:BoxB}(h:bs[i]? = some b):(fullsL (bs.take (i+1))).length=(fullsL (bs.take i)).length+(b.ins.length+b.outs.length):=by
 unfold fullsL
 rw[List.take_add_one,h,List.flatMap_append]
 simp[fullsB]
theorem lfull_at(c:Config)(hc:c.Ok)(ht:c.Tx){q:Nat}{s:Str}(hq:(fullsL c.b.boxes)[q]? = some s)(hql:q<=1000000000):FSpec Tryz.prog T 21 [.agg c.row,.i .i64 (q:Nat)] (fun d _=>d = .s s):=by
 have hbl:(c.boxes.l.map Box.row).length=c.boxes.l.length:=by simp
 have hbn:=hc.boxes
 refine FSpec.of_ok tok Tryz.func21 rfl Tryz.call21 (by simp) ?_
 (try (conv=>whnf));repeat' (first|refine Ok.seq ?_|(refine Ok.region tok ?_;conv=>whnf)|refine Ok.block ?_|fail)
 refine Ok.loopU [1,2] [5,6] 0 1 (fun (x:Nat × Nat)=>[.i .i64 (x.1:Nat),.i .i64 (x.2:Nat)]) (fun (x:Nat × Nat) (_:List (List D))=>[c.row]) (fun _ r=>r) (fun (x:Nat × Nat)=>x.2<=c.boxes.l.length/\x.1=(fullsL (c.b.boxes.take x.2)).length/\x.1<=q) (fun (x:Nat × Nat)=>c.boxes.l.length - x.2) ((0,0)) (⟨Nat.zero_le _,rfl,Nat.zero_le _⟩) ?_;(conv=>whnf);refine⟨by ((conv=>whnf);first|rfl|(simp[envCat, tkL0, SI.row, Node.row, Pfx.row, Link.row, srow, Line.row, Rule.row, Box.row, Slc.row, Config.row, brow];done)|(simp[envCat, tkL0, SI.row, Node.row, Pfx.row, Link.row, srow, Line.row, Rule.row, Box.row, Slc.row, Config.row, brow];rw[IntKind.wrap_i64];omega)),?_⟩
 rintro⟨k,i⟩ ⟨hi,hk,hkq⟩
 dsimp only at hi hk hkq ⊢
 (conv=>whnf)
 by_cases hil:i<c.boxes.l.length
 . obtain⟨b,hb⟩:∃ b,c.boxes.l[i]? = some b:=⟨_,gEt0 hil⟩
   have hbI:c.boxes.l[((i:Nat):Int).toNat]? = some b:=hb
   have hbr:(c.boxes.l.map Box.row)[((i:Nat):Int).toNat]? = some b.row:=by rw[gMp0,hbI];rfl
   have hbb:c.b.boxes[i]? = some b.b:=by simp[Config.b,hb]
   have hin:(b.ins.l.map srow).length=b.ins.l.length:=by simp
   have hou:(b.outs.l.map srow).length=b.outs.l.length:=by simp
   have hbo:=hc.box b (mOf0 hb)
   have hi1:=hbo.ins
   have ho1:=hbo.outs
   have hbt:=ht.boxes b (mOf0 hb)
   have hn1:b.name.length<=1048576:=hbt.name
   have hmid:=full_mid hbb
   have hfl:=full_len hbb
   have e1:b.b.ins=b.ins.l:=rfl
   have e2:b.b.outs=b.outs.l:=rfl
   have e3:b.b.name=b.name:=rfl
   rw[e1,e2] at hfl
   rw[e1,e2,e3] at hmid
   (try (conv=>whnf));repeat' (first|refine Ok.seq ?_|((first|refine Ok.region tok ?_|refine Ok.cond ?_);conv=>whnf)|refine Ok.block ?_|((first|refine Ok.skip ?_|refine ix _ (by assumption) ?_);conv=>whnf)|(refine bI ?_ ?_<;>intro<;>(conv=>whnf)<;>(try (exfalso;omega)))|fail)
   refine Ok.loopU [1,2,6,7] [5,8] 0 2 (fun (y:Nat × Nat)=>[.i .i64 (y.1:Nat),.i .i64 (y.2:Nat)]) (fun (y:Nat × Nat) (_:List (List D))=>[c.row,b.row]) (fun _ r=>r) (fun (y:Nat × Nat)=>y.2<=b.ins.l.length+b.outs.l.length/\y.1=k+y.2/\y.1<=q) (fun (y:Nat × Nat)=>b.ins.l.length+b.outs.l.length - y.2) ((k,0)) (⟨Nat.zero_le _,rfl,hkq⟩) ?_;(conv=>whnf);refine⟨by ((conv=>whnf);first|rfl|(simp[envCat, tkL0, SI.row, Node.row, Pfx.row, Link.row, srow, Line.row, Rule.row, Box.row, Slc.row, Config.row, brow];done)|(simp[envCat, tkL0, SI.row, Node.row, Pfx.row, Link.row, srow, Line.row, Rule.row, Box.row, Slc.row, Config.row, brow];rw[IntKind.wrap_i64];omega)),?_⟩
   rintro⟨k',j⟩ ⟨hj,hkj,hkq'⟩
   dsimp only at hj hkj hkq' ⊢
   subst hkj
   (conv=>whnf)
   by_cases hjl:j<b.ins.l.length+b.outs.l.length
   . by_cases hqe:k+j=q
     . have hs:((b.ins.l++b.outs.l).map (dot b.name))[j]? = some s:=by
         rw[hmid,List.getElem?_append_right (by omega),List.getElem?_append_left (by simp;omega)] at hq
         rw[<- hq]
         congr 1
         omega
       rw[gMp0] at hs
       by_cases hji:j<b.ins.l.length
       . obtain⟨p,hp⟩:∃ p,b.ins.l[j]? = some p:=⟨_,gEt0 hji⟩
         have hpr:(b.ins.l.map srow)[((j:Nat):Int).toNat]? = some (srow p):=by rw[gMp0,show ((j:Nat):Int).toNat=j from rfl,hp];rfl
         have hp1:p.length<=1048576:=hbt.ins p (mOf0 hp)
         rw[List.getElem?_append_left hji,hp] at hs
         cases hs
         (try (conv=>whnf));repeat' (first|refine Ok.seq ?_|((first|refine Ok.region tok ?_|refine Ok.region_draw tok follows (by kernel_rfl) ?_|refine Ok.cond ?_);conv=>whnf)|refine Ok.block ?_|((first|refine Ok.skip ?_|refine Ok.ret ?_|refine nI ?_|refine ix _ (by assumption) ?_);conv=>whnf)|(refine bI ?_ ?_<;>intro<;>(conv=>whnf)<;>(try (exfalso;omega)))|(refine aJ ?_;conv=>whnf)|fail)
         all_goals first
          | (exfalso;omega)
          | (refine Or.inl ?_;(conv=>whnf)
             rfl)
       . obtain⟨p,hp⟩:∃ p,b.outs.l[j - b.ins.l.length]? = some p:=⟨_,gEt0 (by omega)⟩
         have hpI:b.outs.l[(((j:Nat):Int) - (((b.ins.l.map srow).length:Nat):Int)).toNat]? = some p:=by
          rw[hin,show (((j:Nat):Int) - ((b.ins.l.length:Nat):Int)).toNat=j - b.ins.l.length by omega,hp]
         have hp1:p.length<=1048576:=hbt.outs p (mOf0 hp)
         rw[List.getElem?_append_right (by omega),hp] at hs
         cases hs
         (try (conv=>whnf));repeat' (first|refine Ok.seq ?_|((first|refine Ok.region tok ?_|refine Ok.region_draw tok follows (by kernel_rfl) ?_|refine Ok.cond ?_);conv=>whnf)|refine Ok.block ?_|((first|refine Ok.skip ?_|refine Ok.ret ?_|refine nI ?_|refine ixI (by omega) (by assumption) ?_);conv=>whnf)|(refine bI ?_ ?_<;>intro<;>(conv=>whnf)<;>(try (exfalso;omega)))|(refine aJ ?_;conv=>whnf)|fail)
         all_goals first
          | (exfalso;omega)
          | (refine Or.inl ?_;(conv=>whnf)
             rfl)
     . (try (conv=>whnf));repeat' (first|refine Ok.seq ?_|((first|refine Ok.region tok ?_|refine Ok.cond ?_);conv=>whnf)|refine Ok.block ?_|((first|refine Ok.skip ?_|refine nI ?_);conv=>whnf)|(refine bI ?_ ?_<;>intro<;>(conv=>whnf)<;>(try (exfalso;omega)))|fail)
       all_goals first
        | (exfalso;omega)
        | (refine⟨(k+(j+1),j+1),by dsimp only;omega,⟨by dsimp only;omega,rfl,by dsimp only;omega⟩,?_⟩
           have e4:((k+(j+1):Nat):Int)=((k+j:Nat):Int)+1:=by omega
           dsimp only
           rw[e4]
           (conv=>whnf);(first|rfl|simp[envCat, tkL0, SI.row, Node.row, Pfx.row, Link.row, srow, Line.row, Rule.row, Box.row, Slc.row, Config.row, brow])
           done)
   . obtain rfl:j=b.ins.l.length+b.outs.l.length:=by omega
     (try (conv=>whnf));repeat' (first|refine Ok.seq ?_|((first|refine Ok.region tok ?_|refine Ok.cond ?_|refine Ok.exit ?_|refine nI ?_);conv=>whnf)|(refine bI ?_ ?_<;>intro<;>(conv=>whnf)<;>(try (exfalso;omega)))|fail)
     all_goals first
      | (exfalso;omega)
      | (refine⟨(k+(b.ins.l.length+b.outs.l.length),i+1),by dsimp only;omega,⟨by dsimp only;omega,by dsimp only;omega,hkq'⟩,?_⟩
         (conv=>whnf);(first|rfl|simp[envCat, tkL0, SI.row, Node.row, Pfx.row, Link.row, srow, Line.row, Rule.row, Box.row, Slc.row, Config.row, brow])
         done)
 . obtain rfl:i=c.boxes.l.length:=by omega
   exfalso
   have h1:=(gSm0.1 hq).1
   rw[tkL0 (by simp[Config.b])] at hk
   omega
theorem next_at(c:Config)(hc:c.Ok)(ht:c.Tx){q:Nat}{s:Str}(hq:(fullsL c.b.boxes)[q]? = some s)(hql:q<=1000000000):FSpec Tryz.prog T 19 [.agg c.row,.i .i64 (q:Nat)]
    (fun d rows=>rows=[]/\∃ z,d = .i .i64 z/\((∃ x ∈ c.links.l,x.frm=s/\z=boxF c.b x.dst)\/((∀ x ∈ c.links.l,x.frm ≠ s)/\z=-1))):=by
 have hll:(c.links.l.map Link.row).length=c.links.l.length:=by simp
 have hln:=hc.links
 have hfs:=lfull_at c hc ht hq hql
 refine FSpec.of_ok tok Tryz.func19 rfl Tryz.call19 (by simp) ?_
 (try (conv=>whnf));repeat' (first|refine Ok.seq ?_|(refine Ok.region tok ?_;conv=>whnf)|refine Ok.block ?_|(refine Or.inl ?_;(conv=>whnf);(repeat (refine aI ?_;conv=>whnf));refine⟨_,hfs,rfl,?_⟩;conv=>whnf)|fail)
 refine Ok.loopU [2,5] [6] 0 1 (fun (i:Nat)=>[.i .i64 (i:Nat)]) (fun (i:Nat) (_:List (List D))=>[c.row]) (fun _ r=>r) (fun (i:Nat)=>i<=c.links.l.length/\∀ x ∈ c.links.l.take i,x.frm ≠ s) (fun (i:Nat)=>c.links.l.length - i) (0) (⟨Nat.zero_le _,by simp⟩) ?_;(conv=>whnf);refine⟨by ((conv=>whnf);first|rfl|(simp[envCat, tkL0, SI.row, Node.row, Pfx.row, Link.row, srow, Line.row, Rule.row, Box.row, Slc.row, Config.row, brow];done)|(simp[envCat, tkL0, SI.row, Node.row, Pfx.row, Link.row, srow, Line.row, Rule.row, Box.row, Slc.row, Config.row, brow];rw[IntKind.wrap_i64];omega)),?_⟩
 rintro i ⟨hi,hno⟩
 (conv=>whnf)
 by_cases hil:i<c.links.l.length
 . obtain⟨x,hx⟩:∃ x,c.links.l[i]? = some x:=⟨_,gEt0 hil⟩
   have hxI:c.links.l[((i:Nat):Int).toNat]? = some x:=hx
   have hxr:(c.links.l.map Link.row)[((i:Nat):Int).toNat]? = some x.row:=by rw[gMp0,hxI];rfl
   have hxm:=mOf0 hx
   have hxt:x.dst.length<=1048576:=(ht.links x hxm).dst
   have hbx:=boxOf_at c hc x.dst (by omega)
   (try (conv=>whnf));repeat' (first|refine Ok.seq ?_|((first|refine Ok.region tok ?_|refine Ok.region_draw tok follows (by kernel_rfl) ?_|refine Ok.cond ?_);conv=>whnf)|refine Ok.block ?_|((first|refine Ok.skip ?_|refine Ok.ret ?_|refine nI ?_|refine ix _ (by assumption) ?_|refine⟨_,by assumption,?_⟩);conv=>whnf)|(refine bI ?_ ?_<;>intro<;>(conv=>whnf)<;>(try (exfalso;omega)))|(refine aJ ?_;conv=>whnf)|fail)
   all_goals first
    | (refine Or.inl ?_;(conv=>whnf)
       exact⟨rfl,_,rfl,.inl ⟨x,hxm,by assumption,rfl⟩⟩)
    | (refine⟨i+1,by omega,⟨by omega,fun y hy=>?_⟩,?_⟩
       . rw[List.take_add_one,hx] at hy
         rcases mAp0.1 hy with hy|hy
         . exact hno y hy
         . have:y=x:=by simpa using hy
           rw[this]
           assumption
       . (conv=>whnf);(first|rfl|simp[envCat, tkL0, SI.row, Node.row, Pfx.row, Link.row, srow, Line.row, Rule.row, Box.row, Slc.row, Config.row, brow])
       done)
 . obtain rfl:i=c.links.l.length:=by omega
   rw[List.take_length] at hno
   (try (conv=>whnf));repeat' (first|refine Ok.seq ?_|((first|refine Ok.region tok ?_|refine Ok.cond ?_|refine Ok.exit ?_|refine Ok.ret ?_);conv=>whnf)|(refine bI ?_ ?_<;>intro<;>(conv=>whnf)<;>(try (exfalso;omega)))|fail)
   refine Or.inl ?_;(conv=>whnf)
   exact⟨rfl,_,rfl,.inr ⟨hno,rfl⟩⟩
theorem ends_at(c:Config)(hc:c.Ok)(ht:c.Tx)(h0:(checkO c.b).1=0)(hr:c.routing ≠ []){b:Nat}{bx:Box}(hbx:c.boxes.l[b]? = some bx)(len v:Int)(name:Str)(hw:∃ p ∈ bx.owns.l,p.len=len/\hasK (rbits c.b) (keyOf p) v/\dot bx.name p.dst=name) :
    FSpec Tryz.prog T 20 [.agg c.row,.i .i64 (b:Nat),.i .i64 len,.i .i64 v,.s name] (fun d _=>d = .b True):=by
 obtain⟨hh,_,_,h3,_,_⟩:=check_parts h0
 obtain⟨_,_,_,_,_,hr4,hr5,hr6,_⟩:=rbits_at (c:=c.b) (head_ok hh) hr
 have hbl:(c.boxes.l.map Box.row).length=c.boxes.l.length:=by simp
 have hbn:=hc.boxes
 have hbI:c.boxes.l[((b:Nat):Int).toNat]? = some bx:=hbx
 have hbr:(c.boxes.l.map Box.row)[((b:Nat):Int).toNat]? = some bx.row:=by rw[gMp0,hbI];rfl
 have hol:(bx.owns.l.map Pfx.row).length=bx.owns.l.length:=by simp
 have hbm:=mOf0 hbx
 have hom:=(hc.box bx hbm).owns
 have hbt:=ht.boxes bx hbm
 have hn1:bx.name.length<=1048576:=hbt.name
 have hbo:=bits_ok c hc h0 hr
 refine FSpec.of_ok tok Tryz.func20 rfl Tryz.call20 (by simp) ?_
 (try (conv=>whnf));repeat' (first|refine Ok.seq ?_|(refine Ok.region tok ?_;conv=>whnf)|refine Ok.block ?_|fail)
 refine Ok.loopU [1,2,3,4,5] [11] 0 1 (fun (m:Nat)=>[.i .i64 (m:Nat)]) (fun (m:Nat) (_:List (List D))=>[c.row]) (fun _ r=>r) (fun (m:Nat)=>m<=bx.owns.l.length/\∀ p ∈ bx.owns.l.take m,¬ (p.len=len/\hasK (rbits c.b) (keyOf p) v/\dot bx.name p.dst=name)) (fun (m:Nat)=>bx.owns.l.length - m) (0) (⟨Nat.zero_le _,by simp⟩) ?_;(conv=>whnf);refine⟨by ((conv=>whnf);first|rfl|(simp[envCat, tkL0, SI.row, Node.row, Pfx.row, Link.row, srow, Line.row, Rule.row, Box.row, Slc.row, Config.row, brow];done)|(simp[envCat, tkL0, SI.row, Node.row, Pfx.row, Link.row, srow, Line.row, Rule.row, Box.row, Slc.row, Config.row, brow];rw[IntKind.wrap_i64];omega)),?_⟩
 rintro m ⟨hm,hno⟩
 (conv=>whnf)
 by_cases hml:m<bx.owns.l.length
 . obtain⟨p,hp⟩:∃ p,bx.owns.l[m]? = some p:=⟨_,gEt0 hml⟩
   have hpI:bx.owns.l[((m:Nat):Int).toNat]? = some p:=hp
   have hpr:(bx.owns.l.map Pfx.row)[((m:Nat):Int).toNat]? = some p.row:=by rw[gMp0,hpI];rfl
   have hpo:=pfx_ok h3 (c:=c.b) (b:=bx.b) (List.mem_map.2 ⟨bx,hbm,rfl⟩) (.inl (mOf0 hp))
   have hp1:p.dst.length<=1048576:=(hbt.owns p (mOf0 hp)).dst
   have hsp:=hasL_spec (rbits c.b) ⟨0,p.value,p.len,0⟩ v (by omega) hpo.l0 hpo.l1
   (try (conv=>whnf));repeat' (first|refine Ok.seq ?_|((first|refine Ok.region tok ?_|refine Ok.region_draw tok follows (by kernel_rfl) ?_|refine Ok.cond ?_);conv=>whnf)|refine Ok.block ?_|((first|refine Ok.skip ?_|refine Ok.ret ?_|refine nI ?_|refine ix _ (by assumption) ?_|refine⟨_,by assumption,?_⟩);conv=>whnf)|(refine bI ?_ ?_<;>intro<;>(conv=>whnf)<;>(try (exfalso;omega)))|(refine aJ ?_;conv=>whnf)|fail)
   all_goals first
    | (refine Or.inl ?_;(conv=>whnf)
       rfl)
    | (refine⟨m+1,by omega,⟨by omega,fun y hy=>?_⟩,?_⟩
       . rw[List.take_add_one,hp] at hy
         rcases mAp0.1 hy with hy|hy
         . exact hno y hy
         . have:y=p:=by simpa using hy
           rw[this]
           rintro⟨g1,g2,g3⟩
           first|exact absurd g1 (by assumption)|exact absurd g2 (by assumption)|exact absurd g3 (by assumption)
       . (conv=>whnf);(first|rfl|simp[envCat, tkL0, SI.row, Node.row, Pfx.row, Link.row, srow, Line.row, Rule.row, Box.row, Slc.row, Config.row, brow])
       done)
 . obtain rfl:m=bx.owns.l.length:=by omega
   rw[List.take_length] at hno
   obtain⟨p,g1,g2⟩:=hw
   exact absurd g2 (hno p g1)
end Go.Proofs.YtnlingegeangmaaGreatDoor
namespace Go.Proofs.YtnlingegeangmaaGreatDoor
open Go Go.Vx
theorem near_key{c:Config}(h0:(checkO c.b).1=0){i:Nat}{k:Key}(h:Near c i k):okR (rbits c.b) ⟨1,k.1,k.2,0⟩:=by
 obtain⟨_,_,_,h3,_,_⟩:=check_parts h0
 obtain⟨j,_,b,p,hb,hp,rfl⟩:=h
 have hpo:=pfx_ok h3 (c:=c.b) (b:=b.b) (List.mem_map.2 ⟨b,mOf0 hb,rfl⟩) (.inl hp)
 have e1:((tw (rbits c.b).toNat:Nat):Int)=2 ^ (rbits c.b).toNat:=by unfold tw;simp
 have e2:((tw (rbits c.b - p.len).toNat:Nat):Int)=2 ^ (rbits c.b - p.len).toNat:=by unfold tw;simp
 have g1:=hpo.v1
 have g2:=hpo.md
 rw[e1] at g1
 rw[e2] at g2
 exact⟨by show (1:Int)<=1;omega,by show (1:Int)<=3;omega,hpo.l0,hpo.l1,by show (0:Int)<=0;omega,by show (0:Int)<48;omega,hpo.v0,g1,g2⟩
theorem best_eq{c:Config}(h0:(checkO c.b).1=0){v:Int}{i:Nat}{k k':Key}(h:Best c v i k)(h':Best c v i k'):k=k':=by
 have e1:=h.2.2 k' h'.1 h'.2.1
 have e2:=h'.2.2 k h.1 h.2.1
 have e3:k.2=k'.2:=by omega
 have e4:=has_same (v:=v) (near_key h0 h.1) (near_key h0 h'.1) e3 ((hasK_of (r:=⟨1,k.1,k.2,0⟩) rfl rfl).2 h.2.1) ((hasK_of (r:=⟨1,k'.1,k'.2,0⟩) rfl rfl).2 h'.2.1)
 exact Prod.ext e4 e3
theorem near_len0{c:Config}(h0:(checkO c.b).1=0){i:Nat}{k:Key}(h:Near c i k):0<=k.2:=(near_key h0 h).2.2.1
structure Inv(c:Config)(v len:Int)(i hops:Nat):Prop where
 lt:i<c.boxes.l.length
 at_:(len=-1/\hops=0/\∀ k,Near c i k->¬ hasK (rbits c.b) k v)\/∃ k y,Best c v i k/\len=k.2/\(farK c k)[i]? = some y/\0<=y/\rank (farK c k) y+hops<c.boxes.l.length
theorem inv_start{c:Config}{L:List (List Route)}(hT:TabsOk c L)(hn:(nameO c.b).1=0)(hl:(linkO c.b).1=0){v len:Int}{i:Nat}(hi:i<c.boxes.l.length)(h:OwnI (rbits c.b) v (Near c i) len):Inv c v len i 0:=by
 refine⟨hi,?_⟩
 rcases h with⟨h1,h2⟩|⟨k,h1,h2,h3,h4⟩
 . exact .inl ⟨h1,rfl,h2⟩
 . obtain⟨ks,hks,hg,_⟩:=hT.at_
   obtain⟨⟨y,hy,hy0⟩,_⟩:=raw_has hn hl hks hg h1
   obtain⟨j,_,hj⟩:=id h1
   have hk:k ∈ ks:=(hks k).2 (byF_ne.2 ⟨j,hj⟩)
   obtain⟨hd,_⟩:=key_dist hg hk
   refine .inr ⟨k,y,⟨h1,h2,fun k' a b=>by rw[<- h3];exact h4 k' a b⟩,h3,hy,hy0,?_⟩
   have:=rank_le _ _ _ hy
   rw[hd.len] at this
   omega
theorem law_step{c:Config}{L:List (List Route)}(hT:TabsOk c L)(h0:(checkO c.b).1=0)(hw:∀ b ∈ c.boxes.l,b.routes.l=[])(hp:∀ b ∈ c.boxes.l,∀ p ∈ b.owns.l,∀ x ∈ c.links.l,x.frm ≠ dot b.name p.dst){v len:Int}(v0:0<=v)(v1:v<2 ^ (rbits c.b).toNat){i hops:Nat}(h:Inv c v len i hops) :
    ∃ l,L[i]? = some l/\lookE (rbits c.b) l v=0/\((lookK (rbits c.b) l v=-1/\len=-1)\/∃ (m:Nat) (r:Route),lookK (rbits c.b) l v=(m:Int)/\l[m]? = some r/\∃ (q:Nat) (s:Str),r.out=(q:Int)/\(fullsL c.b.boxes)[q]? = some s/\q<=1000000000 /\
     (((∀ x ∈ c.links.l,x.frm ≠ s)/\0<=len/\∃ bx,c.boxes.l[i]? = some bx/\∃ p ∈ bx.owns.l,p.len=len/\hasK (rbits c.b) (keyOf p) v/\dot bx.name p.dst=s) \/
      ∃ t:Nat,(∃ x ∈ c.links.l,x.frm=s)/\(∀ x ∈ c.links.l,x.frm=s->boxF c.b x.dst=t)/\Inv c v len t (hops+1))):=by
 obtain⟨hh,h1,hn,h3,hl,_⟩:=check_parts h0
 have hcount:(fullsL c.b.boxes).length<=48:=by rw[fullsL_len];exact (count_ok h1).2.1
 obtain⟨l,hLl,he,hc⟩:=one_hop hT hn hl hw v0 v1 h.lt
 refine⟨l,hLl,he,?_⟩
 have full:∀ s,s ∈ fullsL c.b.boxes->∃ q:Nat,plc (fullsL c.b.boxes) s=(q:Int)/\(fullsL c.b.boxes)[q]? = some s/\q<=1000000000:=by
  intro s hs
  obtain⟨g0,g1⟩:=plc_at hs
  have g2:=plc_lt (fullsL c.b.boxes) s
  exact⟨_,(Int.toNat_of_nonneg g0).symm,g1,by omega⟩
 rcases hc with⟨hk,hno⟩|⟨m,r,hk,hr,k,hB,hcase⟩
 . left
   refine⟨hk,?_⟩
   rcases h.at_ with⟨a1,_,_⟩|⟨k,y,a1,_⟩
   . exact a1
   . exact absurd a1.2.1 (hno k a1.1)
 . right
   refine⟨m,r,hk,hr,?_⟩
   obtain⟨k0,y,a1,a2,a3,a4,a5⟩:∃ k y,Best c v i k/\len=k.2/\(farK c k)[i]? = some y/\0<=y/\rank (farK c k) y+hops<c.boxes.l.length:=by
    rcases h.at_ with⟨_,_,a3⟩|a
    . exact absurd hB.2.1 (a3 k hB.1)
    . exact a
   obtain rfl:k=k0:=best_eq h0 hB a1
   rcases hcase with⟨b,p,b1,b2,b3,b4⟩|⟨x,y',e,t,c1,c2,c3,c4,c5,c6,c7,c8⟩
   . have hbm:=mOf0 b1
     have hbb:Box.b b ∈ c.b.boxes:=List.mem_map.2 ⟨b,hbm,rfl⟩
     have h5:=(pfx_ok h3 hbb (.inl b2)).out
     have h6:dot b.name p.dst ∈ fullsL c.b.boxes:=mem_fulls.2 (.inr (List.mem_flatMap.2 ⟨Box.b b,hbb,List.mem_map.2 ⟨p.dst,h5,rfl⟩⟩))
     obtain⟨q,q1,q2,q3⟩:=full _ h6
     refine⟨q,_,by rw[b4];exact q1,q2,q3,.inl ⟨fun x hx=>hp b hbm p b2 x hx,?_,b,b1,p,b2,?_,?_,rfl⟩⟩
     . rw[a2];exact near_len0 h0 hB.1
     . rw[a2,<- b3];rfl
     . rw[b3];exact hB.2.1
   . obtain⟨z,hz,rfl,f,t',e1,e2,e3,e4⟩:=eg_link hn hl c1
     obtain⟨q,q1,q2,q3⟩:=full _ (link_known hl hz).1
     have hti:t'=t:=by omega
     subst hti
     have hfi:f=i:=by omega
     subst hfi
     have c4':=c4.symm.trans a3
     cases c4'
     have hstep:Nr c.b f t':=.step .refl hz e3 e4
     obtain⟨ks,hks,hg,_⟩:=hT.at_
     obtain⟨j0,_,hj0⟩:=id hB.1
     have hkk:k ∈ ks:=(hks k).2 (byF_ne.2 ⟨j0,hj0⟩)
     obtain⟨hd,_,hE⟩:=key_dist hg hkk
     refine⟨q,_,by rw[c8];exact q1,q2,q3,.inr ⟨t',⟨z,hz,rfl⟩,fun z' hz' hzz=>?_,?_,.inr ⟨k,y',⟨dist_reach hn hl hE hd y'.toNat t' y' (Nat.le_refl _) c5 c6,hB.2.1,fun k' hk' hh'=>?_⟩,a2,c5,c6,?_⟩⟩⟩
     . have h7:z' ∈ lkAt c.b c.b.links (plc (fullsL c.b.boxes) z.frm):=List.mem_filter.2 ⟨hz',by simp[hzz]⟩
       rw[lkAt_one hl hz] at h7
       rw[List.mem_singleton.1 h7]
       exact e4
     . obtain⟨f',t2,g1,g2,g3,g4,_⟩:=link_box hn hl hz
       have:t2=t':=by omega
       rw[<- this]
       simpa[Config.b] using g2
     . obtain⟨j,j1,j2⟩:=hk'
       exact hB.2.2 k' ⟨j,hstep.trans j1,j2⟩ hh'
     . have:=rank_lt c5 c6 c7
       omega
theorem small_at(c:Config)(hc:c.Ok):FSpec Tryz.prog T 6 [.agg c.row] (fun d rows=>rows=[]/\∃ P,d = .b P):=by
 have hbl:(c.boxes.l.map Box.row).length=c.boxes.l.length:=by simp
 have hbn:=hc.boxes
 refine FSpec.of_ok tok Tryz.func6 rfl Tryz.call6 (by simp) ?_
 (try (conv=>whnf));repeat' (first|refine Ok.seq ?_|((first|refine Ok.region tok ?_|refine Ok.cond ?_);conv=>whnf)|refine Ok.block ?_|((first|refine Ok.skip ?_|refine Ok.ret ?_);conv=>whnf)|(refine bI ?_ ?_<;>intro<;>(conv=>whnf)<;>(try (exfalso;omega)))|fail)
 all_goals try (refine Or.inl ?_;(conv=>whnf);exact⟨rfl,_,rfl⟩)
 all_goals
  refine Ok.loopU [1] [3] 0 1 (fun (i:Nat)=>[.i .i64 (i:Nat)]) (fun (i:Nat) (_:List (List D))=>[c.row]) (fun _ r=>r) (fun (i:Nat)=>i<=c.boxes.l.length) (fun (i:Nat)=>c.boxes.l.length - i) (0) (Nat.zero_le _) ?_;(conv=>whnf);refine⟨by ((conv=>whnf);first|rfl|(simp[envCat, tkL0, SI.row, Node.row, Pfx.row, Link.row, srow, Line.row, Rule.row, Box.row, Slc.row, Config.row, brow];done)|(simp[envCat, tkL0, SI.row, Node.row, Pfx.row, Link.row, srow, Line.row, Rule.row, Box.row, Slc.row, Config.row, brow];rw[IntKind.wrap_i64];omega)),?_⟩
  rintro i hi
  (conv=>whnf)
  by_cases hil:i<c.boxes.l.length
  . obtain⟨b,hb⟩:∃ b,c.boxes.l[i]? = some b:=⟨_,gEt0 hil⟩
    have hbI:c.boxes.l[((i:Nat):Int).toNat]? = some b:=hb
    have hbr:(c.boxes.l.map Box.row)[((i:Nat):Int).toNat]? = some b.row:=by rw[gMp0,hbI];rfl
    (try (conv=>whnf));repeat' (first|refine Ok.seq ?_|((first|refine Ok.region tok ?_|refine Ok.cond ?_);conv=>whnf)|refine Ok.block ?_|((first|refine Ok.skip ?_|refine Ok.ret ?_|refine nI ?_|refine ix _ (by assumption) ?_);conv=>whnf)|(refine bI ?_ ?_<;>intro<;>(conv=>whnf)<;>(try (exfalso;omega)))|fail)
    all_goals first
     | (refine Or.inl ?_;(conv=>whnf)
        exact⟨rfl,_,rfl⟩)
     | (refine⟨i+1,by omega,by omega,?_⟩
        (conv=>whnf);(first|rfl|simp[envCat, tkL0, SI.row, Node.row, Pfx.row, Link.row, srow, Line.row, Rule.row, Box.row, Slc.row, Config.row, brow])
        done)
  . obtain rfl:i=c.boxes.l.length:=by omega
    (try (conv=>whnf));repeat' (first|refine Ok.seq ?_|((first|refine Ok.region tok ?_|refine Ok.cond ?_|refine Ok.exit ?_|refine Ok.ret ?_);conv=>whnf)|(refine bI ?_ ?_<;>intro<;>(conv=>whnf)<;>(try (exfalso;omega)))|fail)
    refine Or.inl ?_;(conv=>whnf)
    exact⟨rfl,_,rfl⟩
end Go.Proofs.YtnlingegeangmaaGreatDoor
namespace Go.Proofs.YtnlingegeangmaaGreatDoor
open Go Go.Vx Go.Shelf Go.RowKit Go.Lib Go.Sort
theorem mtBy:MTy Tryz.prog 150 kP fS:=by
 refine⟨⟨155,74,Tryz.underlying150,keyP Tryz.underlying155 rfl rfl Tryz.underlying3 Tryz.underlying3 (EqT.of_b tok (ti:=_) rfl rfl (by kernel_rfl)),fun w=>?_⟩,fun o=>?_⟩
 . kernel_rfl
 . rcases o with _|_|_<;>rfl
def lessK(a b:Key):Bool:=if a.2=b.2 then decide (a.1<b.1) else decide (a.2<b.2)
theorem swo_key{α:Type}(key:α->Key):SWO (fun x y:α=>lessK (key x) (key y)) where
 irrefl:=fun x=>by simp[lessK]
 trans:=fun x y z h k=>by
  unfold lessK at *
  split at h<;>split at k<;>split<;>simp at *<;>omega
 ntrans:=fun x y z h k=>by
  unfold lessK at *
  split at h<;>split at k<;>split<;>simp at *<;>omega
theorem less_pfx(blk c Bs size:Nat)(W:World)(G:Nat->Key)(hs:W.cell? ⟨Bs,0,none⟩=some (.slice (some ⟨blk,0,none⟩) size c))
    (hc0:∀ t,t<size->W.cell? ⟨blk,0+(t*2+0),none⟩=some (.int .i64 (G t).1))(hc1:∀ t,t<size->W.cell? ⟨blk,0+(t*2+1),none⟩=some (.int .i64 (G t).2))(i j:Nat)(hi:i<size)(hj:j<size)(_hsz:size<4611686018427387904) :
    Calls Tryz.prog 128 #[.int .i64 i,.int .i64 j,.pointer (some ⟨Bs,0,none⟩)] W fun e w'=>e = .returned (.bool (lessK (G i) (G j)))/\∃ q,w'=W.drewN q:=by
 have ci:=hc1 i hi
 have cj:=hc1 j hj
 have di:=hc0 i hi
 have dj:=hc0 j hj
 rw[Nat.zero_add] at ci cj di dj
 rw[Nat.add_zero] at di dj
 go_enter Tryz.func128,Tryz.ntmps128
 go_wp2
 go_quiet (fail)
 go_wp2
 all_goals go_quiet (fail)
 all_goals go_wp2
 all_goals go_ret
 . rename_i q2 h
   refine⟨?_,_,World.drewN_drewN _ _ _⟩
   show Ending.returned (.bool (decide ((G i).2<(G j).2)))=_
   unfold lessK
   rw[if_neg (by simpa using h)]
 . rename_i q2 h
   refine⟨?_,_,World.drewN_drewN _ _ _⟩
   show Ending.returned (.bool (decide ((G i).1<(G j).1)))=_
   unfold lessK
   rw[if_pos (by simpa using h)]
noncomputable def sipT:TypeInfo:=(Tryz.prog.info? 151).get (by kernel_rfl)
noncomputable def sipE:TypeInfo:=(Tryz.prog.info? 155).get (by kernel_rfl)
theorem sipK(n:Nat)(h2:2<=n):Lib.swapperK n sipE 25=9:=by
 have a:sipE.hasPointers=false:=by kernel_rfl
 have b:sipE.bytes=16:=by kernel_rfl
 have c:(n == 0)=false:=by simp;omega
 have d:(n == 1)=false:=by simp;omega
 simp[Lib.swapperK,a,b,c,d]
def kvK(vs:List Value)(k:Key):Prop:=vs[0]? = some (.int .i64 k.1)/\vs[1]? = some (.int .i64 k.2)
theorem sort_pfx:SortG Tryz.prog 127 151 2 128 kvK where
 call:=Tryz.call127
 conc:=by kernel_rfl
 big:=fun α _ enc key hk h1 hkey blk c Bs d h2 hsz w hH hblk hBs hB1 hB2=>by
  have hless:LessReadsK Tryz.prog 128 #[.pointer (some ⟨Bs,0,none⟩)] enc 2 (fun x y=>lessK (key x) (key y)) blk 0 d.size w:=by
   intro m os dk hs i j hi hj
   have e:sortWorldK enc 2 w blk 0 m dk os=putRowK enc 2 (grow (Sort.ahead w m) os) blk 0 dk:=by
    unfold sortWorldK;rw[putRowK_grow _ _ (Sort.ahead w m) _ blk 0 _ hblk]
   have hHg:HoldsK enc 2 (grow (Sort.ahead w m) os) blk 0 d:=holdsK_grow _ _ _ _ blk 0 d hblk (holdsK_ahead _ _ _ _ _ _ _ hH)
   refine less_pfx blk c Bs d.size _ (fun t=>key dk[t]!) ?_ (fun t ht=>?_) (fun t ht=>?_) i j hi hj (by omega)
   . rw[e,cell?_putRowK_other _ _ _ blk 0 dk _ (by exact hB2),cell?_grow _ _ _ (by exact hB1)];exact hBs
   . rw[e]
     have h3:=((holdsK_putRowK _ _ _ blk 0 d dk hHg hs).cell (i:=t) (c:=0) (by omega) (by omega)).1
     refine h3.trans ?_
     exact congrArg some (List.getElem!_of_getElem? (hkey dk[t]!).1)
   . rw[e]
     have h3:=((holdsK_putRowK _ _ _ blk 0 d dk hHg hs).cell (i:=t) (c:=1) (by omega) (by omega)).1
     refine h3.trans ?_
     exact congrArg some (List.getElem!_of_getElem? (hkey dk[t]!).2)
  refine (Any.sort_Slice_cells_sorted Tryz.vxSort 151 155 sipT sipE (by kernel_rfl) (by kernel_rfl) (by kernel_rfl) (by kernel_rfl) 25 (fun _=>by kernel_rfl) enc 2 hk (by kernel_rfl) (fun _=>by kernel_rfl)
   h1 _ (swo_key key) 128 _
   (enters_of Tryz.func128 (by kernel_rfl) rfl) blk 0 c d h2 hsz 187 (by rw[sipK _ h2];kernel_rfl) false
   (fun args W=>run_callFunc_extern Tryz.func187 (by kernel_rfl) (by kernel_rfl) (by kernel_rfl) (e:=Extern.ReflectliteSwapper.swap false) (by kernel_rfl) args W) w hless hH hblk).mono ?_
  rintro e w' ⟨h1,d',n,os,hp,_,hw⟩
  exact⟨h1,d',n,os,hp,hw⟩
 tiny:=fun p n c lb w h1=>by
  rcases Nat.eq_zero_or_pos n with h|h
  . subst h
    exact Any.sort_Slice_tiny Tryz.vxSort 151 155 sipT sipE (by kernel_rfl) (by kernel_rfl) (by kernel_rfl) (by kernel_rfl) 25 (fun _=>by kernel_rfl) p 0 c h1 179 (by kernel_rfl) (.func 128) #[] lb w
  . obtain rfl:n=1:=by omega
    exact Any.sort_Slice_tiny Tryz.vxSort 151 155 sipT sipE (by kernel_rfl) (by kernel_rfl) (by kernel_rfl) (by kernel_rfl) 25 (fun _=>by kernel_rfl) p 1 c h1 180 (by kernel_rfl) (.func 128) #[] lb w
end Go.Proofs.YtnlingegeangmaaGreatDoor
namespace Go.Proofs.YtnlingegeangmaaGreatDoor
open Go Go.Vx
theorem rdK{V:Vw}(vs:List Value)(ds:List D)(l:Key)(h1:vs.length=2)(h2:ds.length=2)(hr:∀ (j:Nat) v d,vs[j]? = some v->ds[j]? = some d->RI (szOf T) V v d)(h:ds=kRow l):kvK vs l:=by
 subst h
 match vs,h1 with
 | [a,b],_=>
  have e1:=(RS.imm (μ:=[]) (ω:=[]) _ _ (hr 0 a _ rfl rfl)).int_
  have e2:=(RS.imm (μ:=[]) (ω:=[]) _ _ (hr 1 b _ rfl rfl)).int_
  exact⟨by rw[e1];rfl,by rw[e2];rfl⟩
theorem owners_at(c:Config)(hc:c.Ok)(hn:c.boxes.l.length<=18)(ho:∀ b ∈ c.boxes.l,b.owns.l.length<=70) :
    FSpecB Tryz.prog T 86 [.agg c.row] (fun d M B=>∃ (gm:Nat) (l:Ents) (cl:Nat) (ks:List Key),d = .tup [.mv (some gm),.lst 155 (ks.map kRow) []]/\M=[(gm,mObj kP fS l cl)]/\B=bo l/\OI (ownN c.boxes.l c.boxes.l.length) l cl/\(∀ k,k ∈ ks ↔ (lk l k).isSome=true)/\ks.length<=1260):=by
 have hbl:(c.boxes.l.map Box.row).length=c.boxes.l.length:=by simp
 refine FSpecB.of_ok tok Tryz.func86 rfl Tryz.call86 (by simp) ?_
 (try (conv=>whnf));repeat' (first|(refine⟨_,_,_,_,_,mtBy,fun _ _=>?_⟩;conv=>whnf)|refine OkB.seq ?_|(refine OkB.of_okM (OkM.region tok ?_);conv=>whnf)|refine OkB.block ?_|fail)
 rename_i gm hgm
 refine OkB.loopU [4,14,15] [16] 0 1 (fun (x:Nat × Ents × Nat)=>[.i .i64 (x.1:Nat)]) (fun (x:Nat × Ents × Nat) (_:List (List D))=>[c.row]) (fun _ r=>r) (fun (x:Nat × Ents × Nat)=>[(gm,mObj kP fS x.2.1 x.2.2)]) (fun (x:Nat × Ents × Nat)=>bo x.2.1) (fun (x:Nat × Ents × Nat)=>x.1<=c.boxes.l.length/\OI (ownN c.boxes.l x.1) x.2.1 x.2.2) (fun (x:Nat × Ents × Nat)=>c.boxes.l.length - x.1) ((0,[],0)) (⟨Nat.zero_le _,.nil⟩) (by first|exact .refl _|exact .cons _ (.refl _)|exact List.nil_sublist _|assumption|(dsimp only;rw[bt_none];exact .refl _)) (by first|exact .refl _|exact .cons _ (.refl _)|exact List.nil_sublist _|assumption|(dsimp only;rw[bt_none];exact .refl _)) ?_;(conv=>whnf);refine⟨by ((conv=>whnf);first|rfl|(simp[envCat, tkL0, SI.row, Node.row, Pfx.row, Link.row, srow, Line.row, Rule.row, Box.row, Slc.row, Config.row, irow, kRow];done)|(simp[envCat, tkL0, SI.row, Node.row, Pfx.row, Link.row, srow, Line.row, Rule.row, Box.row, Slc.row, Config.row, irow, kRow];rw[IntKind.wrap_i64];omega)),?_⟩
 rintro⟨n,l,cl⟩ ⟨hn1,hO⟩
 dsimp only at hn1 hO ⊢
 (conv=>whnf)
 by_cases hlt:n<c.boxes.l.length
 . obtain⟨b,hb⟩:∃ b,c.boxes.l[n]? = some b:=⟨_,gEt0 hlt⟩
   have hbI:c.boxes.l[((n:Nat):Int).toNat]? = some b:=hb
   have hbr:(c.boxes.l.map Box.row)[((n:Nat):Int).toNat]? = some b.row:=by rw[gMp0,hbI];rfl
   have hol:(b.owns.l.map Pfx.row).length=b.owns.l.length:=by simp
   have ho1:=ho b (mOf0 hb)
   (try (conv=>whnf));repeat' (first|refine OkB.seq ?_|((first|refine OkB.of_okM (OkM.region tok ?_)|refine OkB.cond ?_);conv=>whnf)|refine OkB.block ?_|((first|refine OkB.skip ?_|refine ix _ (by assumption) ?_);conv=>whnf)|(refine bI ?_ ?_<;>intro<;>(conv=>whnf)<;>(try (exfalso;omega)))|fail)
   refine OkB.loopU [4,5,14,15,16,22,23] [24] 0 1 (fun (y:Nat × Ents × Nat)=>[.i .i64 (y.1:Nat)]) (fun (y:Nat × Ents × Nat) (_:List (List D))=>[c.row]) (fun _ r=>r) (fun (y:Nat × Ents × Nat)=>[(gm,mObj kP fS y.2.1 y.2.2)]) (fun (y:Nat × Ents × Nat)=>bo y.2.1) (fun (y:Nat × Ents × Nat)=>y.1<=b.owns.l.length/\OI (ownN c.boxes.l n++ownP n (b.owns.l.take y.1)) y.2.1 y.2.2) (fun (y:Nat × Ents × Nat)=>b.owns.l.length - y.1) ((0,l,cl)) (⟨Nat.zero_le _,by simpa[ownP] using hO⟩) (by first|exact .refl _|exact .cons _ (.refl _)|exact List.nil_sublist _|assumption|(dsimp only;rw[bt_none];exact .refl _)) (by first|exact .refl _|exact .cons _ (.refl _)|exact List.nil_sublist _|assumption|(dsimp only;rw[bt_none];exact .refl _)) ?_;(conv=>whnf);refine⟨by ((conv=>whnf);first|rfl|(simp[envCat, tkL0, SI.row, Node.row, Pfx.row, Link.row, srow, Line.row, Rule.row, Box.row, Slc.row, Config.row, irow, kRow];done)|(simp[envCat, tkL0, SI.row, Node.row, Pfx.row, Link.row, srow, Line.row, Rule.row, Box.row, Slc.row, Config.row, irow, kRow];rw[IntKind.wrap_i64];omega)),?_⟩
   clear hO l cl
   rintro⟨m,l,cl⟩ ⟨hm1,hO⟩
   dsimp only at hm1 hO ⊢
   (conv=>whnf)
   by_cases hlm:m<b.owns.l.length
   . obtain⟨o,hoo⟩:∃ o,b.owns.l[m]? = some o:=⟨_,gEt0 hlm⟩
     have hoI:b.owns.l[((m:Nat):Int).toNat]? = some o:=hoo
     have hor:(b.owns.l.map Pfx.row)[((m:Nat):Int).toNat]? = some o.row:=by rw[gMp0,hoI];rfl
     have hll:=byF_len (ownN c.boxes.l n++ownP n (b.owns.l.take m)) (keyOf o)
     have hl1:=ownN_len ho n
     have hl2:(ownN c.boxes.l n++ownP n (b.owns.l.take m)).length<=2000:=by simp[ownP];omega
     rcases hO.cases (keyOf o) with⟨hlk,hbe⟩|⟨h,hlk,hne,hbk⟩
     . have hp:∀ x:Hd,(x.p :: bo l).Perm (bo (mput l cl (keyOf o) (some x)).1):=fun x=>by have:=bo_in l cl (keyOf o) x;rwa [mdel_none hlk] at this
       (try (conv=>whnf));repeat' (first|(refine⟨_,_,_,_,_,_,_,0,keyOf o,none,mtBy,rfl,rfl,rfl,?_⟩;rw[hlk];conv=>whnf)|(refine⟨500,?_⟩;(conv=>whnf);refine⟨by simp,_,.inl ⟨rfl,rfl⟩,?_⟩;(conv=>whnf);refine⟨by simp,by simp,[irow (n:Int)],1,rfl,rfl,fun g' c' hc'=>?_⟩;(conv=>whnf))|((first|refine⟨_,_,_,kP,fS,l,cl,0,keyOf o,none,some ⟨_,_,_,obD⟩,mtBy.vg,hO.wf,rfl,rfl,rfl,?_⟩|refine OkB.go (c:=.region 10 _ _) (GoH.close tok (t0:=500) (ti:=_) rfl rfl rfl (irow_ground [(n:Int)]) fun o' ho'=>?_));conv=>whnf)|(refine OkB.perm (c:=.region 10 _ _) (hp ⟨g',1,c',o'⟩) ?_)|refine OkB.seq ?_|((first|refine OkB.of_okM (OkM.region tok ?_)|refine OkB.cond ?_);conv=>whnf)|refine OkB.block ?_|((first|refine OkB.skip ?_|refine nI ?_|refine ix _ (by assumption) ?_);conv=>whnf)|(refine bI ?_ ?_<;>intro<;>(conv=>whnf)<;>(try (exfalso;omega)))|fail)
       refine⟨(m+1,(mput l cl (keyOf o) (some ⟨g',1,c',o'⟩)).1,(mput l cl (keyOf o) (some ⟨g',1,c',o'⟩)).2),by dsimp only;omega,⟨by dsimp only;omega,?_⟩,?_,.refl _,?_⟩
       . dsimp only
         rw[ownP_succ hoo,<- List.append_assoc]
         exact hO.put (by rw[hbe];exact ho')
       . dsimp only
         rw[obj_set kP l cl (keyOf o) g' 1 c' o' obD]
         exact .refl _
       . (conv=>whnf);(first|rfl|simp[envCat, tkL0, SI.row, Node.row, Pfx.row, Link.row, srow, Line.row, Rule.row, Box.row, Slc.row, Config.row, irow, kRow])
     . have hnl:=(blk_len hbk).1
       have hil:((byF (ownN c.boxes.l n++ownP n (b.owns.l.take m)) (keyOf o)).map irow).length=(byF (ownN c.boxes.l n++ownP n (b.owns.l.take m)) (keyOf o)).length:=by simp
       (try (conv=>whnf));repeat' (first|(refine OkB.perm (c:=.region 9 _ _) (bo_out hlk) ?_)|(refine OkB.go (c:=.region 9 _ _) (GoH.open 500 hbk ?_);conv=>whnf)|(refine⟨_,_,_,_,_,_,_,0,keyOf o,none,mtBy,rfl,rfl,rfl,?_⟩;rw[hlk];conv=>whnf)|(refine⟨500,501,0,rfl,?_⟩;conv=>whnf)|(refine⟨(byF (ownN c.boxes.l n++ownP n (b.owns.l.take m)) (keyOf o)++[(n:Int)]).map irow,h.n+1,by simp[irow],by simp;omega,?_⟩;conv=>whnf)|(refine⟨fun _=>?_,fun _=>⟨0,by (conv=>whnf);exact True.intro,fun g' c' hc'=>?_⟩⟩<;>(conv=>whnf))|((first|refine⟨_,_,_,kP,fS,l,cl,0,keyOf o,some h,some ⟨_,_,_,obD⟩,mtBy.vg,hO.wf,rfl,rfl,rfl,?_⟩|refine OkB.go (c:=.region 10 _ _) (GoH.close tok (t0:=501) (ti:=_) rfl rfl rfl (irow_ground _) fun o' ho'=>?_)|refine OkB.go (c:=.region 10 _ _) (GoH.close tok (t0:=500) (ti:=_) rfl rfl rfl (irow_ground _) fun o' ho'=>?_));conv=>whnf)|(refine OkB.perm (c:=.region 10 _ _) (bo_in l cl (keyOf o) ⟨h.g,h.n+1,h.c,o'⟩) ?_)|(refine OkB.perm (c:=.region 10 _ _) (bo_in l cl (keyOf o) ⟨g',h.n+1,c',o'⟩) ?_)|refine OkB.seq ?_|((first|refine OkB.of_okM (OkM.region tok ?_)|refine OkB.cond ?_);conv=>whnf)|refine OkB.block ?_|((first|refine OkB.skip ?_|refine nI ?_|refine ix _ (by assumption) ?_|refine⟨_,.inl ⟨rfl,rfl⟩,?_⟩);conv=>whnf)|(refine bI ?_ ?_<;>intro<;>(conv=>whnf)<;>(try (exfalso;omega)))|(refine aJ ?_;conv=>whnf)|fail)
       all_goals first
        | (refine⟨(m+1,(mput l cl (keyOf o) (some ⟨g',h.n+1,c',o'⟩)).1,(mput l cl (keyOf o) (some ⟨g',h.n+1,c',o'⟩)).2),by dsimp only;omega,⟨by dsimp only;omega,by dsimp only;rw[ownP_succ hoo,<- List.append_assoc];exact hO.put ho'⟩,by dsimp only;rw[obj_set kP l cl (keyOf o) g' (h.n+1) c' o' obD];exact .refl _,.refl _,?_⟩
           (conv=>whnf);(first|rfl|simp[envCat, tkL0, SI.row, Node.row, Pfx.row, Link.row, srow, Line.row, Rule.row, Box.row, Slc.row, Config.row, irow, kRow])
           done)
        | (refine⟨(m+1,(mput l cl (keyOf o) (some ⟨h.g,h.n+1,h.c,o'⟩)).1,(mput l cl (keyOf o) (some ⟨h.g,h.n+1,h.c,o'⟩)).2),by dsimp only;omega,⟨by dsimp only;omega,by dsimp only;rw[ownP_succ hoo,<- List.append_assoc];exact hO.put ho'⟩,by dsimp only;rw[obj_set kP l cl (keyOf o) h.g (h.n+1) h.c o' obD];exact .refl _,.refl _,?_⟩
           (conv=>whnf);(first|rfl|simp[envCat, tkL0, SI.row, Node.row, Pfx.row, Link.row, srow, Line.row, Rule.row, Box.row, Slc.row, Config.row, irow, kRow])
           done)
   . obtain rfl:m=b.owns.l.length:=by omega
     rw[List.take_length] at hO
     (try (conv=>whnf));repeat' (first|refine OkB.seq ?_|((first|refine OkB.of_okM (OkM.region tok ?_)|refine OkB.cond ?_|refine OkB.exit ?_|refine nI ?_);conv=>whnf)|(refine bI ?_ ?_<;>intro<;>(conv=>whnf)<;>(try (exfalso;omega)))|fail)
     refine⟨(n+1,l,cl),by dsimp only;omega,⟨by dsimp only;omega,by dsimp only;rw[ownN_succ hb];exact hO⟩,.refl _,.refl _,?_⟩
     (conv=>whnf);(first|rfl|simp[envCat, tkL0, SI.row, Node.row, Pfx.row, Link.row, srow, Line.row, Rule.row, Box.row, Slc.row, Config.row, irow, kRow])
 . obtain rfl:n=c.boxes.l.length:=by omega
   have hll:=hO.len
   have hl1:=ownN_len ho c.boxes.l.length
   (try (conv=>whnf));repeat' (first|((first|refine⟨0,l.length,rfl,rfl,Nat.zero_le _,by omega,?_⟩|refine⟨_,_,_,_,_,_,_,_,mtBy,(by first|exact .head _|exact .tail _ (.head _)|exact .tail _ (.tail _ (.head _))|exact .tail _ (.tail _ (.tail _ (.head _)))|exact List.mem_append_left _ (by assumption)),rfl,?_⟩|refine⟨_,_,_,_,_,_,_,mtBy,(by first|exact .head _|exact .tail _ (.head _)|exact .tail _ (.tail _ (.head _))|exact List.mem_append_left _ (by assumption)),fun _ _=>?_⟩);conv=>whnf)|refine OkB.seq ?_|((first|refine OkB.of_okM (OkM.region tok ?_)|refine OkB.cond ?_);conv=>whnf)|refine OkB.block ?_|(refine OkB.exit ?_;conv=>whnf)|(refine bI ?_ ?_<;>intro<;>(conv=>whnf)<;>(try (exfalso;omega)))|(refine⟨_,rfl,?_⟩;conv=>whnf)|fail)
   rename_i gi hgi
   refine OkB.loopU [4,10,47] [] 1 2 (fun (x:List Key × List Nat)=>[]) (fun (x:List Key × List Nat) (_:List (List D))=>[c.row,[.own 0 x.1.length]]) (fun (x:List Key × List Nat) (_:Vx.Rows)=>[some (155,x.1.map kRow)]) (fun (x:List Key × List Nat)=>[(gi,itObj gm cl x.2),(gm,mObj kP fS l cl)]) (fun (x:List Key × List Nat)=>bo l) (fun (x:List Key × List Nat)=>(∀ k,k ∈ x.1 ↔ ∃ e ∈ l,e.2.2 ∈ x.2/\e.1=k)/\x.1.length+(l.filter fun e=>decide (e.2.2 ∉ x.2)).length<=l.length) (fun (x:List Key × List Nat)=>(l.filter fun e=>decide (e.2.2 ∉ x.2)).length) (([],[])) (⟨by simp,by have:=List.length_filter_le (fun e:Key × Option Hd × Nat=>decide (e.2.2 ∉ ([]:List Nat))) l;simpa using this⟩) (by first|exact .refl _|exact .cons _ (.refl _)|exact List.nil_sublist _|assumption|(dsimp only;rw[bt_none];exact .refl _)) (by first|exact .refl _|exact .cons _ (.refl _)|exact List.nil_sublist _|assumption|(dsimp only;rw[bt_none];exact .refl _)) ?_;(conv=>whnf);refine⟨by ((conv=>whnf);first|rfl|(simp[envCat, tkL0, SI.row, Node.row, Pfx.row, Link.row, srow, Line.row, Rule.row, Box.row, Slc.row, Config.row, irow, kRow];done)|(simp[envCat, tkL0, SI.row, Node.row, Pfx.row, Link.row, srow, Line.row, Rule.row, Box.row, Slc.row, Config.row, irow, kRow];rw[IntKind.wrap_i64];omega)),?_⟩
   rintro⟨ks,seen⟩ ⟨hks,hkl⟩
   dsimp only at hks hkl ⊢
   (conv=>whnf)
   have hkm:(ks.map kRow).length=ks.length:=by simp
   refine OkB.seq ?_
   refine OkB.of_okM (OkM.region tok ?_)
   (conv=>whnf)
   refine⟨_,_,inferInstance,_,_,_,_,0,_,_,fun _=>rfl,mtBy.vg,hO.wf,rfl,.tail _ (.head _),?_,?_⟩
   rotate_left
   . rintro⟨ek,eo,en⟩ he hns
     have hsl:=seen_less he hns
     dsimp only at hsl
     obtain⟨h,rfl⟩:∃ h,eo=some h:=by
      have h1:=lk_of hO.keys he
      rcases hO.cases ek with⟨h2,_⟩|⟨h,h2,_⟩
      . rw[h1] at h2;cases h2
      . rw[h1] at h2;cases h2;exact⟨h,rfl⟩
     (conv=>whnf)
     (try (conv=>whnf));repeat' (first|(refine⟨_,_,inferInstance,_,_,_,_,0,_,_,(ek,some h,en),fun _=>rfl,mtBy.vg,hO.wf,rfl,.tail _ (.head _),he,?_⟩;conv=>whnf)|refine OkB.seq ?_|((first|refine OkB.of_okM (OkM.region tok ?_)|refine OkB.cond ?_);conv=>whnf)|refine OkB.block ?_|((first|refine OkB.skip ?_|refine Alt2.l (aI ?_)|refine⟨_,.inl ⟨rfl,rfl⟩,?_⟩|refine⟨_,_,rfl,rfl,?_⟩|refine aJ ?_);conv=>whnf)|fail)
     refine⟨(ks++[ek],seen++[en]),hsl,⟨fun k=>?_,by simp only[List.length_append,List.length_singleton];omega⟩,.refl _,.refl _,?_⟩
     . dsimp only
       rw[mAp0,hks k,List.mem_singleton]
       constructor
       . rintro (⟨e',a1,a2,a3⟩|rfl)
         . exact⟨e',a1,List.mem_append_left _ a2,a3⟩
         . exact⟨_,he,by simp,rfl⟩
       . rintro⟨e',a1,a2,a3⟩
         rcases mAp0.1 a2 with a2|a2
         . exact .inl ⟨e',a1,a2,a3⟩
         . right
           rw[<- a3,born_inj hO.wf.1 a1 he (List.mem_singleton.1 a2)]
     . (conv=>whnf);(first|rfl|simp[envCat, tkL0, SI.row, Node.row, Pfx.row, Link.row, srow, Line.row, Rule.row, Box.row, Slc.row, Config.row, irow, kRow])
   . intro hall
     have hks':∀ k,k ∈ ks ↔ (lk l k).isSome=true:=by
      intro k
      rw[hks k]
      constructor
      . rintro⟨e',a1,_,rfl⟩
        rw[lk_of hO.keys a1]
        rfl
      . intro hk
        obtain⟨a,ha⟩:=Option.isSome_iff_exists.1 hk
        obtain⟨nn,hm⟩:=lk_mem ha
        exact⟨_,hm,hall _ hm,rfl⟩
     (conv=>whnf)
     (try (conv=>whnf));repeat' (first|(refine OkB.of_okM (OkM.of_ok (Ok.sortG tok sort_pfx (rd:=fun ds k=>ds=kRow k) (by (conv=>whnf);exact⟨rfl,rfl⟩) rfl rfl rfl (by simp) rfl (by decide) (by decide) (by decide) rdK (fun x hx=>let ⟨k,_,hk⟩:=List.mem_map.1 (List.mem_of_mem_take hx);⟨k,hk.symm⟩) (by omega) ?_)))|refine OkB.seq ?_|((first|refine OkB.cond ?_|refine OkB.exit ?_);conv=>whnf)|fail)
     intro ys hys
     obtain⟨ks',hk',rfl⟩:=perm_map_ex hys ks (tkL0 (by simp))
     rw[drop_all,List.append_nil]
     (conv=>whnf)
     have hkl':=hk'.length_eq
     have hkm':(ks'.map kRow).length=ks'.length:=by simp
     refine OkB.sub (M':=[(gm,mObj kP fS l cl)]) (B':=bo l) (.cons _ (.refl _)) (.refl _) ?_
     (try (conv=>whnf));repeat' (first|refine OkB.seq ?_|((first|refine OkB.of_okM (OkM.of_ok (Ok.region_draw tok follows (by kernel_rfl) ?_))|refine OkB.ret ?_);conv=>whnf)|fail)
     refine⟨gm,l,cl,ks',?_,rfl,rfl,hO,fun k=>by rw[hk'.mem_iff];exact hks' k,by omega⟩
     rw[<- hkl',take_all,drop_all]
     rfl
end Go.Proofs.YtnlingegeangmaaGreatDoor
namespace Go.Proofs.YtnlingegeangmaaGreatDoor
open Go Go.Vx
def TabR:Tab:=fun t=>match Nat.beq t 55 with|true=>(T 55).map fun x=>{ x with kind:=.other }|false=>T t
theorem tR_at:∃ a b e z,T 55=some ⟨a,b,.slice e,z⟩:=⟨_,_,_,_,rfl⟩
theorem tokR:TOk Tryz.prog TabR:=by
 intro t ti h
 unfold TabR at h
 split at h
 . rename_i hb
   have:=beq_nat_true hb
   subst this
   obtain⟨a,b,e,z,hx⟩:=tR_at
   rw[hx] at h
   cases h
   have g:=tok _ _ hx
   exact⟨g.info,trivial,g.agg,g.small⟩
 . exact tok t ti h
theorem szTabR:szOf TabR=szOf T:=by
 funext e
 unfold szOf TabR
 by_cases hb:Nat.beq e 55=true
 . have:=beq_nat_true hb
   subst this
   obtain⟨a,b,e,z,hx⟩:=tR_at
   rw[hb,hx]
   rfl
 . rw[Bool.eq_false_iff.2 hb]
def tbRow(l:List Route):List D:=[.lst 57 (l.map Route.row) []]
theorem sum_mem{α:Type}(f:α->Nat){l:List α}{x:α}(hx:x ∈ l):f x<=(l.map f).sum:=by
 induction l with
 | nil=>cases hx
 | cons a l ih=>
  rw[List.map_cons,List.sum_cons]
  rcases List.mem_cons.1 hx with rfl|h
  . omega
  . have:=ih h;omega
theorem routes_le{c:ConfigB}(h:(countO c).1=0):nRoutes c.boxes<=64:=by
 have h1:=firstE_zero h 4 _ rfl
 unfold cntE at h1
 split at h1
 . cases h1
 . dsimp only at *;omega
theorem owns_le{c:Config}(h:(countO c.b).1=0){b:Box}(hb:b ∈ c.boxes.l):b.owns.l.length<=70:=by
 have h1:=routes_le h
 have h2:b.owns.l.length+b.routes.l.length<=nRoutes c.b.boxes:=sum_mem (fun b:BoxB=>b.owns.length+b.routes.length) (List.mem_map.2 ⟨b,hb,rfl⟩:Box.b b ∈ c.b.boxes)
 omega
theorem raws_le{c:Config}(h:(countO c.b).1=0)(ks:List Key)(i n:Nat):(rawF c ks n i).length<=100+ks.length:=by
 have h1:(wrtJ c i).length<=64:=by
  unfold wrtJ
  split
  . rename_i b hb
    have h1:=routes_le h
    have h2:b.owns.l.length+b.routes.l.length<=nRoutes c.b.boxes:=sum_mem (fun b:BoxB=>b.owns.length+b.routes.length) (List.mem_map.2 ⟨b,mOf0 hb,rfl⟩:Box.b b ∈ c.b.boxes)
    simp only[wrtB,List.length_append,lMp0]
    omega
  . simp
 have h2:∀ l:List Key,(l.flatMap (cmpR c i)).length<=l.length:=by
  intro l
  induction l with
  | nil=>simp
  | cons k l ih=>
   rw[List.flatMap_cons,List.length_append,List.length_cons]
   have:(cmpR c i k).length<=1:=by unfold cmpR;split<;>simp
   omega
 have h3:=h2 (ks.take n)
 have h4:(ks.take n).length<=ks.length:=by simp;omega
 unfold rawF
 rw[List.length_append]
 omega
theorem rt_ground(xs:List Route):∀ x ∈ xs.map Route.row,grounds x=true:=by
 intro x hx
 obtain⟨_,_,rfl⟩:=List.mem_map.1 hx
 rfl
def tblR(L:List (List Route))(hs:List (Option Hd))(i:Nat):List (List D):=(L.take i).map tbRow++(hs.drop i).map cel
theorem tblR_get{L:List (List Route)}{hs:List (Option Hd)}{i:Nat}{h:Option Hd}(hh:hs[i]? = some h)(hl:i<=L.length):(tblR L hs i)[i]? = some (cel h):=by
 unfold tblR
 rw[List.getElem?_append_right (by simp;omega),lMp0,List.length_take,Nat.min_eq_left hl,Nat.sub_self,gMp0,List.getElem?_drop,Nat.add_zero,hh]
 rfl
theorem tblR_set{L:List (List Route)}{hs:List (Option Hd)}{i:Nat}{l:List Route}(hl:L[i]? = some l)(hh:i<hs.length)(h:Option Hd):(tblR L hs i).set i (setCells (cel h) 0 [.lst 57 (l.map Route.row) []])=tblR L hs (i+1):=by
 have hi:=(gSm0.1 hl).1
 have e:setCells (cel h) 0 [.lst 57 (l.map Route.row) []]=tbRow l:=rfl
 rw[e]
 unfold tblR
 rw[List.take_add_one,hl,List.set_append_right _ _ (by simp;omega),lMp0,List.length_take,Nat.min_eq_left (by omega),Nat.sub_self,List.drop_eq_getElem_cons hh]
 simp only[List.map_cons,List.set_cons_zero,List.map_append,List.map_nil,List.append_assoc,List.singleton_append,Option.toList]
theorem bt_drop{hs:List (Option Hd)}{i:Nat}{h:Hd}(hh:hs[i]? = some (some h)):(bt (hs.drop i)).Perm (h.p :: bt (hs.drop (i+1))):=by
 obtain⟨h1,h2⟩:=gSm0.1 hh
 rw[List.drop_eq_getElem_cons h1,h2]
 exact .refl _
theorem bt_drop0{hs:List (Option Hd)}{i:Nat}(hh:hs[i]? = some none):bt (hs.drop (i+1))=bt (hs.drop i):=by
 obtain⟨h1,h2⟩:=gSm0.1 hh
 rw[List.drop_eq_getElem_cons h1,h2]
 rfl
theorem clF_get0{c:Config}{ks:List Key}{n i:Nat}(h:i<c.boxes.l.length):(clF c ks n 0)[i]? = some (rawF c ks n i):=by
 unfold clF
 rw[gMp0,List.getElem?_range h]
 simp
end Go.Proofs.YtnlingegeangmaaGreatDoor
