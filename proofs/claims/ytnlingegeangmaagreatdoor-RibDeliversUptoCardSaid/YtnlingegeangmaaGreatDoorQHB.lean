/- The walks and the plain laws that a law of networks needs, part 2 of 7. -/
import Derived.Test.YtnlingegeangmaaGreatDoorQHA
import Derived.Laws.IdiomStrings
import Derived.RangeFuncLeaves
import Derived.RangeFuncOwn
import Derived.OrdersHeld
import Derived.Laws.StructEq
import Derived.ChangeKeysEq
import Derived.MapKept
import Derived.Maps.RangeRun
import Derived.Scope
import Derived.WalkSmall
import Derived.Defers
import Derived.Recover
set_option linter.unusedVariables false
set_option linter.unusedSimpArgs false
set_option linter.unusedSectionVars false
set_option maxRecDepth 100000
set_option maxHeartbeats 16000000
namespace Go.Vx
open Go.RowKit
section
variable {w0 w w' : World} {V0 : Fr} {V : Vw} {μ : List Nat} {ω : List Value} {box : List (List D)} {row : Rows} {s : St} {a : Act} {P : Program} {T : Tab}
theorem takeRow_sound{env:List (Nat × D)}{n:Nat}(hS:Sim (szOf T) w0 V0 V μ ω ⟨env,box,row,n⟩ a w)(he:Ext w w'){q t1 g' c':Nat}{e:TypeId}{xs:List (List D)}{vals:List Value}{d:D}{K:D->St->Prop}(hq:takesK row q e)
    (ho:w'.ownsRow w0.heap.size e (szOf T e) (.slice (some ⟨g',0,none⟩) xs.length c') xs.length vals)(hR:RowR (szOf T) V e vals xs)(hg:w.heap.size<=g')
    (h:subE q (fun _=>.u) env fun env=>subB q (fun _=>.u) box fun box=>setK row q (some (e,xs)) fun row=>K d ⟨(t1,.tie q g' xs.length c') :: env,box,row,n⟩) :
    ∃ s' ω',K d s'/\Sim (szOf T) w0 V0 V μ ω' s' a w'/\Pre μ μ:=by
 simp only[subE_eq,subB_eq] at h
 obtain⟨hrl,hfin⟩:=setK_iff _ _ _ _ h
 unfold takesK at hq
 split at hq
 case h_2=>exact hq.elim
 rename_i e' xs0 hrow
 obtain⟨hee,_⟩:=eqN_iff hq
 subst hee
 have hrlω:q<ω.length:=by rw[hS.mem.rl];exact hrl
 have hω:ω[q]? = some ω[q]:=gEt0 hrlω
 have hset:∀ r v,r ≠ q->ω[r]? = some v->(ω.set q (.slice (some ⟨g',0,none⟩) xs.length c'))[r]? = some v:=fun r v hr h=>by rw[List.getElem?_set_ne (Ne.symm hr)];exact h
 have hdead:∀ k v,RS (szOf T) V μ ω v (.own q k)->RS (szOf T) V μ (ω.set q (.slice (some ⟨g',0,none⟩) xs.length c')) v .u:=fun _ v _=>.imm _ _ (.u v)
 have hM:=hS.mem.setRow_ (e:=e) (ys:=xs) hω hrow ⟨he.os,he.tape,he.output,he.size,fun k hk _=>he.block k hk⟩ ho hR (v':=.slice (some ⟨g',0,none⟩) xs.length c') (.inr ⟨g',rfl,hg⟩) (box':=box.map fun c=>c.map (sub1F q fun _=>.u)) (by simp) (by
  intro i cs cs' h1 h2
  simp only[gMp0,Option.map_eq_some_iff] at h2
  obtain⟨c0,hc0,rfl⟩:=h2
  rw[h1] at hc0
  cases hc0
  refine⟨by simp,fun j u d d' e1 e2 hrs=>?_⟩
  simp only[gMp0,Option.map_eq_some_iff] at e2
  obtain⟨d0,hd0,rfl⟩:=e2
  rw[e1] at hd0
  cases hd0
  exact hrs.sub1 (.refl V) hset hdead) (fun i cs cs' h1 h2 t h=>by simp only[gMp0,h1,Option.map_some,Option.some.injEq] at h2;subst h2;exact bTy_sub (fun _=>rfl) h)
 refine⟨_,_,hfin,⟨hS.tmps,hS.defers.ext he,fun t=>?_,hM⟩,.refl μ⟩
 show RS _ _ _ _ _ (look ((t1,_) :: env.map fun x=>(x.1,subDF q (fun _=>.u) x.2)) t)
 unfold look
 split
 . exact .tie _ _ _ _ _ (List.getElem?_set_self hrlω)
 . rw[look_sub]
   exact (hS.env t).sub (.refl V) hset hdead
theorem appK_sound(hT:TOk P T)(hS:Sim (szOf T) w0 V0 V μ ω s a w){t ty:TypeId}{x y:D}{vx vy:Value}{K:D->St->Prop}(hx:RS (szOf T) V μ ω vx x)(hy:RS (szOf T) V μ ω vy y)(h:appK T s t x y K) :
    ∃ d v s' ω' w',K d s'/\RS (szOf T) V μ ω' v d/\Sim (szOf T) w0 V0 V μ ω' s' a w'/\(Builtin.append_ #[t,t] ty #[vx,vy]).run P w = .ok v w'/\Step (effA x) V μ ω w V μ ω' w':=by
 obtain⟨env,box,row,n⟩:=s
 unfold appK at h
 dsimp only at h
 split at h
 . obtain⟨⟨e,ti,hu,hti⟩,h⟩:=slE_iff hT h
   obtain⟨i,z,hi,_⟩:=(hT _ _ hti).info
   refine⟨_,_,_,ω,w,h,.imm _ _ .nilS,hS,?_,.ext (fun _ _ h=>h) (.refl _) (.refl _) (Ext.refl w)⟩
   rw[hy.nilS_]
   exact append_nilS hu hi vx (hx.nilS_) (Nat.le_refl _) |>.trans (by rw[hx.nilS_])
 . rename_i r m
   obtain⟨⟨e,ti,hu,hti⟩,h⟩:=slE_iff hT h
   obtain⟨i,z,hi,_⟩:=(hT _ _ hti).info
   split at h
   case h_2=>exact h.elim
   rename_i y hrow
   obtain⟨e2,xs⟩:=y
   obtain⟨A,N,c,hω,hn,hv⟩:=hx.own_
   obtain⟨A2,c2,vals,e1,hc,_⟩:=hS.mem.rowShapeR hω hrow
   cases e1
   refine⟨_,_,_,ω,w,h,hx,hS,?_,.ext (fun _ _ h=>h) (.refl _) (.refl _) (Ext.refl w)⟩
   rw[hy.nilS_]
   exact append_nilS hu hi vx hv (by omega)
 . -- a first row
   obtain⟨e,ys,A,c,vals,h,hrd⟩:=rowsOf_sound hS hy h
   obtain⟨hu,hz,_,h⟩:=slK_iff hT h
   obtain⟨⟨ti,hti,hs1,hby⟩,h⟩:=elemK_iff h
   have hlen:ys.length<=2147483648:=h.1
   obtain⟨i,z,hi,h2,h3,h4,h5,h6,h7⟩:=(hT _ _ hti).info
   have hsz:=szOf_eq hti
   obtain⟨v',w',hr,ho,hg,hb⟩:=run_append_ (P:=P) (w:=w) t ty e i z ti.size hu hi h4 h2 h6 hs1 (by rw[h3];exact hby) (base:=w0.heap.size) vx 0 [] (by rw[hx.nilS_];exact World.ownsRow_nil _ _ _ _) A ys.length c vals
    (fun h=>let ⟨p,q⟩:=hrd.nil h;⟨p,by rw[q];rfl⟩) (by rw[hrd.len,hsz]) hrd.cell hrd.rr.one (by omega) hS.mem.below.size
   rw[hx.nilS_] at hg hb
   have he:Ext w w':=⟨hg.os,hg.tape,hg.output,hg.size,fun k hk=>hg.block k hk (by simp[Value.ownBlock])⟩
   have hshape:∃ A' c',v' = .slice A' ys.length c':=by
    rcases ho.2 with⟨q,q2⟩|⟨g,cap,cur,q,_⟩
    . exact⟨none,0,by rw[q];congr 1;omega⟩
    . exact⟨_,cap,by rw[q,Nat.zero_add]⟩
   have hshape2:0<ys.length->∃ g' c',ys.length<=c'/\v' = .slice (some ⟨g',0,none⟩) ys.length c':=by
    intro h0
    rcases ho.2 with⟨q,q2⟩|⟨g,cap,cur,q,_,_,q3,_⟩
    . omega
    . exact⟨_,cap,by omega,by rw[q,Nat.zero_add]⟩
   obtain⟨A',c',hv'⟩:=hshape
   rw[Nat.zero_add,List.nil_append] at ho
   have hbl:∀ g,v'.ownBlock=some g->w.heap.size<=g:=by
    intro g hg'
    rcases hb with hb|⟨g2,h8,h9⟩
    . rw[hg'] at hb;simp[Value.ownBlock] at hb
    . rw[hg'] at h8;cases h8;exact h9
   obtain⟨_,zs,m,rfl,rfl,h⟩:=h
   obtain⟨d,s',ω',hk,hr',hS',hpre⟩:=newRow_sound hS he hv' (by rw[hsz];exact ho) hrd.rr hbl rfl h
   refine⟨d,v',s',ω',w',hk,hr',hS',?_,.ext (fun _ _ h=>h) (.refl _) hpre he⟩
   rw[hrd.val]
   exact hr
 . -- a nil slice told as such
   obtain⟨t1,h⟩:=h
   obtain⟨e,ys,A,c,vals,h,hrd⟩:=rowsOf_sound hS hy h
   obtain⟨hu,hz,_,h⟩:=slK_iff hT h
   obtain⟨⟨ti,hti,hs1,hby⟩,h⟩:=elemK_iff h
   have hlen:ys.length<=2147483648:=h.1
   obtain⟨i,z,hi,h2,h3,h4,h5,h6,h7⟩:=(hT _ _ hti).info
   have hsz:=szOf_eq hti
   obtain⟨v',w',hr,ho,hg,hb⟩:=run_append_ (P:=P) (w:=w) t ty e i z ti.size hu hi h4 h2 h6 hs1 (by rw[h3];exact hby) (base:=w0.heap.size) vx 0 [] (by rw[hx.rnl_];exact World.ownsRow_nil _ _ _ _) A ys.length c vals
    (fun h=>let ⟨p,q⟩:=hrd.nil h;⟨p,by rw[q];rfl⟩) (by rw[hrd.len,hsz]) hrd.cell hrd.rr.one (by omega) hS.mem.below.size
   rw[hx.rnl_] at hg hb
   have he:Ext w w':=⟨hg.os,hg.tape,hg.output,hg.size,fun k hk=>hg.block k hk (by simp[Value.ownBlock])⟩
   have hshape:∃ A' c',v' = .slice A' ys.length c':=by
    rcases ho.2 with⟨q,q2⟩|⟨g,cap,cur,q,_⟩
    . exact⟨none,0,by rw[q];congr 1;omega⟩
    . exact⟨_,cap,by rw[q,Nat.zero_add]⟩
   have hshape2:0<ys.length->∃ g' c',ys.length<=c'/\v' = .slice (some ⟨g',0,none⟩) ys.length c':=by
    intro h0
    rcases ho.2 with⟨q,q2⟩|⟨g,cap,cur,q,_,_,q3,_⟩
    . omega
    . exact⟨_,cap,by omega,by rw[q,Nat.zero_add]⟩
   obtain⟨A',c',hv'⟩:=hshape
   rw[Nat.zero_add,List.nil_append] at ho
   have hbl:∀ g,v'.ownBlock=some g->w.heap.size<=g:=by
    intro g hg'
    rcases hb with hb|⟨g2,h8,h9⟩
    . rw[hg'] at hb;simp[Value.ownBlock] at hb
    . rw[hg'] at h8;cases h8;exact h9
   obtain⟨_,h0,zs,m,rfl,rfl,h⟩:=h
   obtain⟨g',c',hc',rfl⟩:=hshape2 h0
   have h:=h g' c' hc'
   simp only[snocK_eq,natLit_eq] at h
   have hM:=hS.mem.newRow he (e:=e) (by rw[hsz];exact ho) hrd.rr hbl
   have hl:row.length=ω.length:=hS.mem.rl.symm
   refine⟨_,_,_,ω++[.slice (some ⟨g',0,none⟩) zs.length c'],w',h,.imm _ _ (.rsl _ _ _),⟨hS.tmps,hS.defers.ext he,fun t=>?_,hM⟩,?_,.ext (fun _ _ h=>h) (.refl _) (.append _ _) he⟩
   . show RS _ _ _ _ _ (look ((t1,_) :: env) t)
     unfold look
     split
     . exact .tie _ _ _ _ _ (by rw[hl,List.getElem?_append_right (Nat.le_refl _),Nat.sub_self];rfl)
     . exact (hS.env t).mono (.refl V) (.refl μ) (.append _ _)
   . rw[hrd.val]
     exact hr
 . -- a row grows
   rename_i r m _
   split at h
   case h_2=>exact h.elim
   rename_i e xs hrow
   obtain⟨hu,hz,_,h⟩:=slK_iff hT h
   obtain⟨⟨ti,hti,hs1,hby⟩,h⟩:=elemK_iff h
   rcases h with⟨hm,h10⟩|⟨hm,h10⟩
   . obtain⟨e',ys,A,c,vals,h11,hrd⟩:=rowsOf_sound hS hy h10
     obtain⟨hee,h12⟩:=eqN_iff h11
     subst hee
     obtain⟨hlen,zs,k,rfl,rfl,h13⟩:=h12
     simp only[subE_eq,subB_eq] at h13
     obtain⟨hrl,hfin⟩:=setK_iff _ _ _ _ h13
     clear h10 h11 h13
     obtain⟨i,z,hi,h2,h3,h4,h5,h6,h7⟩:=(hT _ _ hti).info
     have hsz:=szOf_eq hti
     obtain⟨Ax,N,cx,hω,hnN,rfl⟩:=hx.own_
     obtain⟨A2,c2,vx,e1,hc,hmx,hA,hA2,hown,hR⟩:=hS.mem.rowShape (hT _ _ hti).small hω hrow
     cases e1
     subst hm
     obtain⟨v',w',hr,ho,hg,hb⟩:=run_append_ (P:=P) (w:=w) t ty e i z ti.size hu hi h4 h2 h6 hs1 (by rw[h3];exact hby) (base:=w0.heap.size) _ xs.length vx (by rw[hsz] at hown;exact hown) A ys.length c vals
      (fun h=>let ⟨p,q⟩:=hrd.nil h;⟨p,by rw[q];rfl⟩) (by rw[hrd.len,hsz]) hrd.cell hrd.rr.one (by omega) hS.mem.below.size
     have hrlω:r<ω.length:=by rw[hS.mem.rl];exact hrl
     have hset:∀ q v,q ≠ r->ω[q]? = some v->(ω.set r v')[q]? = some v:=fun q v hq h=>by rw[List.getElem?_set_ne (Ne.symm hq)];exact h
     have hdead:∀ m v,RS (szOf T) V μ ω v (.own r m)->RS (szOf T) V μ (ω.set r v') v .u:=fun _ v _=>.imm _ _ (.u v)
     have hM:=hS.mem.setRow_ (e:=e) (ys:=xs++ys) hω hrow hg (by rw[List.length_append,hsz];exact ho) (hR.append hrd.rr hown.1) hb (box':=box.map fun c=>c.map (sub1F r fun _=>.u)) (by simp) (by
      intro i cs cs' h1 h2
      simp only[gMp0,Option.map_eq_some_iff] at h2
      obtain⟨c0,hc0,rfl⟩:=h2
      rw[h1] at hc0
      cases hc0
      refine⟨by simp,fun j u d d' e1 e2 hrs=>?_⟩
      simp only[gMp0,Option.map_eq_some_iff] at e2
      obtain⟨d0,hd0,rfl⟩:=e2
      rw[e1] at hd0
      cases hd0
      exact hrs.sub1 (.refl V) hset hdead) (fun i cs cs' h1 h2 t h=>by simp only[gMp0,h1,Option.map_some,Option.some.injEq] at h2;subst h2;exact bTy_sub (fun _=>rfl) h)
     have hshape:∃ A' c',v' = .slice A' (xs++ys).length c':=by
      rw[List.length_append]
      rcases ho.2 with⟨q,q2⟩|⟨g,cap,cur,q,_⟩
      . exact⟨none,0,by rw[q];congr 1;omega⟩
      . exact⟨_,cap,q⟩
     obtain⟨A',c',hv'⟩:=hshape
     refine⟨_,v',_,_,w',hfin,?_,⟨hS.tmps,hS.defers.ownGrown hS.mem hω hrow hg,fun t=>?_,hM⟩,?_,⟨fun _ _ h=>h,.refl _,fun q v hq _ h=>?_,fun q v hc hn=>hg.cell hc fun e=>hn ⟨_,hω,e.symm⟩⟩⟩
     . subst hv'
       exact .own r _ A' _ c' (List.getElem?_set_self hrlω) (Nat.le_refl _)
     . show RS _ _ _ _ _ (look (env.map fun x=>(x.1,subDF r (fun _=>.u) x.2)) t)
       rw[look_sub]
       exact (hS.env t).sub (.refl V) hset hdead
     . rw[hrd.val]
       exact hr
     . rw[List.getElem?_set_ne (fun e=>hq (by rw[e];rfl))];exact h
   . obtain⟨e',ys,A,c,vals,h11,hrd⟩:=rowsOf_sound hS hy h10
     obtain⟨hee,h12⟩:=eqN_iff h11
     subst hee
     obtain⟨y0,rfl,zs,k,rfl,rfl,h13⟩:=h12
     obtain⟨hrl,hfin⟩:=setK_iff _ _ _ _ h13
     clear h10 h11 h13
     obtain⟨i,z,hi,h2,h3,h4,h5,h6,h7⟩:=(hT _ _ hti).info
     have hsz:=szOf_eq hti
     obtain⟨Ax,N,cx,hω,hnN,rfl⟩:=hx.own_
     obtain⟨A2,c2,vx,e1,hc,hmx,hA,hA2,hown,hR⟩:=hS.mem.rowShape (hT _ _ hti).small hω hrow
     cases e1
     obtain⟨rw_,hrw⟩:∃ rw_,xs[m]? = some rw_:=⟨_,gEt0 hm⟩
     have hrwl:=hR.len m rw_ hrw
     have hy0:=hrd.rr.len 0 y0 rfl
     obtain⟨ad,rfl⟩:∃ ad,A=some ad:=by
      cases A with
      | some ad=>exact⟨ad,rfl⟩
      | none=>exact absurd (hrd.nil rfl).2 (by simp)
     obtain⟨g,hg⟩:∃ g,Ax=some ⟨g,0,none⟩:=by
      rcases hown.2 with⟨q,q2⟩|⟨g,cap,cur,q,_⟩
      . omega
      . cases q;exact⟨g,rfl⟩
     subst hg
     have hvl:vals.length=szOf T e:=by have:=hrd.len;simpa using this
     have hu0:AggI (szOf T) V vals y0:=⟨by rw[hvl,hy0],hrd.rr.one,fun j v d h1 h2=>by
      obtain⟨u,hu1,hu2⟩:=hrd.rr.rel 0 y0 j d rfl h2
      rw[Nat.zero_mul,Nat.zero_add,h1] at hu1
      cases hu1
      exact hu2⟩
     obtain⟨p,w',hp,hst,hS',hstep⟩:=store_op_sound (P:=P) (j:=m) (off:=0) hS (RS.op r e m 0 g _ _ hω) hu0 hrow hrw (by rw[hy0,hrwl];omega)
     cases hp
     have hset:setCells rw_ 0 y0=y0:=by
      apply setCells_all
      rw[hy0,hrwl]
     rw[hset] at hS'
     have hval:=hrd.val
     simp only[List.length_cons,List.length_nil,Nat.zero_add] at hval
     refine⟨_,.slice (some ⟨g,0,none⟩) (m+1) cx,_,ω,w',hfin,.own r _ _ _ _ hω (by omega),hS',?_,?_⟩
     . have hroom:m+1<=cx:=by omega
       have hfc:=run_firstCells_some (P:=P) w i.size 1 ad 1 c vals (by rw[hvl,hsz,<- h2];simp) (hrd.cell ad rfl)
       rw[hsz,<- h2,Nat.add_zero] at hst
       rw[hval]
       simp[Builtin.append_,run_underlying hu,sizeOf,typeInfo,hi,Builtin.lenOf,hroom,hfc,Addr.add_lit,hst]
     . exact hstep
 . -- a raw slice whose row is known
   rename_i g m c0
   obtain⟨t0,t1,r,ht,h⟩:=h
   split at h
   case h_2=>exact h.elim
   rename_i e xs hrow
   obtain⟨hu,hz,_,h⟩:=slK_iff hT h
   obtain⟨⟨ti,hti,hs1,hby⟩,h⟩:=elemK_iff h
   obtain⟨hm,h10⟩:=h
   obtain⟨e',ys,A,c,vals,h11,hrd⟩:=rowsOf_sound hS hy h10
   obtain⟨hee,h12⟩:=eqN_iff h11
   subst hee
   obtain⟨hlen,hy0,zs,k,rfl,rfl,hin,hmv⟩:=h12
   clear h10 h11
   obtain⟨i,z,hi,h2,h3,h4,h5,h6,h7⟩:=(hT _ _ hti).info
   have hsz:=szOf_eq hti
   have hv0:=hS.env t0
   dsimp only at hv0
   rw[ht] at hv0
   have hω:=hv0.tie_
   rw[hx.rsl_]
   obtain⟨A2,c2,vx,e1,hc,hmx,hA,hA2,hown,hR⟩:=hS.mem.rowShape (hT _ _ hti).small hω hrow
   injection e1 with e1 e2 e3
   subst e1 e3
   rw[<- hm] at hown
   obtain⟨ad,rfl⟩:∃ ad,A=some ad:=by
    cases A with
    | some ad=>exact⟨ad,rfl⟩
    | none=>exact absurd (hrd.nil rfl).2 (by intro h0;rw[h0] at hy0;simp at hy0)
   obtain⟨v',w',hr,ho,hcs⟩:=run_append_tie (P:=P) (w:=w) t ty e i z ti.size hu hi h4 h2 h6 hs1 (by rw[h3];exact hby) (base:=w0.heap.size) g c0 m vx (by rw[hsz] at hown;exact hown) ad ys.length c vals
    (by rw[hrd.len,hsz]) (hrd.cell ad rfl) hrd.rr.one (by omega) hS.mem.below.size
   rw[hrd.val]
   rcases hcs with⟨hroom,rfl,hg⟩|⟨hover,c',rfl,he⟩
   . have hin:=hin (by rw[List.length_append];omega)
     simp only[subE_eq,subB_eq] at hin
     obtain⟨hrl,hfin⟩:=setK_iff _ _ _ _ hin
     have hrlω:r<ω.length:=by rw[hS.mem.rl];exact hrl
     have hset:∀ q v,q ≠ r->ω[q]? = some v->(ω.set r (.slice (some ⟨g,0,none⟩) (m+ys.length) c0))[q]? = some v:=fun q v hq h=>by rw[List.getElem?_set_ne (Ne.symm hq)];exact h
     have hdead:∀ k v,RS (szOf T) V μ ω v (.own r k)->RS (szOf T) V μ (ω.set r (.slice (some ⟨g,0,none⟩) (m+ys.length) c0)) v .u:=fun _ v _=>.imm _ _ (.u v)
     have hM:=hS.mem.setRow_ (e:=e) (ys:=xs++ys) hω hrow hg (by rw[List.length_append,hsz,<- hm];exact ho) (hR.append hrd.rr (by rw[<- hm];exact hown.1)) (v':=.slice (some ⟨g,0,none⟩) (m+ys.length) c0) (.inl rfl) (box':=box.map fun c=>c.map (sub1F r fun _=>.u)) (by simp) (by
      intro i cs cs' h1 h2
      simp only[gMp0,Option.map_eq_some_iff] at h2
      obtain⟨c0,hc0,rfl⟩:=h2
      rw[h1] at hc0
      cases hc0
      refine⟨by simp,fun j u d d' e1 e2 hrs=>?_⟩
      simp only[gMp0,Option.map_eq_some_iff] at e2
      obtain⟨d0,hd0,rfl⟩:=e2
      rw[e1] at hd0
      cases hd0
      exact hrs.sub1 (.refl V) hset hdead) (fun i cs cs' h1 h2 t h=>by simp only[gMp0,h1,Option.map_some,Option.some.injEq] at h2;subst h2;exact bTy_sub (fun _=>rfl) h)
     have hk:(xs++ys).length=m+ys.length:=by rw[List.length_append,hm]
     rw[hk] at hfin
     refine⟨_,_,_,_,w',hfin,.imm _ _ (.rsl _ _ _),⟨hS.tmps,hS.defers.ownGrown hS.mem hω hrow hg,fun t=>?_,hM⟩,hr,⟨fun _ _ h=>h,.refl _,fun q v _ hq _=>absurd rfl hq,fun q v hc hn=>absurd trivial hn⟩⟩
     . show RS _ _ _ _ _ (look ((t0,_) :: env.map fun x=>(x.1,subDF r (fun _=>.u) x.2)) t)
       unfold look
       split
       . exact .tie _ _ _ _ _ (List.getElem?_set_self hrlω)
       . rw[look_sub]
         exact (hS.env t).sub (.refl V) hset hdead
   . have hmv:=hmv (by rw[List.length_append];omega)
     have hk:(xs++ys).length=m+ys.length:=by rw[List.length_append,hm]
     have hcap:m+ys.length<=c':=by
      rcases ho.2 with⟨q,_⟩|⟨g2,cap,cur,q,_,_,q2,_⟩
      . cases q
      . cases q;exact q2
     obtain⟨q,hq,hmv⟩:=hmv
     have hmv:=hmv w.heap.size c' (by rw[hk];exact hcap)
     obtain⟨s',ω',hk',hS',hpre⟩:=takeRow_sound (xs:=xs++ys) (g':=w.heap.size) (c':=c') hS he hq (by rw[List.length_append,hsz,<- hm];exact ho) (hR.append hrd.rr (by rw[<- hm];exact hown.1)) (Nat.le_refl _) hmv
     rw[hk] at hk'
     refine⟨_,_,s',ω',w',hk',.imm _ _ (.rsl _ _ _),hS',hr,⟨fun _ _ h=>h,.refl _,fun q v _ hq _=>absurd rfl hq,fun q v hc hn=>absurd trivial hn⟩⟩
 . exact h.elim
theorem u8K_iff{e:TypeId}{p:Prop}(hT:TOk P T)(h:u8K T e p):P.underlying e=some (.int .u8)/\szOf T e=1/\p:=by
 unfold u8K at h
 split at h
 . rename_i h1
   exact⟨(hT _ _ h1).kind,szOf_eq h1,h⟩
 . exact h.elim
theorem elemM_of{e:TypeId}{p:Prop}(h:elemM T e p):p:=by
 unfold elemM at h
 split at h
 . exact (elemK_iff h).2
 . split at h
   . exact h
   . exact h.elim
theorem nonK_iff{e:TypeId}{p:Prop}(h:nonK T e p):T e=none/\p:=by
 unfold nonK at h
 split at h
 . exact⟨by assumption,h⟩
 . exact h.elim
theorem bytes_ri(V:Vw)(l:List UInt8){sz:TypeId->Nat}{e:TypeId}(hs:sz e=1):RowR sz V e (Lib.strCells (bstr l)) (l.map bcell):=by
 refine⟨Lib.strCells_oneCell _,fun i rw_ h=>?_,fun i rw_ j d h1 h2=>?_⟩
 . simp only[gMp0,Option.map_eq_some_iff] at h
   obtain⟨b,_,rfl⟩:=h
   rw[hs];rfl
 . simp only[gMp0,Option.map_eq_some_iff] at h1
   obtain⟨b,hb,rfl⟩:=h1
   cases j with
   | succ j=>simp[bcell] at h2
   | zero=>
    simp only[bcell,List.getElem?_cons_zero,Option.some.injEq] at h2
    subst h2
    refine⟨.int .u8 b.toNat,?_,.i _ _⟩
    rw[hs]
    simp[Lib.strCells,bstr,hb]
theorem copK_sound(hT:TOk P T)(hS:Sim (szOf T) w0 V0 V μ ω s a w){t u ty:TypeId}{x y:D}{vx vy:Value}{K:D->St->Prop}(hx:RS (szOf T) V μ ω vx x)(hy:RS (szOf T) V μ ω vy y)(h:copK T s t x y K) :
    ∃ d v s' w',K d s'/\RS (szOf T) V μ ω v d/\Sim (szOf T) w0 V0 V μ ω s' a w'/\(Builtin.copy_ #[t,u] ty #[vx,vy]).run P w = .ok v w'/\Step (effA x) V μ ω w V μ ω w':=by
 obtain⟨env,box,row,n⟩:=s
 unfold copK at h
 dsimp only at h
 split at h
 case h_2=>exact h.elim
 rename_i r e lo m l
 split at h
 case h_2=>exact h.elim
 rename_i e0 xs hrow
 obtain⟨he,h20⟩:=eqN_iff h
 subst he
 obtain⟨e',hu,hz,h21⟩:=slM_iff hT h20
 obtain⟨hs1,hlm,xs',rfl,k,rfl,h22⟩:=s1K_iff h21
 obtain⟨_,hk⟩:=setK_iff _ _ _ _ h22
 obtain⟨g,N,c,c',hω,hn,rfl⟩:=hx.osl_
 rw[hy.str_]
 obtain⟨A2,c2,vals,e1,_⟩:=hS.mem.rowShapeR hω hrow
 cases e1
 have hag:AggI (szOf T) V (l.map fun b=>Value.int IntKind.u8 (b.toNat:Int)) (l.map fun b=>D.i .u8 (b.toNat:Int)):=by
  refine⟨by simp,fun v hv=>?_,fun j v d h1 h2=>?_⟩
  . obtain⟨b,_,rfl⟩:=List.mem_map.1 hv
    rfl
  . simp only[gMp0,Option.map_eq_some_iff] at h1 h2
    obtain⟨b,hb,rfl⟩:=h1
    obtain⟨b',hb',rfl⟩:=h2
    rw[hb] at hb'
    cases hb'
    exact .i _ _
 obtain⟨w',hst,hS',hstep⟩:=store_span_sound (P:=P) (lo:=lo) hs1 hω _ _ 0 hS hag hrow (by rw[lMp0];omega)
 rw[List.map_map,lMp0,Nat.add_zero] at hS'
 refine⟨_,goInt l.length,_,w',hk,.imm _ _ (.i _ _),hS',?_,hstep⟩
 have hmin:Nat.min (bstr l).size m=l.length:=by rw[bstr_size];exact Nat.min_eq_left hlm
 have htk:List.take l.length (List.map (fun b:UInt8=>Value.int IntKind.u8 (b.toNat:Int)) l)=List.map (fun b:UInt8=>Value.int IntKind.u8 (b.toNat:Int)) l:=tkL0 (by simp)
 rw[hs1]
 simp[Builtin.copy_,run_under hu,Builtin.lenOf,Builtin.firstCells,hz,hs1,bstr]
 rw[show ({ data:=l.toArray }:ByteArray).size.min m=l.length from hmin,htk,hst]
 rfl
theorem appS_sound(hT:TOk P T)(hS:Sim (szOf T) w0 V0 V μ ω s a w){t u ty:TypeId}(hus:P.underlying u=some .string){x y:D}{vx vy:Value}{K:D->St->Prop}(hx:RS (szOf T) V μ ω vx x)(hy:RS (szOf T) V μ ω vy y)(h:appS P T s t x y K) :
    ∃ d v s' ω' w',K d s'/\RS (szOf T) V μ ω' v d/\Sim (szOf T) w0 V0 V μ ω' s' a w'/\(Builtin.append_ #[t,u] ty #[vx,vy]).run P w = .ok v w'/\Step (effA x) V μ ω w V μ ω' w':=by
 obtain⟨env,box,row,n⟩:=s
 unfold appS at h
 dsimp only at h
 split at h
 case h_2=>exact h.elim
 rename_i r m l
 split at h
 case h_2=>exact h.elim
 rename_i e xs hrow
 obtain⟨hu,hz,⟨ti,hti⟩,h⟩:=slK_iff hT h
 obtain⟨he8,_,hB,hm,hlen,zs,k,rfl,rfl,h13⟩:=u8K_iff hT h
 simp only[subE_eq,subB_eq] at h13
 obtain⟨hrl,hfin⟩:=setK_iff _ _ _ _ h13
 clear h h13
 obtain⟨i,z,hi,h2,h3,h4,h5,h6,h7⟩:=(hT _ _ hti).info
 unfold ByteT at hB
 rw[hi] at hB
 simp only[Option.map_some,Option.some.injEq,Prod.mk.injEq] at hB
 obtain⟨hB1,hB2,hB3⟩:=hB
 have hsz:=szOf_eq hti
 have hsz1:szOf T e=1:=by rw[hsz,<- h2,hB2]
 obtain⟨Ax,N,cx,hω,hnN,rfl⟩:=hx.own_
 obtain⟨A2,c2,vx,e1,hc,hmx,hA,hA2,hown,hR⟩:=hS.mem.rowShape (hT _ _ hti).small hω hrow
 cases e1
 subst hm
 rw[hy.str_]
 obtain⟨v',w',hr,ho,hg,hb⟩:=run_append_str (P:=P) (w:=w) t u ty e i hu hus hi hB1 hB2 hB3 (base:=w0.heap.size) _ xs.length vx (by rw[hsz1] at hown;exact hown) (bstr l) (by rw[bstr_size];exact hlen) hS.mem.below.size
 rw[bstr_size] at ho
 have hrlω:r<ω.length:=by rw[hS.mem.rl];exact hrl
 have hset:∀ q v,q ≠ r->ω[q]? = some v->(ω.set r v')[q]? = some v:=fun q v hq h=>by rw[List.getElem?_set_ne (Ne.symm hq)];exact h
 have hdead:∀ m v,RS (szOf T) V μ ω v (.own r m)->RS (szOf T) V μ (ω.set r v') v .u:=fun _ v _=>.imm _ _ (.u v)
 have hM:=hS.mem.setRow_ (e:=e) (ys:=xs++l.map bcell) hω hrow hg (by rw[List.length_append,lMp0,hsz1];exact ho) (hR.append (bytes_ri V l hsz1) hown.1) hb (box':=box.map fun c=>c.map (sub1F r fun _=>.u)) (by simp) (by
  intro i cs cs' h1 h2
  simp only[gMp0,Option.map_eq_some_iff] at h2
  obtain⟨c0,hc0,rfl⟩:=h2
  rw[h1] at hc0
  cases hc0
  refine⟨by simp,fun j u d d' e1 e2 hrs=>?_⟩
  simp only[gMp0,Option.map_eq_some_iff] at e2
  obtain⟨d0,hd0,rfl⟩:=e2
  rw[e1] at hd0
  cases hd0
  exact hrs.sub1 (.refl V) hset hdead) (fun i cs cs' h1 h2 t h=>by simp only[gMp0,h1,Option.map_some,Option.some.injEq] at h2;subst h2;exact bTy_sub (fun _=>rfl) h)
 have hshape:∃ A' c',v' = .slice A' (xs++l.map bcell).length c':=by
  rw[List.length_append,lMp0]
  rcases ho.2 with⟨q,q2⟩|⟨g,cap,cur,q,_⟩
  . exact⟨none,0,by rw[q];congr 1;omega⟩
  . exact⟨_,cap,q⟩
 obtain⟨A',c',hv'⟩:=hshape
 refine⟨_,v',_,_,w',hfin,?_,⟨hS.tmps,hS.defers.ownGrown hS.mem hω hrow hg,fun t=>?_,hM⟩,hr,⟨fun _ _ h=>h,.refl _,fun q v hq _ h=>?_,fun q v hc hn=>hg.cell hc fun e=>hn ⟨_,hω,e.symm⟩⟩⟩
 . subst hv'
   exact .own r _ A' _ c' (List.getElem?_set_self hrlω) (Nat.le_refl _)
 . show RS _ _ _ _ _ (look (env.map fun x=>(x.1,subDF r (fun _=>.u) x.2)) t)
   rw[look_sub]
   exact (hS.env t).sub (.refl V) hset hdead
 . rw[List.getElem?_set_ne (fun e=>hq (by rw[e];rfl))];exact h
theorem convS_sound(hS:Sim (szOf T) w0 V0 V μ ω s a w){t1 t2 e:TypeId}(hu:P.underlying t1=some (.slice e))(hd:P.underlying t2=some .string)(he8:P.underlying e=some (.int .u8)){v:Value}{r m:Nat}
    {xs:List (List D)}{l:List UInt8}{e':TypeId}(h1:szOf T e'=1)(hv:RS (szOf T) V μ ω v (.own r m))(hr:s.row[r]? = some (some (e',xs)))(hm:m<=xs.length)(hl:xs.take m=l.map bcell):(convert t1 t2 v).run P w = .ok (.string (bstr l)) w:=by
 obtain⟨A,N,c,hω,hn,rfl⟩:=hv.own_
 obtain⟨A2,c2,vals,e1,hc,hmx,hA,hA2,hown,hR⟩:=hS.mem.rowShapeR hω hr
 cases e1
 rw[run_convert_bytes_string w t1 t2 e A m c hu he8 hd]
 have hml:m=l.length:=by have:=congrArg List.length hl;rw[List.length_take,lMp0] at this;omega
 cases A with
 | none=>
  obtain⟨_,rfl⟩:=hA rfl
  have:m=0:=by simpa using hm
  subst this
  have:l=[]:=List.eq_nil_of_length_eq_zero hml.symm
  subst this
  rfl
 | some ad=>
  obtain⟨h2,h3⟩:=hA2 ad rfl
  obtain⟨b,o,sp⟩:=ad
  dsimp only at h2 h3
  subst h2 h3
  have hval:∀ (j:Nat) c,l[j]? = some c->vals[j]? = some (.int .u8 c.toNat):=by
   intro j c hj
   have hx:xs[j]? = some (bcell c):=by
    have:=congrArg (fun q=>q[j]?) hl
    simp only[gMp0,hj,Option.map_some] at this
    rw[List.getElem?_take] at this
    split at this
    . exact this
    . cases this
   obtain⟨u,hu1,hu2⟩:=hR.rel j (bcell c) 0 _ hx rfl
   rw[h1,Nat.mul_one,Nat.add_zero] at hu1
   rw[hu1]
   cases hu2
   rfl
  subst hml
  rw[<- run_convert_bytes_string w t1 t2 e (some ⟨b,0,none⟩) l.length c hu he8 hd]
  refine run_convert_bytes_back w t1 t2 e ⟨b,0,none⟩ c l hu he8 hd fun j hj=>?_
  have:=hown.cells (g:=b) rfl j _ (hval j _ (gEt0 hj))
  exact this
def shift1F(k:Nat):D->D|.own r m=>.own (r+k) m|d=>d
theorem shift1_iff{k:Nat}{d:D}{K:D->Prop}(h:shift1 k d K):K (shift1F k d)/\(∀ r e j o,d ≠ .op r e j o)/\(∀ i o,d ≠ .bp i o)/\(∀ cs,d ≠ .agg cs)/\(∀ cs,d ≠ .tup cs)/\(∀ f x y,d ≠ .fnh f x y)/\(∀ r e a m,d ≠ .osl r e a m)/\∀ r g n c,d ≠ .tie r g n c:=by
 cases d<;>simp only[shift1,natLit_eq,D.force_eq] at h<;>first|exact h.elim|exact⟨h,by simp,by simp,by simp,by simp,by simp,by simp,by simp⟩
theorem RS.shift1{sz:TypeId->Nat}{V':Vw}{ω0 ω':List Value}{v:Value}{d:D}(hV:VLe V V')(hω:∀ (r:Nat) u,ω0[r]? = some u->ω'[r+ω.length]? = some u)(h:RS sz V [] ω0 v d)
    (hn:(∀ r e j o,d ≠ .op r e j o)/\(∀ i o,d ≠ .bp i o)/\(∀ cs,d ≠ .agg cs)/\(∀ cs,d ≠ .tup cs)/\(∀ f x y,d ≠ .fnh f x y)/\(∀ r e a m,d ≠ .osl r e a m)/\∀ r g n c,d ≠ .tie r g n c):RS sz V' μ ω' v (shift1F ω.length d):=by
 cases h with
 | imm _ _ hi=>
  have:shift1F ω.length d=d:=by cases d<;>first|rfl|cases hi
  rw[this]
  exact .imm _ _ (hi.mono hV)
 | own r m A N c hq hm=>exact .own _ m A N c (hω r _ hq) hm
 | op r e j o=>exact absurd rfl (hn.1 _ _ _ _)
 | bp i o=>exact absurd rfl (hn.2.1 _ _)
 | agg cs=>exact absurd rfl (hn.2.2.1 _)
 | tup cs=>exact absurd rfl (hn.2.2.2.1 _)
 | fnh=>exact absurd rfl (hn.2.2.2.2.1 _ _ _)
 | osl=>exact absurd rfl (hn.2.2.2.2.2.1 _ _ _ _)
 | tie=>exact absurd rfl (hn.2.2.2.2.2.2 _ _ _ _)
theorem shiftL_iff{k:Nat}:∀ {l:List D} {K:List D->Prop},shiftL k l K->K (l.map (shift1F k))/\∀ d ∈ l,(∀ r e j o,d ≠ .op r e j o)/\(∀ i o,d ≠ .bp i o)/\(∀ cs,d ≠ .agg cs)/\(∀ cs,d ≠ .tup cs)/\(∀ f x y,d ≠ .fnh f x y)/\(∀ r e a m,d ≠ .osl r e a m)/\∀ r g n c,d ≠ .tie r g n c
 | [],K,h=>⟨h,by simp⟩
 | d :: l,K,h=>by
  simp only[shiftL] at h
  obtain⟨h1,h2⟩:=shift1_iff h
  obtain⟨h3,h4⟩:=shiftL_iff h1
  refine⟨h3,fun x hx=>?_⟩
  rcases List.mem_cons.1 hx with rfl|hx
  . exact h2
  . exact h4 x hx
theorem shift2_sound{sz:TypeId->Nat}{V':Vw}{ω0 ω':List Value}{v:Value}{d:D}{K:D->Prop}(hV:VLe V V')(hω:∀ (r:Nat) u,ω0[r]? = some u->ω'[r+ω.length]? = some u)(hr:RS sz V [] ω0 v d)
    (h:shift2 ω.length d K):∃ d',K d'/\RS sz V' μ ω' v d':=by
 unfold shift2 at h
 split at h
 . obtain⟨h1,h2⟩:=shiftL_iff h
   obtain⟨vs,rfl,hs,ho,hR⟩:=hr.agg_
   refine⟨_,h1,.agg _ vs (by simpa using hs) ho fun j v d e1 e2=>?_⟩
   simp only[gMp0,Option.map_eq_some_iff] at e2
   obtain⟨d0,hd0,rfl⟩:=e2
   exact (hR j v d0 e1 hd0).shift1 hV hω (h2 d0 (mOf0 hd0))
 . obtain⟨h1,h2⟩:=shift1_iff h
   exact⟨_,h1,hr.shift1 hV hω h2⟩
theorem shiftT_sound{sz:TypeId->Nat}{V':Vw}{ω0 ω':List Value}(hV:VLe V V')(hω:∀ (r:Nat) u,ω0[r]? = some u->ω'[r+ω.length]? = some u):∀ (ds:List D) (vs:List Value) (K:List D->Prop),vs.length=ds.length ->
    (∀ (j:Nat) v d,vs[j]? = some v->ds[j]? = some d->RS sz V [] ω0 v d)->shiftT ω.length ds K->∃ es,K es/\es.length=ds.length/\∀ (j:Nat) v d,vs[j]? = some v->es[j]? = some d->RS sz V' μ ω' v d
 | [],vs,K,hl,hR,h=>⟨[],h,rfl,by simp⟩
 | d :: ds,[],K,hl,hR,h=>by simp at hl
 | d :: ds,v :: vs,K,hl,hR,h=>by
  simp only[shiftT] at h
  obtain⟨d',h1,hr⟩:=shift2_sound (μ:=μ) hV hω (hR 0 v d rfl rfl) h
  obtain⟨es,h2,h3,h4⟩:=shiftT_sound hV hω ds vs _ (by simpa using hl) (fun j v d e1 e2=>hR (j+1) v d (by simpa using e1) (by simpa using e2)) h1
  refine⟨d' :: es,h2,by simp[h3],fun j u x e1 e2=>?_⟩
  cases j with
  | zero=>simp at e1 e2;subst e1 e2;exact hr
  | succ j=>exact h4 j u x (by simpa using e1) (by simpa using e2)
theorem shiftD_sound{sz:TypeId->Nat}{V':Vw}{ω0 ω':List Value}{v:Value}{d:D}{K:D->Prop}(hV:VLe V V')(hω:∀ (r:Nat) u,ω0[r]? = some u->ω'[r+ω.length]? = some u)(hr:RS sz V [] ω0 v d)
    (h:shiftD ω.length d K):∃ d',K d'/\RS sz V' μ ω' v d':=by
 unfold shiftD at h
 split at h
 . obtain⟨vs,rfl,hs,hR⟩:=hr.tup_
   obtain⟨es,h1,h2,h3⟩:=shiftT_sound (μ:=μ) hV hω _ vs.toList _ (by simpa using hs) (fun j v d e1 e2=>hR j v d (by simpa using e1) e2) h
   exact⟨_,h1,.tup _ vs (by rw[hs,h2]) fun j v d e1 e2=>h3 j v d (by simpa using e1) e2⟩
 . exact shift2_sound hV hω hr h
theorem expoN_sound{t:TypeId}{d:D}{v:Value}{K:D->Prop}(hv:RS (szOf T) V μ ω v d)(h:expoN T t d K):∃ d',K d'/\RI (szOf T) V v d':=by
 unfold expoN at h
 split at h
 . obtain⟨vs,rfl,hs,ho,hR⟩:=hv.agg_
   obtain⟨ds,hk,hds⟩:=normL_sound _ 0 vs.toList _ (by simpa using hs) ho (fun j v d h1 h2=>hR j v d (by simpa using h1) h2) h
   exact⟨_,hk,.agg _ _ (by rw[<- hds.size];simp) ho fun j v d h1 h2=>hds.rel j v d (by simpa using h1) h2⟩
 . exact norm1_sound hv h
theorem exposN_sound:∀ (ts:List TypeId) (ds:List D) (vs:List Value) (K:List D->Prop),Vals (szOf T) V μ ω vs ds->exposN T ts ds K ->
    ∃ es,K es/\es.length=ds.length/\∀ (j:Nat) v d,vs[j]? = some v->es[j]? = some d->RI (szOf T) V v d
 | [],[],vs,K,hv,h=>⟨[],h,rfl,fun j v d _ hd=>by simp at hd⟩
 | t :: ts,[],vs,K,hv,h=>h.elim
 | [],d :: ds,vs,K,hv,h=>h.elim
 | t :: ts,d :: ds,[],K,hv,h=>by have:=hv.1;simp at this
 | t :: ts,d :: ds,v :: vs,K,hv,h=>by
  simp only[exposN] at h
  obtain⟨d',h,hd⟩:=expoN_sound (hv.2 0 v d rfl rfl) h
  obtain⟨es,h,hes,hr⟩:=exposN_sound ts ds vs _ ⟨by simpa using hv.1,fun j v d h1 h2=>hv.2 (j+1) v d (by simpa using h1) (by simpa using h2)⟩ h
  refine⟨d' :: es,h,by simp[hes],fun j v' e' h1 h2=>?_⟩
  cases j with
  | zero=>simp at h1 h2;subst h1 h2;exact hd
  | succ j=>exact hr j v' e' (by simpa using h1) (by simpa using h2)
theorem Mem.call(h:Mem (szOf T) w0 V0 V μ ω box row w){V':Vw}{ω0:List Value}{row0:Rows}(hres:Res (szOf T) V V' ω0 row0 w w') :
    Mem (szOf T) w0 V0 V' μ (ω++ω0) box (row++row0) w':=by
 have he:Ext w w':=hres.below
 have h':=h.ext he
 have hpre:Pre ω (ω++ω0):=.append _ _
 have own:∀ l g,Own μ (ω++ω0) (row++row0) l g->Own μ ω row l g\/∃ (r:Nat) (v:Value) (x:TypeId × List (List D)),l = .inr (r+ω.length)/\ω0[r]? = some v/\row0[r]? = some (some x)/\v.ownBlock=some g:=by
  intro l g hl
  cases l with
  | inl i=>exact .inl hl
  | inr q=>
   obtain⟨u,y,h1,h2,h3⟩:=hl
   rcases Nat.lt_or_ge q ω.length with hq|hq
   . rw[List.getElem?_append_left hq] at h1
     rw[List.getElem?_append_left (by rw[<- h.rl];exact hq)] at h2
     exact .inl ⟨u,y,h1,h2,h3⟩
   . rw[List.getElem?_append_right hq] at h1
     rw[List.getElem?_append_right (by rw[<- h.rl];exact hq),<- h.rl] at h2
     exact .inr ⟨q - ω.length,u,y,by congr 1;omega,h1,h2,h3⟩
 have newer:∀ (r:Nat) v (x:TypeId × List (List D)) g,ω0[r]? = some v->row0[r]? = some (some x)->v.ownBlock=some g->w.heap.size<=g/\g<w'.heap.size:=by
  rintro r v ⟨e,xs⟩ g h1 h2 h3
  obtain⟨vals,hown,_⟩:=hres.rows r v e xs h1 h2
  exact hown.lt g h3
 refine⟨h'.below,hres.vok,fun p u hp=>hres.le _ _ (h.vle p u hp),fun p hp=>?_,h.bl,?_,by simp[h.rl,hres.rl],?_,?_,?_,?_,fun x hx=>?away⟩
 case away=>
  obtain⟨a,b,c,d,e1⟩:=h'.away x hx
  have hlt:=(Array.getElem?_eq_some_iff.1 (h.away x hx).1).1
  refine⟨a,b,fun l hl=>?_,fun p u hp hb=>?_,e1⟩
  . rcases own l _ hl with hl|⟨r,v,y,rfl,e2,e3,e4⟩
    . exact c l hl
    . have:=(newer r v y _ e2 e3 e4).1;omega
  . rw[hres.vold p (by rw[hb];exact hlt)] at hp
    exact d p u hp hb
 . rw[hres.vold p (Nat.lt_of_lt_of_le hp h.below.size)]
   exact h.vold p hp
 . intro i g cs h1 h2
   obtain⟨us,t',a,b,c',d,ty⟩:=h'.hbox i g cs h1 h2
   exact⟨us,t',a,b,c',fun j v d' e f=>(d j v d' e f).mono hres.le (.refl μ) hpre,ty⟩
 . intro q u e ys h1 h2
   rcases Nat.lt_or_ge q ω.length with hq|hq
   . rw[List.getElem?_append_left hq] at h1
     rw[List.getElem?_append_left (by rw[<- h.rl];exact hq)] at h2
     obtain⟨vals,a,b,c',d⟩:=h'.hrow q u e ys h1 h2
     exact⟨vals,a,b,c',fun i rw_ j d' e1 e2=>let ⟨x,y,z⟩:=d i rw_ j d' e1 e2;⟨x,y,z.mono hres.le⟩⟩
   . rw[List.getElem?_append_right hq] at h1
     rw[List.getElem?_append_right (by rw[<- h.rl];exact hq),<- h.rl] at h2
     obtain⟨vals,a,b⟩:=hres.rows _ u e ys h1 h2
     exact⟨vals,ownsRow_base a h.below.size,b⟩
 . intro l l' g h1 h2
   rcases own l g h1 with h3|⟨r,v,x,rfl,e2,e3,e4⟩<;>rcases own l' g h2 with h5|⟨r',v',x',rfl,f2,f3,f4⟩
   . exact h.uniq l l' g h3 h5
   . have:=(h.new _ _ h3).2;have:=(newer r' v' x' g f2 f3 f4).1;omega
   . have:=(h.new _ _ h5).2;have:=(newer r v x g e2 e3 e4).1;omega
   . rw[hres.uniq r r' v v' x x' g e2 e3 f2 f3 e4 f4]
 . intro l g h1
   rcases own l g h1 with h3|⟨r,v,x,rfl,e2,e3,e4⟩
   . exact h'.new l g h3
   . obtain⟨a,b⟩:=newer r v x g e2 e3 e4
     exact⟨Nat.le_trans h.below.size a,b⟩
 . intro p u l hp h1
   rcases own l _ h1 with h3|⟨r,v,x,rfl,e2,e3,e4⟩
   . rw[hres.vold p (h.new _ _ h3).2] at hp
     exact h.vmut p u l hp h3
   . exact hres.vmut p u r v x hp e2 e3 e4
theorem run_buildSlice{t e:TypeId}{z:Value}{size len:Nat}(hu:P.underlying t=some (.slice e))(hzs:(sizeOf e).run P w = .ok size w)(hz:(zeroValue e).run P w = .ok z w)(hb:len*size<=16777216)
    {parts:Array (Nat × Value)}{us:Array Value}
    (hf:Instr.fill (fun i=>some (i*size,size)) ((Array.range (len*size)).map (fun k=>(if len*size=0 then #[] else z.cells)[k % (if len*size=0 then #[] else z.cells).size]!)) parts.toList=some us) :
    (Instr.buildSlice t len parts).run P w = .ok (.slice (some ⟨w.heap.size,0,none⟩) len len) (w.alloc (.cells us e)):=by
 have hnb:¬ len*size > 2 ^ 24:=by omega
 have hnb':¬ 16777216<len*size:=by omega
 by_cases h0:len*size=0
 . rw[if_pos h0] at hf
   simp only[Instr.buildSlice,Sem.run_bind,run_under hu,Result.andThen_ok,hzs,if_neg hnb,if_pos h0,Sem.run_pure,hf,newRow,run_newObj]
   rfl
 . rw[if_neg h0] at hf
   simp only[Instr.buildSlice,Sem.run_bind,run_under hu,Result.andThen_ok,hzs,if_neg hnb,if_neg h0,Sem.run_pure,hz,hf,newRow,run_newObj]
   rfl
def resOp(tmps:Array Value):ResultVar->Sem Value
 | .tmp t=>pure (tmps.getD t undef)
 | .cell a t=>do loadVar t (<- asAddr (tmps.getD a undef))
theorem results_eq(fn:Func)(tmps:Array Value):results fn tmps=(do
    let vs <- fn.results.mapM (resOp tmps)
    pure (if h:vs.size=1 then vs[0] else .tuple vs)):=rfl
theorem resK_sound(hT:TOk P T)(hS:Sim (szOf T) w0 V0 V μ ω s a w):∀ (rs:List ResultVar) (K:List D->Prop),resK T s rs K ->
    ∃ vs ds,K ds/\Vals (szOf T) V μ ω vs ds/\(rs.mapM (resOp a.tmps)).run P w = .ok vs w
 | [],K,h=>⟨[],[],h,⟨rfl,by simp⟩,by simp⟩
 | .tmp t :: rs,K,h=>by
  simp only[resK,D.force_eq] at h
  obtain⟨vs,ds,hk,hv,hr⟩:=resK_sound hT hS rs _ h
  refine⟨a.tmps.getD t undef :: vs,_,hk,⟨by simp[hv.1],fun j v d h1 h2=>?_⟩,by simp only[List.mapM_cons,resOp,Sem.run_bind,Sem.run_pure,Result.andThen_ok,hr]⟩
  cases j with
  | zero=>simp only[List.getElem?_cons_zero,Option.some.injEq] at h1 h2;subst h1 h2;exact hS.get (.tmp t)
  | succ j=>exact hv.2 j v d (by simpa using h1) (by simpa using h2)
 | .cell p t :: rs,K,h=>by
  simp only[resK] at h
  obtain⟨ad,_,d,u,hp,hk,hr,_,hl⟩:=ptrK_sound hT hS.mem (hS.get (.tmp p)) h
  obtain⟨vs,ds,hk,hv,hrs⟩:=resK_sound hT hS rs _ hk
  refine⟨u :: vs,_,hk,⟨by simp[hv.1],fun j v d h1 h2=>?_⟩,?_⟩
  . cases j with
    | zero=>simp only[List.getElem?_cons_zero,Option.some.injEq] at h1 h2;subst h1 h2;exact hr
    | succ j=>exact hv.2 j v d (by simpa using h1) (by simpa using h2)
  . rw[show a.eval (.tmp p)=a.tmps.getD p undef from rfl] at hp
    simp only[List.mapM_cons,resOp,Sem.run_bind,hp,asAddr,Sem.run_pure,Result.andThen_ok,hl w ((Ext.refl w).keepN _ _),hrs]
theorem oneD_rel{sz:TypeId->Nat}{vs:List Value}{ds:List D}(h:Vals sz V μ ω vs ds):RS sz V μ ω (if h:vs.toArray.size=1 then vs.toArray[0] else .tuple vs.toArray) (oneD ds):=by
 obtain⟨hl,hR⟩:=h
 match vs,ds,hl with
 | [v],[d],_=>simpa[oneD] using hR 0 v d rfl rfl
 | [],[],_=>exact .tup _ _ (by simp) (by simp)
 | v :: v' :: vs,d :: d' :: ds,hl=>
  rw[dif_neg (by simp)]
  exact .tup _ _ (by simpa using hl) fun j v d h1 h2=>hR j v d (by simpa using h1) h2
theorem look_envOf:∀ (ds:List D) (k t:Nat),look (envOf k ds) t=if k<=t then ds.getD (t - k) .u else .u
 | [],k,t=>by simp[envOf,look]
 | d :: ds,k,t=>by
  simp only[envOf,look]
  split
  . rename_i h
    have:=beq_nat_true h
    subst this
    simp
  . rename_i h
    have hne:k ≠ t:=by rintro rfl;rw[Nat.beq_refl] at h;cases h
    rw[look_envOf ds (k+1) t]
    by_cases hk:k+1<=t
    . rw[if_pos hk,if_pos (by omega),show t - k=(t - (k+1))+1 by omega]
      simp
    . rw[if_neg hk,if_neg (by omega)]
theorem look_shift(k:Nat)(env:List (Nat × D))(t:Nat):look (env.map fun x=>(x.1+k,x.2)) (t+k)=look env t:=by
 induction env with
 | nil=>rfl
 | cons x env ih=>
  obtain⟨q,d⟩:=x
  have hb:Nat.beq (q+k) (t+k)=Nat.beq q t:=by
   by_cases h:q=t
   . subst h;simp[Nat.beq_refl]
   . have h1:Nat.beq q t=false:=by
       cases hq:Nat.beq q t with
       | false=>rfl
       | true=>exact absurd (beq_nat_true hq) h
     have h2:Nat.beq (q+k) (t+k)=false:=by
      cases hq:Nat.beq (q+k) (t+k) with
      | false=>rfl
      | true=>exact absurd (Nat.add_right_cancel (beq_nat_true hq)) h
     rw[h1,h2]
  simp only[List.map_cons,look,hb,ih]
theorem look_shift_lt(k:Nat)(env:List (Nat × D))(t:Nat)(ht:t<k):look (env.map fun x=>(x.1+k,x.2)) t = .u:=by
 induction env with
 | nil=>rfl
 | cons x env ih=>
  obtain⟨q,d⟩:=x
  have hb:Nat.beq (q+k) t=false:=by
   cases hq:Nat.beq (q+k) t with
   | false=>rfl
   | true=>have:=beq_nat_true hq;omega
  simp only[List.map_cons,look,hb,ih]
theorem look_append(l m:List (Nat × D))(t:Nat)(h:∀ x ∈ l,x.1 ≠ t):look (l++m) t=look m t:=by
 induction l with
 | nil=>rfl
 | cons x l ih=>
  obtain⟨q,d⟩:=x
  have hb:Nat.beq q t=false:=by
   cases hq:Nat.beq q t with
   | false=>rfl
   | true=>exact absurd (beq_nat_true hq) (h (q,d) (by simp))
  simp only[List.cons_append,look,hb]
  exact ih fun x hx=>h x (by simp[hx])
theorem look_append_in(l m:List (Nat × D))(t:Nat)(h:∃ x ∈ l,x.1=t):look (l++m) t=look l t:=by
 induction l with
 | nil=>obtain⟨x,hx,_⟩:=h;cases hx
 | cons x l ih=>
  obtain⟨q,d⟩:=x
  simp only[List.cons_append,look]
  split
  . rfl
  . rename_i hb
    refine ih ?_
    obtain⟨y,hy,e⟩:=h
    rcases List.mem_cons.1 hy with rfl|hy
    . simp only at e;subst e;rw[Nat.beq_refl] at hb;cases hb
    . exact⟨y,hy,e⟩
theorem envOf_mem:∀ (ds:List D) (k:Nat) (x:Nat × D),x ∈ envOf k ds->k<=x.1/\x.1<k+ds.length
 | [],k,x,h=>by cases h
 | d :: ds,k,x,h=>by
  rcases List.mem_cons.1 h with rfl|h
  . simp
  . have:=envOf_mem ds (k+1) x h
    simp only[List.length_cons];omega
theorem envOf_has:∀ (ds:List D) (k t:Nat),k<=t->t<k+ds.length->∃ x ∈ envOf k ds,x.1=t
 | [],k,t,h1,h2=>by simp at h2;omega
 | d :: ds,k,t,h1,h2=>by
  by_cases h:t=k
  . subst h;exact⟨(t,d),by simp[envOf],rfl⟩
  . obtain⟨x,hx,e⟩:=envOf_has ds (k+1) t (by omega) (by simp only[List.length_cons] at h2;omega)
    exact⟨x,by simp[envOf,hx],e⟩
theorem shE_eq(k:Nat)(env:List (Nat × D)):∀ K:List (Nat × D)->Prop,shE k env K=K (env.map fun x=>(x.1+k,x.2)):=by
 induction env with
 | nil=>intro K;rfl
 | cons x env ih=>intro K;obtain⟨t,d⟩:=x;simp only[shE,forceN_eq,ih,List.map_cons]
def unEF(k:Nat):List (Nat × D)->List (Nat × D)
 | []=>[]
 | (t,d) :: r=>match Nat.ble k t with|true=>(t - k,d) :: unEF k r|false=>unEF k r
theorem unE_eq(k:Nat)(env:List (Nat × D)):∀ K:List (Nat × D)->Prop,unE k env K=K (unEF k env):=by
 induction env with
 | nil=>intro K;rfl
 | cons x env ih=>
  intro K
  obtain⟨t,d⟩:=x
  simp only[unE,unEF]
  cases Nat.ble k t with
  | true=>simp only[forceN_eq,ih]
  | false=>simp only[ih]
theorem look_unEF(k:Nat)(env:List (Nat × D))(t:Nat):look (unEF k env) t=look env (t+k):=by
 induction env with
 | nil=>rfl
 | cons x env ih=>
  obtain⟨q,d⟩:=x
  simp only[unEF]
  cases hb:Nat.ble k q with
  | true=>
   rw[Nat.ble_eq] at hb
   have e:Nat.beq (q - k) t=Nat.beq q (t+k):=by
    by_cases h:q=t+k
    . have h1:q - k=t:=by omega
      rw[h1,h];simp[Nat.beq_refl]
    . have h1:Nat.beq (q - k) t=false:=by
        cases hq:Nat.beq (q - k) t with
        | false=>rfl
        | true=>have:=beq_nat_true hq;omega
      have h2:Nat.beq q (t+k)=false:=by
       cases hq:Nat.beq q (t+k) with
       | false=>rfl
       | true=>exact absurd (beq_nat_true hq) h
      rw[h1,h2]
   simp only[look,e,ih]
  | false=>
   have hne:¬ k<=q:=fun h=>by rw[<- Nat.ble_eq] at h;rw[h] at hb;cases hb
   have h2:Nat.beq q (t+k)=false:=by
    cases hq:Nat.beq q (t+k) with
    | false=>rfl
    | true=>have:=beq_nat_true hq;omega
   simp only[look,h2,ih]
theorem Mem.fr{sz:TypeId->Nat}{F F':Fr}(h:Mem sz w0 F V μ ω box row w)(hF:F'.V=F.V)(hc:∀ x ∈ F'.kc,x ∈ F.kc:=by exact fun _ h=>h):Mem sz w0 F' V μ ω box row w:=
 ⟨h.below,h.vok,by rw[hF];exact h.vle,by rw[hF];exact h.vold,h.bl,h.hbox,h.rl,h.hrow,h.uniq,h.new,h.vmut,fun x hx=>h.away x (hc x hx)⟩
theorem Mem.putOther{sz:TypeId->Nat}{F:Fr}(h:Mem sz w0 F V μ ω box row w){l:Nat}{o:Obj}(o':Obj)(hl:w.heap[l]? = some o)(hn:noC o)(hb:w0.heap.size<=l):Mem sz w0 F V μ ω box row (w.putObj l o') where
 below:=h.below.trans ⟨rfl,rfl,rfl,by simp,fun k hk=>World.putObj_heap_other (by have:=h.below.size;omega)⟩
 vok:=⟨⟨h.vok.1.1,h.vok.gt fun g v hv=>World.putObj_heap_other fun e=>by
  obtain⟨o2,ho2,hc2⟩:=cells_of_cell (h.vok.2 _ _ hv)
  dsimp only at ho2
  rw[e,hl] at ho2
  cases ho2
  cases o<;>simp_all[Obj.isCells]
  exact hn _ _ _ rfl⟩,fun p v hp=>by
  have hc:=h.vok.2 p v hp
  refine (World.cell?_of_block (World.putObj_heap_other fun e=>?_)).trans hc
  obtain⟨o2,ho2,hc2⟩:=cells_of_cell hc
  rw[e,hl] at ho2
  cases ho2
  cases o<;>simp_all[Obj.isCells]
  exact hn _ _ _ rfl⟩
 vle:=h.vle
 vold:=h.vold
 bl:=h.bl
 hbox:=fun i g cs h1 h2=>by
  obtain⟨vs,t,a,b⟩:=h.hbox i g cs h1 h2
  refine⟨vs,t,(World.putObj_heap_other fun e=>?_).trans a,b⟩
  rw[e,hl] at a
  exact hn _ _ _ (Option.some.inj a)
 rl:=h.rl
 hrow:=fun r v e xs h1 h2=>by
  obtain⟨vals,a,b⟩:=h.hrow r v e xs h1 h2
  refine⟨vals,⟨a.1,?_⟩,b⟩
  rcases a.2 with a|⟨g,cap,cur,e',fz,a1,a2,a3,a4⟩
  . exact .inl a
  . refine .inr ⟨g,cap,cur,e',fz,a1,a2,(World.putObj_heap_other fun e=>?_).trans a3,a4⟩
    rw[e,hl] at a3
    exact hn _ _ _ (Option.some.inj a3)
 uniq:=h.uniq
 new:=fun l' g hg=>⟨(h.new l' g hg).1,by rw[World.putObj_size];exact (h.new l' g hg).2⟩
 vmut:=h.vmut
 away:=fun x hx=>by
  obtain⟨a,b,c,d,e⟩:=h.away x hx
  refine⟨(World.putObj_heap_other fun e1=>?_).trans a,b,c,d,e⟩
  rw[e1,hl] at a
  exact e (Option.some.inj a ▸ hn)
def shut:List Nat->World->World
 | [],w=>w
 | D :: r,w=>shut r (w.putObj D (.deferred none))
theorem Mem.shut{sz:TypeId->Nat}{F:Fr}:∀ (ms:List Nat) (w:World),ms.Nodup->(∀ D ∈ ms,w.heap[D]? = some (.deferred (some []))/\w0.heap.size<=D)->Mem sz w0 F V μ ω box row w ->
    Mem sz w0 F V μ ω box row (Go.Vx.shut ms w)/\(∀ k,k ∉ ms->(Go.Vx.shut ms w).heap[k]? = w.heap[k]?)
 | [],w,_,_,h=>⟨h,fun _ _=>rfl⟩
 | D :: ms,w,hn,hd,h=>by
  obtain⟨h1,h2⟩:=List.nodup_cons.1 hn
  have hD:=hd D (by simp)
  have hM:=h.putOther (.deferred none) hD.1 (fun _ _ _ e=>by cases e) hD.2
  obtain⟨a,b⟩:=Mem.shut ms _ h2 (fun E hE=>⟨(World.putObj_heap_other (r:=D) (k:=E) fun e=>h1 (e ▸ hE)).trans (hd E (by simp[hE])).1,(hd E (by simp[hE])).2⟩) hM
  refine⟨a,fun k hk=>(b k fun q=>hk (by simp[q])).trans (World.putObj_heap_other fun e=>hk (by simp[e]))⟩
theorem Sim.shut{sz:TypeId->Nat}{F:Fr}{s:St}{a:Act}(hS:Sim sz w0 F V μ ω s a w):∃ ms:List Nat,a.defers=ms.map mkD++F.df/\ms.Nodup/\(∀ D ∈ ms,w.heap[D]? = some (.deferred (some []))) /\
    Sim sz w0 F V μ ω s { a with defers:=F.df } (Go.Vx.shut ms w):=by
 obtain⟨ms,h1,h2,h3⟩:=hS.defers.marks
 obtain⟨hM,ho⟩:=Mem.shut ms w h2 (fun D hD=>⟨(h3 D hD).1,(h3 D hD).2.1⟩) hS.mem
 refine⟨ms,h1,h2,fun D hD=>(h3 D hD).1,hS.tmps,⟨⟨[],rfl,List.nodup_nil,by simp⟩,fun x hx=>⟨?_,(hS.defers.kept x hx).2⟩⟩,hS.env,hM⟩
 rw[ho x.1 fun hD=>(h3 _ hD).2.2 x hx rfl]
 exact (hS.defers.kept x hx).1
theorem leavesM{fn:Func}{tmps:Array Value}{R:Ending->World->Prop}{u:FrameMode}(hu:u ≠ .run):∀ (ms:List Nat) (w:World),ms.Nodup->(∀ D ∈ ms,w.heap[D]? = some (.deferred (some []))) ->
    LeavesIn Fence.wide 0 P fn tmps R [] u (shut ms w)->LeavesInM Fence.wide 0 P fn tmps R (ms.map mkD) u w
 | [],w,_,_,h=>h
 | D :: ms,w,hn,hd,h=>by
  obtain⟨h1,h2⟩:=List.nodup_cons.1 hn
  exact⟨hu,.inl ⟨D,_,rfl,run_takeDeferred (hd D (by simp)),leavesM hu ms _ h2 (fun E hE=>(World.putObj_heap_other (r:=D) (k:=E) fun e=>h1 (e ▸ hE)).trans (hd E (by simp[hE]))) h⟩⟩
theorem calls_of_wpM{f:FuncId}{fn:Func}{c:Code}{args:Array Value}{w:World}{R:Ending->World->Prop}(hf:P.funcs[f]? = some fn)(hb:fn.body=some c)
    (h:c.wp P (bodyPostM Fence.wide 0 P fn R) { tmps:=args++Array.replicate (fn.ntmps - args.size) undef,defers:=[] } w):Calls P f args w R:=
 callsIn_wide.1 (callsIn_of_wp_marks (F:=Fence.wide) (n:=0) hf hb trivial (wpIn_wide.2 h))
def keptOf(ms:List Nat):List (Nat × Obj):=ms.map fun D=>(D,.deferred (some []))
theorem DefOk.behind{F:Fr}{ds:List Deferred}(h:DefOk w0 F ds w):∃ ms,(∀ w',(∀ x ∈ F.kp++keptOf ms,w'.heap[x.1]? = some x.2)->DefOk w0 F ds w')/\(∀ F':Fr,F'.df=[]->F'.kp=F.kp++keptOf ms->DefOk w0 F' [] w):=by
 obtain⟨ms,h1,h2,h3⟩:=h.marks
 refine⟨ms,fun w' hw=>⟨⟨ms,h1,h2,fun D hD=>⟨hw (D,_) (List.mem_append_right _ (List.mem_map.2 ⟨D,hD,rfl⟩)),(h3 D hD).2⟩⟩,fun x hx=>⟨hw x (List.mem_append_left _ hx),(h.kept x hx).2⟩⟩,fun F' e1 e2=>⟨⟨[],by rw[e1];rfl,List.nodup_nil,by simp⟩,fun x hx=>?_⟩⟩
 rw[e2] at hx
 rcases mAp0.1 hx with hx|hx
 . exact h.kept x hx
 . obtain⟨D,hD,rfl⟩:=List.mem_map.1 hx
   exact⟨(h3 D hD).1,(fun _ _ _ e=>by cases e),(h3 D hD).2.1⟩
theorem inlK_sound(hT:TOk P T)(hS:Sim (szOf T) w0 V0 V μ ω s a w){f:FuncId}{ds:List D}{vs:List Value}{K:D->St->Prop}(hv:Vals (szOf T) V μ ω vs ds)(h:inlK P T s f ds K) :
    (∀ args w,(callFunc f args).run P w = .ok (.enter f args) w)/\Calls P f vs.toArray w fun e w'=>∃ v d s' V' μ' ω',e = .returned v/\K d s'/\RS (szOf T) V' μ' ω' v d/\Sim (szOf T) w0 V0 V' μ' ω' s' a w':=by
 obtain⟨fn,c,hf,hb,hcall,h⟩:=h
 refine⟨hcall,calls_of_wpM hf hb ?_⟩
 obtain⟨hn,h⟩:=leB_iff.1 h
 obtain⟨env,box,row,n⟩:=s
 simp only[shE_eq,catK_eq] at h
 obtain⟨ms,back,start⟩:=hS.defers.behind
 have hS':Sim (szOf T) w0 ⟨V0.V,fun t=>slotV V0 n a (t - fn.ntmps),[],V0.kp++keptOf ms,V0.kc⟩ V μ ω ⟨envOf 0 ds++env.map (fun x=>(x.1+fn.ntmps,x.2)),box,row,fn.ntmps⟩
     { tmps:=vs.toArray++Array.replicate (fn.ntmps - vs.toArray.size) undef,defers:=[] } w:=by
  refine⟨by have:=hv.1;simp;omega,start _ rfl rfl,fun t=>?_,hS.mem.fr rfl⟩
  show RS _ _ _ _ (slotV _ fn.ntmps _ t) (look (envOf 0 ds++env.map (fun x=>(x.1+fn.ntmps,x.2))) t)
  unfold slotV
  split
  . rename_i htn
    show RS _ _ _ _ ((vs.toArray++Array.replicate (fn.ntmps - vs.toArray.size) undef).getD t undef) _
    by_cases ht:t<ds.length
    . rw[look_append_in _ _ _ (envOf_has ds 0 t (by omega) (by omega)),look_envOf,if_pos (Nat.zero_le _),Nat.sub_zero]
      have hta:t<vs.length:=by rw[hv.1];exact ht
      have hd:=gEt0 ht
      have ha:=gEt0 hta
      have:=hv.2 t _ _ ha hd
      have e1:(vs.toArray++Array.replicate (fn.ntmps - vs.toArray.size) undef).getD t undef=vs[t]:=by
       have hv1:=hv.1
       simp[Array.getD,hta]
       omega
      rw[e1]
      simp only[List.getD,hd,Option.getD_some]
      exact this
    . rw[look_append _ _ _ (fun x hx=>by have:=envOf_mem ds 0 x hx;omega),look_shift_lt _ _ _ htn]
      exact .imm _ _ (.u _)
  . rename_i htn
    rw[look_append _ _ _ (fun x hx=>by have:=envOf_mem ds 0 x hx;omega)]
    have e2:t=(t - fn.ntmps)+fn.ntmps:=by omega
    rw[e2,look_shift,<- e2]
    exact hS.env (t - fn.ntmps)
 refine wp_mono (h.run w0 _ V μ ω _ w hS') ?_
 rintro e a' w' ⟨s',V',μ',ω',hq,hS2⟩
 have fin:inlE T fn n K s'->LeavesInM Fence.wide 0 P fn a'.tmps (fun e w'=>∃ v d s' V' μ' ω',e = .returned v/\K d s'/\RS (szOf T) V' μ' ω' v d/\Sim (szOf T) w0 V0 V' μ' ω' s' a w') a'.defers .returning w':=by
  intro hr
  obtain⟨ms',e1,e2,e3,hS2⟩:=hS2.shut
  rw[e1]
  have e4:ms'.map mkD++[]=ms'.map mkD:=List.append_nil _
  show LeavesInM _ _ _ _ _ _ (ms'.map mkD++[]) _ _
  rw[e4]
  refine leavesM (by simp) ms' w' e2 e3 ?_
  obtain⟨env',box',row',m⟩:=s'
  obtain⟨hm,hr⟩:=eqN_iff hr
  obtain⟨us,ds',hk,hv',hrun⟩:=resK_sound hT hS2 _ _ hr
  refine⟨if h:us.toArray.size=1 then us.toArray[0] else .tuple us.toArray,?_,?_⟩
  . rw[results_eq,Array.mapM_eq_mapM_toList]
    dsimp only at hrun
    simp only[Sem.run_bind,Sem.run_map,hrun,Result.andThen_ok,Sem.run_pure]
  . rw[unE_eq] at hk
    refine⟨_,_,_,V',μ',ω',rfl,hk,oneD_rel hv',hS.tmps,back _ fun x hx=>(hS2.defers.kept x hx).1,fun t=>?_,hS2.mem.fr rfl⟩
    have:=hS2.env (t+fn.ntmps)
    unfold slotV at this
    rw[if_neg (by show ¬ t+fn.ntmps<m;omega)] at this
    show RS _ _ _ _ (slotV V0 n a t) (look (unEF fn.ntmps env') t)
    rw[look_unEF]
    have e3:t+fn.ntmps - fn.ntmps=t:=by omega
    simp only[e3] at this
    exact this
 cases e<;>simp only[inlQ] at hq
 . exact fin hq
 . exact fin hq
theorem RI.ground{sz:TypeId->Nat}{V V':Vw}{v:Value}{d:D}(h:RI sz V v d)(hg:d.ground=true):RI sz V' v d:=by
 have h2:=toV1_ri (sz:=sz) (V:=V') hg
 rwa [<- h.uniq (toV1_ri (sz:=sz) (V:=V') hg) hg] at h2
theorem RS.ownOrG{sz:TypeId->Nat}{V V':Vw}{μ:List Nat}{ω:List Value}{v:Value}{d:D}(h:RS sz V μ ω v d)(hg:d.ownOrG=true):RS sz V' μ ω v d:=by
 cases h with
 | imm _ _ hi=>cases d<;>first|exact .imm _ _ (hi.ground hg)|cases hi
 | own r n A N c h1 h2=>exact .own r n A N c h1 h2
 | op=>cases hg
 | bp=>cases hg
 | osl=>cases hg
 | tie=>cases hg
 | agg=>cases hg
 | tup=>cases hg
 | fnh=>cases hg
theorem ownOrGs_at:∀ {l:List D},ownOrGs l=true->∀ (j:Nat) d,l[j]? = some d->d.ownOrG=true
 | [],_,j,d,h=>by simp at h
 | c :: l,hf,j,d,h=>by
  simp only[ownOrGs,Bool.and_eq_true] at hf
  cases j with
  | zero=>simp at h;subst h;exact hf.1
  | succ j=>exact ownOrGs_at hf.2 j d (by simpa using h)
theorem ownOrGt_at:∀ {l:List D},ownOrGt l=true->∀ (j:Nat) d,l[j]? = some d->d.ownOrG1=true
 | [],_,j,d,h=>by simp at h
 | c :: l,hf,j,d,h=>by
  simp only[ownOrGt,Bool.and_eq_true] at hf
  cases j with
  | zero=>simp at h;subst h;exact hf.1
  | succ j=>exact ownOrGt_at hf.2 j d (by simpa using h)
theorem RS.ownOrG1{sz:TypeId->Nat}{V V':Vw}{μ:List Nat}{ω:List Value}{v:Value}{d:D}(h:RS sz V μ ω v d)(hg:d.ownOrG1=true):RS sz V' μ ω v d:=by
 by_cases hd:∃ cs,d = .agg cs
 . obtain⟨cs,rfl⟩:=hd
   obtain⟨vs,rfl,hs,ho,hR⟩:=h.agg_
   exact .agg _ vs hs ho fun j v d h1 h2=>(hR j v d h1 h2).ownOrG (ownOrGs_at hg j d h2)
 . refine h.ownOrG ?_
   cases d<;>first|exact hg|exact absurd ⟨_,rfl⟩ hd
theorem RS.ownOrG2{sz:TypeId->Nat}{V V':Vw}{μ:List Nat}{ω:List Value}{v:Value}{d:D}(h:RS sz V μ ω v d)(hg:d.ownOrG2=true):RS sz V' μ ω v d:=by
 by_cases hd:∃ cs,d = .tup cs
 . obtain⟨cs,rfl⟩:=hd
   obtain⟨vs,rfl,hs,hR⟩:=h.tup_
   exact .tup _ vs hs fun j v d h1 h2=>(hR j v d h1 h2).ownOrG1 (ownOrGt_at hg j d h2)
 . refine h.ownOrG1 ?_
   cases d<;>first|exact hg|exact absurd ⟨_,rfl⟩ hd
theorem gRowsP_at:∀ {rows:Rows},gRowsP rows->∀ (r:Nat) (e:TypeId) (xs:List (List D)),rows[r]? = some (some (e,xs))->∀ x ∈ xs,grounds x=true
 | [],_,r,e,xs,h=>by simp at h
 | none :: l,hf,r,e,xs,h=>by
  cases r with
  | zero=>simp at h
  | succ r=>exact gRowsP_at (rows:=l) hf r e xs (by simpa using h)
 | some (e',xs') :: l,hf,r,e,xs,h=>by
  cases r with
  | zero=>simp at h;obtain⟨_,rfl⟩:=h;exact hf.1
  | succ r=>exact gRowsP_at (rows:=l) hf.2 r e xs (by simpa using h)
theorem Res.less{sz:TypeId->Nat}{V V':Vw}{ω0:List Value}{row0:Rows}(hV:VOk V w)(h:Res sz (heapV w) V' ω0 row0 w w')(hg:gRowsP row0) :
    Res sz V (fun p=>if p.block<w.heap.size then V p else V' p) ω0 row0 w w':=by
 have hin:∀ p u,V p=some u->p.block<w.heap.size:=fun p u hp=>by
  have hc:=hV.2 p u hp
  apply Classical.byContradiction
  intro hn
  have:w.heap[p.block]? = none:=by simp;omega
  simp[World.cell?,this] at hc
 refine⟨h.below,fun p u hp=>by simp only[if_pos (hin p u hp)];exact hp,⟨⟨fun p u hp=>(by have h1:=hV.1.1 p u hp;simp only[if_pos (hin p u h1)];exact h1),h.vok.1.2⟩,fun p u hp=>?_⟩,fun p hp=>by simp only[if_pos hp],h.rl,fun r v e xs h1 h2=>?_,h.uniq,fun p u r v x hp h1 h2=>?_⟩
 . by_cases hb:p.block<w.heap.size
   . simp only[if_pos hb] at hp
     exact (show Ext w w' from h.below).cell (hV.2 p u hp)
   . simp only[if_neg hb] at hp
     exact h.vok.2 p u hp
 . obtain⟨vals,a,b,c,d⟩:=h.rows r v e xs h1 h2
   refine⟨vals,a,b,c,fun i rw_ j d' e1 e2=>?_⟩
   obtain⟨u,hu,hr⟩:=d i rw_ j d' e1 e2
   exact⟨u,hu,hr.ground (grounds_at (gRowsP_at hg r e xs h2 rw_ (mOf0 e1)) j d' e2)⟩
 . by_cases hb:p.block<w.heap.size
   . intro he
     obtain⟨e,xs⟩:=x
     obtain⟨vals,hown,_⟩:=h.rows r v e xs h1 h2
     have:=(hown.lt _ he).1
     omega
   . simp only[if_neg hb] at hp
     exact h.vmut p u r v x hp h1 h2
theorem exposeK_sound{s:St}(hS:Sim (szOf T) w0 V0 V μ ω s a w){dst:Option Nat}{type:TypeId}{pos:String}{after:Array Edge}{guard:Option (Nat × Bool)}{f:FuncId}{args:Array Operand}{argTypes:Array TypeId}{K:D->St->Prop}
    (h:exposeK P T s f argTypes.toList (s.gets args.toList) K) :
    (execOp a.eval ⟨dst,.call ⟨.value (.func f),args,argTypes⟩,type,pos,after,guard⟩).run P w = .ok (.enter f (args.map a.eval)) w /\
    Calls P f (args.map a.eval) w fun e w'=>∃ v d s' V' ω',e = .returned v/\K d s'/\RS (szOf T) V' μ ω' v d/\Sim (szOf T) w0 V0 V' μ ω' s' a w'/\VLe V V'/\Pre ω ω'/\Ext w w':=by
 obtain⟨es,⟨R,hf,h⟩,hes,hri⟩:=expos_sound hS.mem argTypes.toList (s.gets args.toList) (args.toList.map a.eval) _ (by simp[St.gets]) (hS.gets args.toList).2 h
 refine⟨?_,?_⟩
 . simp only[execOp,resolve,Act.eval,Deferred.ofValue,invoke,Sem.run_bind,Sem.run_pure,Result.andThen_ok]
   rw[show (#[]++args.map a.eval)++#[]=args.map a.eval by simp,hf.call]
 have hcalls:=hf.run (heapV w) w (args.map a.eval) (.heap hS.mem.vok.gl (Ext.refl w)) (by simp[hes,St.gets]) (fun j v d h1 h2=>hri j v d (by simpa using h1) h2)
 refine hcalls.mono ?_
 rintro e w'' ⟨V',ω0,row0,v,d,rfl,hR,hrs,hres⟩
 obtain⟨hg,hk⟩:=h d row0 hR
 obtain⟨hd,hk⟩:=boolP_iff.1 hk
 have hres2:=hres.less hS.mem.vok hg
 have hrs2:=hrs.ownOrG2 (V':=fun p=>if p.block<w.heap.size then V p else V' p) hd
 obtain⟨env,box,row,n⟩:=s
 have hM:=hS.mem.call hres2
 have hl:row.length=ω.length:=hS.mem.rl.symm
 dsimp only at hk
 rw[hl] at hk
 obtain⟨d',hk,hr⟩:=shiftD_sound (μ:=μ) (ω':=ω++ω0) (VLe.refl _) (fun r u hu=>by rw[List.getElem?_append_right (by omega),Nat.add_sub_cancel];exact hu) hrs2 hk
 rw[catK_eq] at hk
 exact⟨v,d',_,_,ω++ω0,rfl,hk,hr,⟨hS.tmps,hS.defers.ext hres2.below,fun t=>(hS.env t).mono hres2.le (.refl μ) (.append _ _),hM⟩,hres2.le,.append _ _,hres2.below⟩
theorem vop_sound(hT:TOk P T)(hS:Sim (szOf T) w0 V0 V μ ω s a w){o:Oper}{K:D->St->Prop}(h:vop P T s o K):Vok P T w0 V0 (effOf s o) V μ ω a w o K:=by
 obtain⟨dst,op,type,pos,after,guard⟩:=o
 cases op
 case alloc t=>
  simp only[vop,forceL_eq] at h
  split at h
  case h_2=>exact h.elim
  rename_i ti hti
  rw[boolP_iff] at h
  obtain⟨hnz,h⟩:=h
  obtain⟨i,z,h1,h2,h3,h4,h5,h6,h7⟩:=(hT _ _ hti).info
  obtain⟨d,s',μ',hk,hr,hS',hpre⟩:=newBox_sound (t:=t) hS (AggR.zero h5 h7).allocZ (allocZ_ty hnz) h
  refine .value (v:=.pointer (some ⟨w.heap.size,0,none⟩)) (w':=w.alloc (.cells z.cells t)) ?_ hk hr hS' (.ext (fun _ _ h=>h) hpre (.refl _) (Ext.alloc _ _))
  simp[execOp,Instr.alloc,zeroValue,typeInfo,h1,h4,newVar,newRow]
 case box t x=>
  simp only[vop,forceL_eq] at h
  obtain⟨cs,hag,h⟩:=cellsK_sound (hS.get x) h
  rw[boolP_iff] at h
  obtain⟨hnz,h⟩:=h
  obtain⟨d,s',μ',hk,hr,hS',hpre⟩:=newBox_sound (t:=t) hS hag (noB_ty hnz t) h
  refine .value (v:=.pointer (some ⟨w.heap.size,0,none⟩)) (w':=w.alloc (.cells (a.eval x).cells t)) ?_ hk hr hS' (.ext (fun _ _ h=>h) hpre (.refl _) (Ext.alloc _ _))
  simp[execOp,Instr.box,newVar,newRow]
 case store t x y=>
  simp only[vop] at h
  obtain⟨ds,hag,h⟩:=cellsK_sound (hS.get y) h
  split at h
  . exact h.elim
  rename_i ti hti
  obtain⟨hsz,h⟩:=eqN_iff h
  have hrun:∀ p w',a.eval x = .pointer (some p)->(storeCells p (a.eval y).cells.toList).run P w = .ok () w'->(execOp a.eval ⟨dst,.store t x y,type,pos,after,guard⟩).run P w = .ok .skip w':=by
   intro p w' hp hst
   have hz:¬ (a.eval y).cells.size ≠ ti.size:=by rw[hag.size,hsz];simp
   simp[execOp,Instr.storeAt,hp,Instr.sureAddr,storeVar,(hT _ _ hti).size,hag.size,<- hsz,hst]
  split at h
  . rename_i i off hx
    obtain⟨env,box,row,n⟩:=s
    dsimp only at h
    split at h
    case h_2=>exact h.elim
    rename_i cs hcs
    simp only[leB_iff,forceL_eq,boolP_iff] at h
    obtain⟨hle,hnb,h⟩:=h
    obtain⟨_,h⟩:=setK_iff _ _ _ _ h
    have hxv:=hS.get x
    rw[hx] at hxv
    obtain⟨p,w',hp,hst,hS',hstep⟩:=store_bp_sound (P:=P) hS hxv hag hcs hle hnb
    exact .skip (hrun p w' hp hst) h hS' (by simp only[effOf,hx,srcOf];exact hstep)
  . rename_i r e j off hx
    have hxv:=hS.get x
    rw[hx] at hxv
    split at h
    case h_2=>exact h.elim
    rename_i e' xs0 hr0
    obtain⟨he,h20⟩:=eqN_iff h
    subst he
    have h21:=elemM_of h20
    obtain⟨V1,ds1,s1,h22,hv1,hS1,hle1⟩:=pubsK_sound 8 hS (vs:=(a.eval y).cells.toList) ⟨by rw[Array.length_toList];exact hag.size,fun j v d h1 h2=>hag.rel j v d (by simpa using h1) h2⟩ h21
    obtain⟨env,box,row,n⟩:=s1
    obtain⟨ds2,h23,hds⟩:=normL_sound ds1 off _ _ hv1.1 hag.one hv1.2 h22
    split at h23
    case h_2=>exact h23.elim
    rename_i e2 xs hr
    obtain⟨he,h24⟩:=eqN_iff h23
    subst he
    obtain⟨rw_,hj,hle,xs',rfl,h1⟩:=h24
    obtain⟨_,hk⟩:=setK_iff _ _ _ _ h1
    have hxv1:RS (szOf T) V1 μ ω (a.eval x) (.op r e j off):=by
     obtain⟨g,N,c,h5,h6⟩:=hxv.op_
     rw[h6]
     exact .op r e j off g N c h5
    obtain⟨p,w',hp,hst,hS',hstep⟩:=store_op_sound (P:=P) hS1 hxv1 hds hr hj hle
    exact .skip (hrun p w' hp hst) hk hS' (by simp only[effOf,hx,srcOf];exact⟨hle1,hstep.pre,hstep.row,hstep.foot⟩)
  . exact h.elim
 case buildSlice t len ps=>
  simp only[vop] at h
  split at h
  case h_2=>exact h.elim
  rename_i e zz hti
  obtain⟨⟨ti,hte,hs1,hby⟩,h⟩:=elemK_iff h
  obtain⟨hseq,h⟩:=seqK_iff h
  obtain⟨hlen,h⟩:=eqN_iff h
  rw[leB_iff] at h
  obtain⟨hbig,h⟩:=h
  obtain⟨V1,ds1,s1,h,hv1,hS1,hle1⟩:=pubsK_sound 8 hS (hS.gets _) h
  obtain⟨env,box,row,n⟩:=s1
  dsimp only at h
  obtain⟨rows,h,h1,h2,h3⟩:=partsK_sound ds1 0 _ _ hv1.1 hv1.2 h
  have hu:P.underlying t=some (.slice e):=(hT _ _ hti).kind
  obtain⟨i,z,g1,g2,g3,g4,g5,g6,g7⟩:=(hT _ _ hte).info
  have hsz:=szOf_eq hte
  have hl:len=ps.toList.length:=by simpa using hlen
  have hzip:(ps.map fun x=>(x.1,a.eval x.2)).toList=(List.range' 0 (ps.toList.map fun x=>a.eval x.2).length).zip (ps.toList.map fun x=>a.eval x.2):=by
   have hq:ps.toList.map (·.1)=List.range' 0 ps.toList.length:=by simpa using hseq
   rw[Array.toList_map,lMp0,<- hq]
   apply List.ext_getElem?
   intro j
   simp only[gMp0,List.zip_map']
  obtain⟨us,f1,f2,_,f4⟩:=fill_rows (size:=szOf T e) (len:=len) (ps.toList.map fun x=>a.eval x.2) 0 ((Array.range (len*szOf T e)).map (fun k=>(if len*szOf T e=0 then #[] else z.cells)[k % (if len*szOf T e=0 then #[] else z.cells).size]!)) (by simp) (by simp[hl]) (by simpa using h2)
  have hrr:=rowR_cells (T:=T) (V:=V1) (e:=e) (us:=us) (vs:=ps.toList.map fun x=>a.eval x.2) (rows:=rows) rfl (by rw[f2,hl];simp) (by simpa using h1) (by simpa using h2) f4 (by simpa using h3)
  have hrl:rows.length=len:=by rw[h1,hl];simp
  have hm:len<=maxLen:=by
   have:len*1<=len*szOf T e:=Nat.mul_le_mul_left _ (by rw[hsz];exact hs1)
   unfold maxLen;omega
  have hown:=World.ownsRow_lit (e:=e) (size:=szOf T e) w us len (base:=w0.heap.size) hS1.mem.below.size hm f2
  obtain⟨d,s',ω',hk,hr',hS',hpre⟩:=newRow_sound (e:=e) (xs:=rows) (vals:=us.toList) (m:=len) (c:=len) (A:=some ⟨w.heap.size,0,none⟩) (v:=.slice (some ⟨w.heap.size,0,none⟩) len len) (w':=w.alloc (.cells us e)) hS1 (Ext.alloc _ _) (by rw[hrl]) (by rw[hrl];exact hown) hrr
   (fun g hg=>by simp[Value.ownBlock] at hg;omega) hrl.symm h
  refine .value (v:=.slice (some ⟨w.heap.size,0,none⟩) len len) (w':=w.alloc (.cells us e)) ?_ hk hr' hS' (.ext hle1 (.refl _) hpre (Ext.alloc _ _))
  have hzs:(sizeOf e).run P w = .ok (szOf T e) w:=by rw[(hT _ _ hte).size,hsz]
  have hz:(zeroValue e).run P w = .ok z w:=by simp[zeroValue,typeInfo,g1,g4]
  have hb:=run_buildSlice (t:=t) (parts:=ps.map fun x=>(x.1,a.eval x.2)) hu hzs hz hbig (by rw[hzip];exact f1)
  simp[execOp,hb]
 case makeSlice t x y=>
  simp only[vop] at h
  split at h
  case h_2=>exact h.elim
  rename_i k1 l0 k2 c0 _ _ e zz e1 e2 hti
  split at h
  case h_2=>exact h.elim
  rename_i ti hte
  simp only[leB_iff] at h
  obtain⟨hs1,hby,l,c,rfl,rfl,hlc,hc,h⟩:=h
  have hx:=hS.get x
  have hy:=hS.get y
  rw[e1] at hx
  rw[e2] at hy
  have hu:=(hT _ _ hti).kind
  obtain⟨i,z,g1,g2,g3,g4,g5,g6,g7⟩:=(hT _ _ hte).info
  have hsz:=szOf_eq hte
  have haz:=AggR.zero (sz:=szOf T) (V:=V) (μ:=μ) (ω:=ω) g5 g7
  obtain⟨zd,h,hzd⟩:=normL_sound (T:=T) (e:=e) ti.zero 0 z.cells.toList _ (by rw[Array.length_toList];exact haz.size) g7 (fun j v d h1 h2=>haz.rel j v d (by simpa using h1) h2) h
  obtain⟨zs,rfl,h⟩:=h
  have hzl:z.cells.toList.length=szOf T e:=by rw[hsz,<- g6];simp
  have hm:c<=maxLen:=by unfold maxLen;omega
  have hbytes:(i.bytes:Int)*(c:Int)<=281474976710656:=by
   have h1:i.bytes*c<=65536*2147483648:=Nat.mul_le_mul (by rw[g3];exact hby) hc
   have h2:((i.bytes*c:Nat):Int)=(i.bytes:Int)*(c:Int):=Int.natCast_mul _ _
   omega
  have hrun:=run_make (P:=P) w t e i z hu g1 g4 k1 k2 (l:Int) (c:Int) (by omega) (by omega) hbytes (by omega)
  simp only[Int.toNat_natCast] at hrun
  have hlsz:l*szOf T e<=c*szOf T e:=Nat.mul_le_mul_right _ hlc
  have hcell:∀ k,k<c*szOf T e->(madeCells z.cells (c*i.size))[k]? = z.cells.toList[k % szOf T e]?:=by
   intro k hk
   have hz0:0<szOf T e:=by omega
   have hkm:k % szOf T e<z.cells.size:=by rw[g6,<- hsz];exact Nat.mod_lt _ hz0
   have hzz:z.cells.size=szOf T e:=by rw[g6,hsz]
   rw[Array.getElem?_toList]
   simp only[madeCells,Array.getElem?_map,Array.getElem?_range]
   rw[if_pos (by rw[g2,<- hsz];exact hk)]
   simp only[Option.map_some,hzz]
   rw[Array.getElem?_eq_getElem hkm,getElem!_pos z.cells _ hkm]
  have hmade:(madeCells z.cells (c*i.size)).size=c*szOf T e:=by rw[size_madeCells,g2,hsz]
  have hown:(w.alloc (.cells (madeCells z.cells (c*i.size)) e)).ownsRow w0.heap.size e (szOf T e) (.slice (some ⟨w.heap.size,0,none⟩) l c) l ((madeCells z.cells (c*i.size)).toList.take (l*szOf T e)):=
   ⟨by rw[List.length_take,Array.length_toList,hmade];omega,.inr ⟨w.heap.size,c,_,rfl,hS.mem.below.size,heap_alloc_new w _,hlc,hm,hmade,rfl⟩⟩
  have hrr:RowR (szOf T) V e ((madeCells z.cells (c*i.size)).toList.take (l*szOf T e)) (List.replicate l zd):=by
   have hzdl:zd.length=szOf T e:=by rw[<- hzd.size];exact hzl
   refine⟨fun u hu'=>?_,fun q rw_ hq=>?_,fun q rw_ j d hq hj=>?_⟩
   . obtain⟨k,hk⟩:=List.getElem?_of_mem hu'
     have hkl:k<l*szOf T e:=by
      have:=(gSm0.1 hk).1
      rw[List.length_take] at this;omega
     rw[List.getElem?_take_of_lt hkl,Array.getElem?_toList,hcell k (by omega)] at hk
     exact g7 u (mOf0 hk)
   . rw[List.getElem?_replicate] at hq
     split at hq
     . cases hq;exact hzdl
     . cases hq
   . rw[List.getElem?_replicate] at hq
     split at hq
     case isFalse=>cases hq
     rename_i hql
     cases hq
     have hjl:j<szOf T e:=by rw[<- hzdl];exact (gSm0.1 hj).1
     have hlt:q*szOf T e+j<l*szOf T e:=by
      have:(q+1)*szOf T e<=l*szOf T e:=Nat.mul_le_mul_right _ hql
      rw[Nat.add_mul] at this;omega
     have hjz:j<z.cells.toList.length:=by omega
     refine⟨z.cells.toList[j],?_,hzd.rel j _ d (gEt0 hjz) hj⟩
     rw[List.getElem?_take_of_lt hlt,Array.getElem?_toList,hcell _ (by omega),show (q*szOf T e+j) % szOf T e=j by rw[Nat.mul_comm,Nat.mul_add_mod];exact Nat.mod_eq_of_lt hjl]
     exact gEt0 hjz
  have hrl:(List.replicate l zd).length=l:=List.length_replicate
  obtain⟨d,s',ω',hk,hr',hS',hpre⟩:=newRow_sound (e:=e) (xs:=List.replicate l zd) (m:=l) (c:=c) (A:=some ⟨w.heap.size,0,none⟩) (v:=.slice (some ⟨w.heap.size,0,none⟩) l c) hS (Ext.alloc _ _) (by rw[hrl]) (by rw[hrl];exact hown) hrr
   (fun g hg=>by simp[Value.ownBlock] at hg;omega) hrl.symm h
  refine .value (v:=.slice (some ⟨w.heap.size,0,none⟩) l c) (w':=w.alloc (.cells (madeCells z.cells (c*i.size)) e)) ?_ hk hr' hS' (.ext (fun _ _ h=>h) (.refl _) hpre (Ext.alloc _ _))
  simp[execOp,hx.int_,hy.int_,hrun]
 case convert t b x=>
  simp only[vop] at h
  split at h
  case h_3=>exact .of_qop hT hS h
  case h_2=>
   rename_i hx h1 h2
   obtain⟨he8,hsz,hlen,h⟩:=u8K_iff hT h
   have hnT:=nonK_iff h
   rename_i l _ _ _ _ _ e _ _
   have hRx:=hS.get x
   rw[hx] at hRx
   have hrun:=run_bytes_of_string (P:=P) w t b e (bstr l) (hT _ _ h1).kind (hT _ _ h2).kind he8
   rw[bstr_size] at hrun
   have hge:=grownCap_ge w l.length 0 e
   have hle:=grownCap_le_maxLen w l.length 0 e (by unfold maxLen;omega)
   generalize grownCap w l.length 0 e=cap at hrun hge hle
   have hsz1:szOf T (Nat.add e BIG)=1:=szOf_big hnT.1 (by simp[BIG])
   have hcs:(bytesRow (bstr l) cap).size=cap:=by have hb:=bstr_size l;simp[bytesRow];omega
   have hown:ownsR (w.drew.alloc (.cells (bytesRow (bstr l) cap) e ((bytesRow (bstr l) cap).size,(bytesRow (bstr l) cap).size+1))) w0.heap.size (Nat.add e BIG) (szOf T (Nat.add e BIG)) (.slice (some ⟨w.heap.size,0,none⟩) l.length cap) l.length (Lib.strCells (bstr l)):=by
    rw[hsz1]
    refine⟨by simp[Lib.strCells,bstr],.inr ⟨w.heap.size,cap,bytesRow (bstr l) cap,e,((bytesRow (bstr l) cap).size,(bytesRow (bstr l) cap).size+1),rfl,hS.mem.below.size,by show (w.heap.push _)[w.heap.size]? = _;simp,hge,hle,by rw[hcs];omega,?_,.inr ⟨by simp[BIG],Nat.le_refl _⟩⟩⟩
    simp[bytesRow,Lib.strCells,bstr]
   have hext:Ext w (w.drew.alloc (.cells (bytesRow (bstr l) cap) e ((bytesRow (bstr l) cap).size,(bytesRow (bstr l) cap).size+1))):=(Below.refl w.heap.size w).drew.alloc (Nat.le_refl _) _
   obtain⟨d,s',ω',hk,hr',hS',hpre⟩:=newRow_soundR (e:=Nat.add e BIG) (xs:=l.map bcell) (vals:=Lib.strCells (bstr l)) (m:=l.length) (c:=cap) (A:=some ⟨w.heap.size,0,none⟩) (v:=.slice (some ⟨w.heap.size,0,none⟩) l.length cap) hS hext (by simp) (by rw[lMp0];exact hown) (bytes_ri V l hsz1)
    (fun g hg=>by simp[Value.ownBlock] at hg;omega) (by simp) hnT.2
   refine .value (v:=.slice (some ⟨w.heap.size,0,none⟩) l.length cap) ?_ hk hr' hS' (.ext (fun _ _ h=>h) (.refl _) hpre hext)
   simp only[execOp,hRx.str_,Sem.run_bind,hrun,Result.andThen_ok,Sem.run_pure]
  rename_i hx h1 h2
  obtain⟨he8,hsz,h⟩:=u8K_iff hT h
  split at h
  case h_2=>exact h.elim
  rename_i e' xs hrow
  obtain⟨hee,hm,l,hl,hk⟩:=eqM_iff h
  have hRx:=hS.get x
  rw[hx] at hRx
  obtain⟨hsz',hk⟩:=s1K_iff hk
  have hc:=convS_sound hS (hT _ _ h1).kind (hT _ _ h2).kind he8 hsz' hRx hrow hm hl
  refine .value (v:=.string (bstr l)) ?_ hk (.imm _ _ (.s l)) hS (.ext (fun _ _ h=>h) (.refl _) (.refl _) (Ext.refl w))
  simp[execOp,hc]
 case makeInterface t x=>
  simp only[vop] at h
  obtain⟨d',⟨hc,hk⟩,hr⟩:=expoN_sound (hS.get x) h
  refine .value (v:=.iface t (a.eval x)) ?_ hk (.imm _ _ (.ifc t _ _ hr)) hS (.ext (fun _ _ h=>h) (.refl _) (.refl _) (Ext.refl w))
  simp[execOp,run_makeInterface w t _ hc.ok]
 case call c=>
  obtain⟨callee,args,argTypes⟩:=c
  cases callee with
  | invoke r m=>
   simp only[vop] at h
   rcases h with h|h
   . exact .of_qop hT hS h
   split at h
   case h_2=>exact h.elim
   rename_i t d hd
   have hr:=hS.get r
   rw[hd] at hr
   obtain⟨x,hx,hxr⟩:=hr.ifc_
   obtain⟨f,hm,h⟩:=h
   obtain⟨V1,ds1,s1,h,hv1,hS1,hVV⟩:=pubsK_sound 8 hS (hS.gets _) h
   obtain⟨es,⟨R,hf,h⟩,hes,hri⟩:=exposN_sound argTypes.toList ds1 _ _ hv1 h
   obtain⟨env,box,row,n⟩:=s1
   intro next Q hn
   have hcalls:=hf.run V1 w (#[x]++args.map a.eval) hS1.mem.vok (by have:=hv1.1;simp at this ⊢;omega) (fun j v d h1 h2=>by
    cases j with
    | zero=>
     rw[Array.getElem?_append_left (by simp)] at h1
     simp at h1 h2
     subst h1 h2
     exact hxr.mono hVV
    | succ j=>
     rw[Array.getElem?_append_right (by simp)] at h1
     exact hri j v d (by simpa using h1) (by simpa using h2))
   unfold Oper.wp
   have hrun:(execOp a.eval ⟨dst,.call ⟨.invoke r m,args,argTypes⟩,type,pos,after,guard⟩).run P w = .ok (.enter f (#[x]++args.map a.eval)) w:=by
    simp only[execOp,resolve,hx,Sem.run_bind,Sem.run_pure,Result.andThen_ok]
    rw[hm.enter]
   rw[hrun]
   show Calls P f (#[x]++args.map a.eval) w _
   refine hcalls.mono ?_
   rintro e w'' ⟨V',ω0,row0,v,d,rfl,hR,hrs,hres⟩
   have hM:=hS1.mem.call hres
   have hk:=h d row0 hR
   have hl:row.length=ω.length:=hS1.mem.rl.symm
   dsimp only at hk
   rw[hl] at hk
   obtain⟨d',hk,hr⟩:=shiftD_sound (μ:=μ) (V':=V') (ω':=ω++ω0) (VLe.refl V') (fun r u hu=>by rw[List.getElem?_append_right (by omega),Nat.add_sub_cancel];exact hu) hrs hk
   rw[catK_eq] at hk
   exact hn d' v _ V' μ (ω++ω0) w'' hk hr ⟨hS1.tmps,hS1.defers.ext hres.below,fun t=>(hS1.env t).mono hres.le (.refl μ) (.append _ _),hM⟩ (fun h=>by cases h)
  | builtin b=>
   cases b<;>first|exact .of_qop hT hS h|skip
   case copy=>
    simp only[vop] at h
    split at h
    case h_2=>exact h.elim
    rename_i x y t t' ha ht
    obtain⟨args⟩:=args
    obtain⟨argTypes⟩:=argTypes
    dsimp only at ha ht
    subst ha ht
    obtain⟨d,v,s',w',hk,hr,hS',hrun,hstep⟩:=copK_sound (P:=P) (u:=t') (ty:=type) hT hS (hS.get x) (hS.get y) h
    refine .value (v:=v) (w':=w') ?_ hk hr hS' hstep
    simp[execOp,resolve,invoke,builtin,hrun]
   simp only[vop] at h
   split at h
   case h_2=>exact h.elim
   rename_i x y t t' ha ht
   obtain⟨args⟩:=args
   obtain⟨argTypes⟩:=argTypes
   dsimp only at ha ht
   subst ha ht
   split at h
   . rename_i h31
     obtain⟨d,v,s',ω',w',hk,hr,hS',hrun,hstep⟩:=appS_sound (P:=P) (ty:=type) hT hS (hT _ _ h31).kind (hS.get x) (hS.get y) h
     refine .value ?_ hk hr hS' hstep
     simp only[execOp,resolve,invoke,builtin,Sem.run_bind,Sem.run_pure,Result.andThen_ok,List.map_toArray,List.map_cons,List.map_nil,hrun]
   obtain⟨htt,h30⟩:=eqN_iff h
   subst htt
   obtain⟨d,v,s',ω',w',hk,hr,hS',hrun,hstep⟩:=appK_sound (P:=P) (ty:=type) hT hS (hS.get x) (hS.get y) h30
   refine .value (v:=v) (w':=w') ?_ hk hr hS' hstep
   simp[execOp,resolve,invoke,builtin,hrun]
  | value f=>
   cases f<;>first|exact .of_qop hT hS h|skip
   . rename_i t
     simp only[vop] at h
     rcases h with h|h
     . exact .of_qop hT hS h
     obtain⟨f,first,cap,vs,us,hv,hs1,hs2,hr1,hr2,h⟩:=fnK_sound (hS.get (.tmp t)) h
     rw[forceL_eq] at h
     have hg:=hS.gets args.toList
     have hvals:Vals (szOf T) V μ ω (vs.toList++args.toList.map a.eval++us.toList) (first++s.gets args.toList++cap):=
      ⟨by have:=hg.1;simp at this ⊢;omega,cat3 (fun j v d h1 h2=>hr1 j v d (by simpa using h1) h2) hg.2 (fun j v d h1 h2=>hr2 j v d (by simpa using h1) h2) (by simpa using hs1) hg.1⟩
     obtain⟨hcall,hcalls⟩:=inlK_sound hT hS hvals h
     intro next Q hn
     unfold Oper.wp
     have hrun:(execOp a.eval ⟨dst,.call ⟨.value (.tmp t),args,argTypes⟩,type,pos,after,guard⟩).run P w = .ok (.enter f (vs.toList++args.toList.map a.eval++us.toList).toArray) w:=by
      simp only[execOp,resolve,hv,Deferred.ofValue,invoke,Sem.run_bind,Sem.run_pure,Result.andThen_ok]
      rw[hcall]
      congr 2
      apply Array.ext'
      simp
     rw[hrun]
     show Calls P f _ w _
     refine hcalls.mono ?_
     rintro e w'' ⟨v,d,s',V',μ',ω',rfl,hk,hr,hS'⟩
     exact hn d v s' V' μ' ω' w'' hk hr hS' (fun h=>by cases h)
   rename_i f
   simp only[vop] at h
   rcases h with h|h|h|h|h
   . exact .of_qop hT hS h
   case inr.inr.inr.inr=>
    rw[forceL_eq] at h
    intro next Q hn
    have hg:=hS.gets args.toList
    have hcalls:=h.run w0 V0 V μ ω a w _ hS hg.1 hg.2
    unfold Oper.wp
    have hrun:(execOp a.eval ⟨dst,.call ⟨.value (.func f),args,argTypes⟩,type,pos,after,guard⟩).run P w = .ok (.enter f (args.toList.map a.eval).toArray) w:=by
     simp only[execOp,resolve,Act.eval,Deferred.ofValue,invoke,Sem.run_bind,Sem.run_pure,Result.andThen_ok]
     rw[h.call]
     congr 2
     apply Array.ext'
     simp
    rw[hrun]
    show Calls P f _ w _
    refine hcalls.mono ?_
    rintro e w'' ⟨v,d,s',V',μ',ω',rfl,hk,hr,hS'⟩
    exact hn d v s' V' μ' ω' w'' hk hr hS' (fun h=>by cases h)
   case inr.inr.inr.inl=>
    obtain⟨hrun,h⟩:=exposeK_sound (dst:=dst) (type:=type) (pos:=pos) (after:=after) (guard:=guard) hS h
    intro next Q hn
    unfold Oper.wp
    rw[hrun]
    show Calls P f (args.map a.eval) w _
    refine h.mono ?_
    rintro e w'' ⟨v,d,s',V',ω',rfl,hk,hr,hS',_⟩
    exact hn d v s' V' μ ω' w'' hk hr hS' (fun h=>by cases h)
   case inr.inr.inl=>
    rw[forceL_eq] at h
    obtain⟨hcall,hcalls⟩:=inlK_sound hT hS (hS.gets args.toList) h
    intro next Q hn
    unfold Oper.wp
    have hrun:(execOp a.eval ⟨dst,.call ⟨.value (.func f),args,argTypes⟩,type,pos,after,guard⟩).run P w = .ok (.enter f (args.toList.map a.eval).toArray) w:=by
     simp only[execOp,resolve,Act.eval,Deferred.ofValue,invoke,Sem.run_bind,Sem.run_pure,Result.andThen_ok]
     rw[hcall]
     congr 2
     apply Array.ext'
     simp
    rw[hrun]
    show Calls P f _ w _
    refine hcalls.mono ?_
    rintro e w'' ⟨v,d,s',V',μ',ω',rfl,hk,hr,hS'⟩
    exact hn d v s' V' μ' ω' w'' hk hr hS' (fun h=>by cases h)
   obtain⟨V1,ds1,s1,h,hv1,hS1,_⟩:=pubsK_sound 8 hS (hS.gets _) h
   obtain⟨es,⟨R,hf,h⟩,hes,hri⟩:=exposN_sound argTypes.toList ds1 _ _ hv1 h
   obtain⟨env,box,row,n⟩:=s1
   intro next Q hn
   have hcalls:=hf.run V1 w (args.map a.eval) hS1.mem.vok (by have:=hv1.1;simp at this ⊢;omega) (fun j v d h1 h2=>hri j v d (by simpa using h1) h2)
   unfold Oper.wp
   have hrun:(execOp a.eval ⟨dst,.call ⟨.value (.func f),args,argTypes⟩,type,pos,after,guard⟩).run P w = .ok (.enter f (args.map a.eval)) w:=by
    simp only[execOp,resolve,Act.eval,Deferred.ofValue,invoke,Sem.run_bind,Sem.run_pure,Result.andThen_ok]
    rw[show (#[]++args.map a.eval)++#[]=args.map a.eval by simp,hf.call]
   rw[hrun]
   show Calls P f (args.map a.eval) w _
   refine hcalls.mono ?_
   rintro e w'' ⟨V',ω0,row0,v,d,rfl,hR,hrs,hres⟩
   have hM:=hS1.mem.call hres
   have hk:=h d row0 hR
   have hl:row.length=ω.length:=hS1.mem.rl.symm
   dsimp only at hk
   rw[hl] at hk
   obtain⟨d',hk,hr⟩:=shiftD_sound (μ:=μ) (V':=V') (ω':=ω++ω0) (VLe.refl V') (fun r u hu=>by rw[List.getElem?_append_right (by omega),Nat.add_sub_cancel];exact hu) hrs hk
   rw[catK_eq] at hk
   exact hn d' v _ V' μ (ω++ω0) w'' hk hr ⟨hS1.tmps,hS1.defers.ext hres.below,fun t=>(hS1.env t).mono hres.le (.refl μ) (.append _ _),hM⟩ (fun h=>by cases h)
 all_goals exact .of_qop hT hS h
theorem vops_sound(hT:TOk P T){ops:List Oper}{Q:Exit->Act->World->Prop}:∀ (rest:List Oper) (s:St) (V:Vw) (μ:List Nat) (ω:List Value) (a:Act) (w:World) (K:St->Prop),Sim (szOf T) w0 V0 V μ ω s a w ->
    vops P T ops rest s K->(∀ s V μ ω a w,K s->Sim (szOf T) w0 V0 V μ ω s a w->Q .normal a w)->wpList P ops.toArray Q rest a w
 | [],s,V,μ,ω,a,w,K,hS,h,hq=>hq s V μ ω a w h hS
 | o :: rest,s,V,μ,ω,a,w,K,hS,h,hq=>by
  simp only[vops] at h
  unfold wpList
  rcases wantK_sound hS h with⟨hw,s1,h,hS⟩|⟨hw,s1,h,hS⟩
  . rw[if_pos hw]
    refine .inl (vop_sound hT hS h _ _ fun d v s2 V2 μ2 ω2 w2 hk hr hS2 _=>?_)
    obtain⟨s3,h,hS3⟩:=putK_sound hS2 hr hk
    exact vops_sound hT rest s3 _ _ _ _ _ K hS3 h hq
  . rw[if_neg (by rw[hw];simp)]
    obtain⟨s3,h,hS3⟩:=putK_sound hS (v:=undef) (d:=.tup []) (RS.tup [] #[] rfl (fun j v d h=>by simp at h)) h
    exact vops_sound hT rest s3 _ _ _ _ _ K hS3 h hq
theorem Ok.region(hT:TOk P T){s:St}{Q:Exit->St->Prop}{id:Nat}{l:List Oper}(h:vops P T l l s (Q .normal)):Ok P T (.region id l.toArray false) Q s:=by
 refine⟨fun w0 V0 V μ ω a w hS=>?_⟩
 refine wp_region_lit ?_
 exact vops_sound hT l s V μ ω a w _ hS h fun s' V' μ' ω' a' w' hk hS'=>⟨s',V',μ',ω',hk,hS'⟩
end
end Go.Vx
namespace Go.Vx
open Go.RowKit
def gath1(ti:Option TI)(row acc:Rows)(d:D)(K:Rows->Rows->D->Prop):Prop:=
 match d with
 | .own r m=>match row[r]? with
  | some (some x)=>setK row r none fun row=>snocK acc (some x) fun acc'=>natLit acc.length fun k=>K row acc' (.own k m)
  | _=>False
 | d=>norm1 ti d fun d=>K row acc d
def gathL(T:Tab)(e:TypeId):Nat->Rows->Rows->List D->(Rows->Rows->List D->Prop)->Prop
 | _,row,acc,[],K=>K row acc []
 | j,row,acc,d :: r,K=>gath1 (cellTI T e j) row acc d fun row acc d=>gathL T e (j+1) row acc r fun row acc r=>K row acc (d :: r)
def gath(T:Tab)(t:TypeId)(row acc:Rows)(d:D)(K:Rows->Rows->D->Prop):Prop:=
 match d with
 | .agg cs=>gathL T t 0 row acc cs fun row acc cs=>K row acc (.agg cs)
 | d=>gath1 (T t) row acc d K
def gaths(T:Tab):Rows->Rows->List TypeId->List D->(Rows->List D->Prop)->Prop
 | row,acc,t :: ts,d :: ds,K=>gath T t row acc d fun row acc d=>gaths T row acc ts ds fun acc ds=>K acc (d :: ds)
 | _,acc,[],[],K=>K acc []
 | _,_,_,_,_=>False
def nilOwn(T:Tab):List TypeId->List D->Rows->(Rows->List D->Prop)->Prop
 | t :: ts,d :: ds,row,K=>match d,T t with
  | .nilS,some ⟨_,_,.slice e,_⟩=>snocK row (some (e,[])) fun row'=>natLit row.length fun r=>nilOwn T ts ds row' fun row ds=>K row (.own r 0 :: ds)
  | d,_=>d.force fun d=>nilOwn T ts ds row fun row ds=>K row (d :: ds)
 | _,[],row,K=>K row []
 | [],_ :: _,_,_=>False
def retK(T:Tab)(fn:Func)(R:D->Rows->Prop)(s:St):Prop:=
 resK T s fn.results.toList fun ds=>
  (pubsK 8 s ds fun ds _=>exposN T fn.resultTypes.toList ds fun es=>R (oneD es) []) \/
  (gaths T s.row [] fn.resultTypes.toList ds fun acc es=>R (oneD es) acc) \/
  (nilOwn T fn.resultTypes.toList ds s.row fun row ds=>gaths T row [] fn.resultTypes.toList ds fun acc es=>R (oneD es) acc)
def endQ(T:Tab)(fn:Func)(R:D->Rows->Prop):Exit->St->Prop
 | .normal,s=>retK T fn R s
 | .ret,s=>retK T fn R s
 | _,_=>False
section
variable {w0 w w' : World} {V0 : Fr} {V : Vw} {μ : List Nat} {ω : List Value} {box : List (List D)} {row : Rows} {s : St} {a : Act} {P : Program} {T : Tab}
structure Pick(ω:List Value)(row0 row:Rows)(ω0:List Value)(acc:Rows)(f:Nat->Nat):Prop where
 len:ω0.length=acc.length
 val:∀ k,k<acc.length->ω0[k]? = ω[f k]?/\acc[k]? = row0[f k]?/\row[f k]? = some none
 inj:∀ k k',k<acc.length->k' < acc.length->f k=f k'->k=k'
 keep:∀ (r:Nat) x,row[r]? = some (some x)->row0[r]? = some (some x)
theorem Pick.more{row0 row:Rows}{ω0:List Value}{acc:Rows}{f:Nat->Nat}(h:Pick ω row0 row ω0 acc f){r:Nat}{x:TypeId × List (List D)}{v:Value}(hr:row[r]? = some (some x))(hv:ω[r]? = some v) :
    Pick ω row0 (row.set r none) (ω0++[v]) (acc++[some x]) (fun k=>if k=acc.length then r else f k):=by
 have hrl:r<row.length:=(gSm0.1 hr).1
 refine⟨by simp[h.len],fun k hk=>?_,fun k k' hk hk' he=>?_,fun q y hq=>?_⟩
 . by_cases hk2:k=acc.length
   . subst hk2
     simp only[if_true]
     refine⟨?_,?_,List.getElem?_set_self hrl⟩
     . rw[<- h.len,List.getElem?_append_right (Nat.le_refl _)];simp[hv]
     . rw[List.getElem?_append_right (Nat.le_refl _)];simp[h.keep r x hr]
   . have hk3:k<acc.length:=by simp at hk;omega
     simp only[if_neg hk2]
     obtain⟨h1,h2,h3⟩:=h.val k hk3
     refine⟨by rw[List.getElem?_append_left (by rw[h.len];exact hk3)];exact h1,by rw[List.getElem?_append_left hk3];exact h2,?_⟩
     by_cases hfr:f k=r
     . rw[hfr];exact List.getElem?_set_self hrl
     . rw[List.getElem?_set_ne (Ne.symm hfr)];exact h3
 . have hne:∀ k,k<acc.length->f k ≠ r:=fun k hk e=>by
     have:=(h.val k hk).2.2
     rw[e,hr] at this
     cases this
   simp at hk hk'
   by_cases h1:k=acc.length<;>by_cases h2:k'=acc.length
   . omega
   . rw[if_pos h1,if_neg h2] at he;exact absurd he.symm (hne k' (by omega))
   . rw[if_neg h1,if_pos h2] at he;exact absurd he (hne k (by omega))
   . rw[if_neg h1,if_neg h2] at he;exact h.inj k k' (by omega) (by omega) he
 . by_cases hqr:q=r
   . subst hqr;rw[List.getElem?_set_self hrl] at hq;cases hq
   . rw[List.getElem?_set_ne (Ne.symm hqr)] at hq;exact h.keep q y hq
theorem gath1_sound{ti:Option TI}{row0 row:Rows}{ω0:List Value}{acc:Rows}{f:Nat->Nat}(hp:Pick ω row0 row ω0 acc f){d:D}{v:Value}{K:Rows->Rows->D->Prop}
    (hv:RS (szOf T) V μ ω v d)(h:gath1 ti row acc d K) :
    ∃ row' acc' d' ω0' f',K row' acc' d'/\Pick ω row0 row' ω0' acc' f'/\Pre ω0 ω0'/\RS (szOf T) V [] ω0' v d':=by
 unfold gath1 at h
 split at h
 . rename_i r m
   split at h
   case h_2=>exact h.elim
   rename_i x hr
   obtain⟨_,h⟩:=setK_iff _ _ _ _ h
   simp only[snocK_eq,natLit_eq] at h
   obtain⟨A,N,c,hω,hn,rfl⟩:=hv.own_
   refine⟨_,_,_,_,_,h,hp.more hr hω,.append _ _,.own _ m A N c ?_ hn⟩
   rw[<- hp.len,List.getElem?_append_right (Nat.le_refl _)]
   simp
 . obtain⟨d',hk,hd⟩:=norm1_sound hv h
   exact⟨row,acc,d',ω0,f,hk,hp,.refl _,.imm _ _ hd⟩
theorem Pre.trans{α:Type}{l m n:List α}(h:Pre l m)(h':Pre m n):Pre l n:=fun i x hx=>h' i x (h i x hx)
theorem gathL_sound{e:TypeId}{row0:Rows}:∀ (cs:List D) (j:Nat) (row acc:Rows) (ω0:List Value) (f:Nat->Nat) (vs:List Value) (K:Rows->Rows->List D->Prop),Pick ω row0 row ω0 acc f ->
    Vals (szOf T) V μ ω vs cs->gathL T e j row acc cs K->∃ row' acc' ds ω0' f',K row' acc' ds/\Pick ω row0 row' ω0' acc' f'/\Pre ω0 ω0'/\Vals (szOf T) V [] ω0' vs ds
 | [],j,row,acc,ω0,f,vs,K,hp,hv,h=>⟨row,acc,[],ω0,f,h,hp,.refl _,by simpa using hv.1,by simp⟩
 | c :: cs,j,row,acc,ω0,f,[],K,hp,hv,h=>by have:=hv.1;simp at this
 | c :: cs,j,row,acc,ω0,f,v :: vs,K,hp,hv,h=>by
  simp only[gathL] at h
  obtain⟨row1,acc1,d,ω1,f1,h,hp1,hpre,hd⟩:=gath1_sound hp (hv.2 0 v c rfl rfl) h
  obtain⟨row2,acc2,ds,ω2,f2,h,hp2,hpre2,hds⟩:=gathL_sound cs (j+1) row1 acc1 ω1 f1 vs _ hp1 ⟨by simpa using hv.1,fun j v d h1 h2=>hv.2 (j+1) v d (by simpa using h1) (by simpa using h2)⟩ h
  refine⟨row2,acc2,d :: ds,ω2,f2,h,hp2,hpre.trans hpre2,by simp[hds.1],fun j u x h1 h2=>?_⟩
  cases j with
  | zero=>simp only[List.getElem?_cons_zero,Option.some.injEq] at h1 h2;subst h1 h2;exact hd.mono (.refl V) (.refl _) hpre2
  | succ j=>exact hds.2 j u x (by simpa using h1) (by simpa using h2)
theorem gath_sound{t:TypeId}{row0 row:Rows}{ω0:List Value}{acc:Rows}{f:Nat->Nat}(hp:Pick ω row0 row ω0 acc f){d:D}{v:Value}{K:Rows->Rows->D->Prop}
    (hv:RS (szOf T) V μ ω v d)(h:gath T t row acc d K) :
    ∃ row' acc' d' ω0' f',K row' acc' d'/\Pick ω row0 row' ω0' acc' f'/\Pre ω0 ω0'/\RS (szOf T) V [] ω0' v d':=by
 unfold gath at h
 split at h
 . obtain⟨vs,rfl,hs,ho,hR⟩:=hv.agg_
   obtain⟨row2,acc2,ds,ω2,f2,h,hp2,hpre2,hds⟩:=gathL_sound _ 0 row acc ω0 f vs.toList _ hp ⟨by simpa using hs,fun j v d h1 h2=>hR j v d (by simpa using h1) h2⟩ h
   exact⟨row2,acc2,_,ω2,f2,h,hp2,hpre2,.agg _ _ (by have:=hds.1;simpa using this) ho fun j v d h1 h2=>hds.2 j v d (by simpa using h1) h2⟩
 . exact gath1_sound hp hv h
theorem gaths_sound{row0:Rows}:∀ (ts:List TypeId) (ds:List D) (row acc:Rows) (ω0:List Value) (f:Nat->Nat) (vs:List Value) (K:Rows->List D->Prop),Pick ω row0 row ω0 acc f ->
    Vals (szOf T) V μ ω vs ds->gaths T row acc ts ds K->∃ row' acc' es ω0' f',K acc' es/\Pick ω row0 row' ω0' acc' f'/\Pre ω0 ω0'/\Vals (szOf T) V [] ω0' vs es
 | [],[],row,acc,ω0,f,vs,K,hp,hv,h=>⟨row,acc,[],ω0,f,h,hp,.refl _,by simpa using hv.1,by simp⟩
 | t :: ts,[],row,acc,ω0,f,vs,K,hp,hv,h=>h.elim
 | [],d :: ds,row,acc,ω0,f,vs,K,hp,hv,h=>h.elim
 | t :: ts,d :: ds,row,acc,ω0,f,[],K,hp,hv,h=>by have:=hv.1;simp at this
 | t :: ts,c :: cs,row,acc,ω0,f,v :: vs,K,hp,hv,h=>by
  simp only[gaths] at h
  obtain⟨row1,acc1,d,ω1,f1,h,hp1,hpre,hd⟩:=gath_sound hp (hv.2 0 v c rfl rfl) h
  obtain⟨row2,acc2,ds,ω2,f2,h,hp2,hpre2,hds⟩:=gaths_sound ts cs row1 acc1 ω1 f1 vs _ hp1 ⟨by simpa using hv.1,fun j v d h1 h2=>hv.2 (j+1) v d (by simpa using h1) (by simpa using h2)⟩ h
  refine⟨row2,acc2,d :: ds,ω2,f2,h,hp2,hpre.trans hpre2,by simp[hds.1],fun j u x h1 h2=>?_⟩
  cases j with
  | zero=>simp only[List.getElem?_cons_zero,Option.some.injEq] at h1 h2;subst h1 h2;exact hd.mono (.refl V) (.refl _) hpre2
  | succ j=>exact hds.2 j u x (by simpa using h1) (by simpa using h2)
theorem Pick.start(ω:List Value)(row:Rows):Pick ω row row [] [] id:=⟨rfl,by simp,by simp,fun _ _ h=>h⟩
theorem Res.of_mem{V':Vw}(h:Mem (szOf T) w V0 V' μ ω box row w'){ω0:List Value}{acc row1:Rows}{f:Nat->Nat}(hp:Pick ω row row1 ω0 acc f):Res (szOf T) V0.V V' ω0 acc w w':=by
 have back:∀ (k:Nat) v x,ω0[k]? = some v->acc[k]? = some (some x)->ω[f k]? = some v/\row[f k]? = some (some x)/\k<acc.length:=by
  intro k v x h1 h2
  have hk:k<acc.length:=(gSm0.1 h2).1
  obtain⟨a1,a2,_⟩:=hp.val k hk
  exact⟨by rw[<- a1];exact h1,by rw[<- a2];exact h2,hk⟩
 refine⟨h.below,h.vle,h.vok,h.vold,hp.len,?_,?_,?_⟩
 . intro r v e xs h1 h2
   obtain⟨b1,b2,_⟩:=back r v _ h1 h2
   exact h.hrow _ v e xs b1 b2
 . intro r r' v v' x x' g h1 h2 h3 h4 h5 h6
   obtain⟨b1,b2,b3⟩:=back r v x h1 h2
   obtain⟨c1,c2,c3⟩:=back r' v' x' h3 h4
   have:=h.uniq (.inr (f r)) (.inr (f r')) g ⟨v,x,b1,b2,h5⟩ ⟨v',x',c1,c2,h6⟩
   simp at this
   exact hp.inj r r' b3 c3 this
 . intro p u r v x h1 h2 h3 h4
   obtain⟨b1,b2,_⟩:=back r v x h2 h3
   exact h.vmut p u (.inr (f r)) h1 ⟨v,x,b1,b2,h4⟩
theorem Mem.start(hV:VOk V w):Mem (szOf T) w ⟨V,fun _=>undef,[],[],[]⟩ V [] [] [] [] w:=
 ⟨Below.refl _ _,hV,VLe.refl V,fun _ _=>rfl,rfl,by simp,rfl,by simp,
  fun l l' g h1 _=>by cases l<;>simp[Own] at h1,fun l g h1=>by cases l<;>simp[Own] at h1,fun p u l _ h1=>by cases l<;>simp[Own] at h1,fun x hx=>by cases hx⟩
theorem nilOwn_sound{F:Fr}:∀ (ts:List TypeId) (ds:List D) (vs:List Value) (ω:List Value) (row:Rows) (K:Rows->List D->Prop),Mem (szOf T) w0 F V μ ω box row w->Vals (szOf T) V μ ω vs ds->nilOwn T ts ds row K ->
    ∃ ω' row' ds',K row' ds'/\Pre ω ω'/\Mem (szOf T) w0 F V μ ω' box row' w/\Vals (szOf T) V μ ω' vs ds'
 | ts,[],vs,ω,row,K,hM,hv,h=>⟨ω,row,[],by cases ts<;>exact h,.refl _,hM,hv⟩
 | [],d :: ds,vs,ω,row,K,hM,hv,h=>h.elim
 | t :: ts,d :: ds,[],ω,row,K,hM,hv,h=>by have:=hv.1;simp at this
 | t :: ts,d :: ds,v :: vs,ω,row,K,hM,hv,h=>by
  have htl:Vals (szOf T) V μ ω vs ds:=⟨by simpa using hv.1,fun j v d h1 h2=>hv.2 (j+1) v d (by simpa using h1) (by simpa using h2)⟩
  have hd:=hv.2 0 v d rfl rfl
  simp only[nilOwn] at h
  split at h
  . simp only[snocK_eq,natLit_eq] at h
    rename_i e _ _
    have hM2:=hM.newRow (w':=w) (Ext.refl w) (v:=.slice none 0 0) (e:=e) (xs:=[]) (vals:=[]) ⟨by simp,.inl ⟨rfl,rfl⟩⟩ ⟨by simp,by simp,by simp⟩ (by simp[Value.ownBlock])
    obtain⟨ω',row',ds',hk,hp,hM',hv'⟩:=nilOwn_sound ts ds vs _ _ _ hM2 ⟨htl.1,fun j v d a b=>(htl.2 j v d a b).mono (.refl V) (.refl μ) (.append _ _)⟩ h
    refine⟨ω',row',_,hk,(Pre.append _ _).trans hp,hM',by simp[hv'.1],fun j u x h1 h2=>?_⟩
    cases j with
    | zero=>
     simp only[List.getElem?_cons_zero,Option.some.injEq] at h1 h2
     subst h1 h2
     rw[hd.nilS_]
     refine .own _ 0 none 0 0 (hp _ _ ?_) (Nat.le_refl _)
     rw[hM.rl.symm,List.getElem?_append_right (Nat.le_refl _)]
     simp
    | succ j=>exact hv'.2 j u x (by simpa using h1) (by simpa using h2)
  . rw[D.force_eq] at h
    obtain⟨ω',row',ds',hk,hp,hM',hv'⟩:=nilOwn_sound ts ds vs _ _ _ hM htl h
    refine⟨ω',row',_,hk,hp,hM',by simp[hv'.1],fun j u x h1 h2=>?_⟩
    cases j with
    | zero=>
     simp only[List.getElem?_cons_zero,Option.some.injEq] at h1 h2
     subst h1 h2
     exact hd.mono (.refl V) (.refl μ) hp
    | succ j=>exact hv'.2 j u x (by simpa using h1) (by simpa using h2)
theorem FSpec.of_run(hT:TOk P T){f:FuncId}{fn:Func}{c:Code}(hf:P.funcs[f]? = some fn)(hb:fn.body=some c)(hcall:∀ args w,(callFunc f args).run P w = .ok (.enter f args) w){ds:List D}{R:D->Rows->Prop}(hn:ds.length<=fn.ntmps)
    (h:∀ (w:World) (V:Vw) (a:Act),Sim (szOf T) w ⟨V,fun _=>undef,[],[],[]⟩ V [] [] ⟨envOf 0 ds,[],[],fn.ntmps⟩ a w ->
     c.wp P (fun e a' w'=>∃ s' V' μ' ω',endQ T fn R e s'/\Sim (szOf T) w ⟨V,fun _=>undef,[],[],[]⟩ V' μ' ω' s' a' w') a w):FSpec P T f ds R:=by
 refine⟨hcall,fun V w args hV hl hR=>calls_of_wpM hf hb ?_⟩
 have hS:Sim (szOf T) w ⟨V,fun _=>undef,[],[],[]⟩ V [] [] ⟨envOf 0 ds,[],[],fn.ntmps⟩ { tmps:=args++Array.replicate (fn.ntmps - args.size) undef,defers:=[] } w:=by
  refine⟨by simp;omega,.start,fun t=>?_,Mem.start hV⟩
  show RS _ _ _ _ (slotV _ fn.ntmps _ t) (look (envOf 0 ds) t)
  rw[look_envOf,if_pos (Nat.zero_le _),Nat.sub_zero]
  unfold slotV
  split
  case isFalse hge=>
   rw[List.getD,List.getElem?_eq_none (by omega)]
   exact .imm _ _ (.u _)
  show RS _ _ _ _ ((args++Array.replicate (fn.ntmps - args.size) undef).getD t undef) _
  by_cases ht:t<ds.length
  . have hta:t<args.size:=by omega
    have hd:=gEt0 ht
    have ha:=Array.getElem?_eq_getElem hta
    have:=hR t _ _ ha hd
    have e1:(args++Array.replicate (fn.ntmps - args.size) undef).getD t undef=args[t]:=by
     simp[Array.getD,hta]
     omega
    rw[e1]
    simp only[List.getD,hd,Option.getD_some]
    exact .imm _ _ this
  . rw[List.getD,List.getElem?_eq_none (by omega)]
    exact .imm _ _ (.u _)
 refine wp_mono (h w V _ hS) ?_
 rintro e a' w' ⟨s',V',μ',ω',hq,hS'⟩
 have fin:retK T fn R s'->LeavesInM Fence.wide 0 P fn a'.tmps (fun e w'=>∃ V' ω row v' d,e = .returned v'/\R d row/\RS (szOf T) V' [] ω v' d/\Res (szOf T) V V' ω row w w') a'.defers .returning w':=by
  intro hr
  obtain⟨ms',e1,e2,e3,hS'⟩:=hS'.shut
  rw[e1]
  have e4:ms'.map mkD++[]=ms'.map mkD:=List.append_nil _
  show LeavesInM _ _ _ _ _ _ (ms'.map mkD++[]) _ _
  rw[e4]
  refine leavesM (by simp) ms' w' e2 e3 ?_
  obtain⟨vs,ds',hk,hv,hrun⟩:=resK_sound hT hS' _ _ hr
  refine⟨if h:vs.toArray.size=1 then vs.toArray[0] else .tuple vs.toArray,?_,?_⟩
  . rw[results_eq,Array.mapM_eq_mapM_toList]
    dsimp only at hrun
    simp only[Sem.run_bind,Sem.run_map,hrun,Result.andThen_ok,Sem.run_pure]
  . rcases hk with hk|hk|hk
    . obtain⟨V1,ds1,s1,hk,hv1,hS1,_⟩:=pubsK_sound 8 hS' hv hk
      obtain⟨es,hk,hes,hri⟩:=exposN_sound _ _ _ _ hv1 hk
      refine⟨V1,[],[],_,_,rfl,hk,oneD_rel ⟨by rw[hv1.1,hes],fun j v d h1 h2=>.imm _ _ (hri j v d h1 h2)⟩,?_⟩
      exact Res.of_mem hS1.mem (Pick.start _ _)
    . obtain⟨row1,acc,es,ω0,f0,hk,hp,_,hes⟩:=gaths_sound _ _ _ _ _ _ _ _ (Pick.start _ _) hv hk
      exact⟨V',ω0,acc,_,_,rfl,hk,oneD_rel hes,Res.of_mem hS'.mem hp⟩
    . obtain⟨ω1,row0,ds1,hk,_,hM1,hv1⟩:=nilOwn_sound _ _ _ _ _ _ hS'.mem hv hk
      obtain⟨row1,acc,es,ω0,f0,hk,hp,_,hes⟩:=gaths_sound _ _ _ _ _ _ _ _ (Pick.start _ _) hv1 hk
      exact⟨V',ω0,acc,_,_,rfl,hk,oneD_rel hes,Res.of_mem hM1 hp⟩
 cases e<;>simp only[endQ] at hq
 . exact fin hq
 . exact fin hq
theorem FSpec.of_ok(hT:TOk P T){f:FuncId}{fn:Func}{c:Code}(hf:P.funcs[f]? = some fn)(hb:fn.body=some c)(hcall:∀ args w,(callFunc f args).run P w = .ok (.enter f args) w){ds:List D}{R:D->Rows->Prop}(hn:ds.length<=fn.ntmps)
    (h:Ok P T c (endQ T fn R) ⟨envOf 0 ds,[],[],fn.ntmps⟩):FSpec P T f ds R:=
 .of_run hT hf hb hcall hn fun w V a hS=>h.run w _ V [] [] a w hS
end
end Go.Vx
namespace Go.Vx
open Go.RowKit
def fit0(k kb:Nat):D->Bool
 | .own r _=>Nat.blt r k
 | .op r _ _ _=>Nat.blt r k
 | .bp i _=>Nat.blt i kb
 | .agg _=>false
 | .tup _=>false
 | .fnh ..=>false
 | .osl ..=>false
 | .tie r _ _ _=>Nat.blt r k
 | _=>true
def fitL0(k kb:Nat):List D->Bool
 | []=>true
 | d :: r=>match fit0 k kb d with|true=>fitL0 k kb r|false=>false
def fit1(k kb:Nat):D->Bool
 | .fnh _ x y=>fitL0 k kb x && fitL0 k kb y
 | d=>fit0 k kb d
def fitL(k kb:Nat):List D->Bool
 | []=>true
 | d :: r=>match fit1 k kb d with|true=>fitL k kb r|false=>false
def fitD(k kb:Nat):D->Bool
 | .agg cs=>fitL k kb cs
 | .tup cs=>fitL k kb cs
 | d=>fit1 k kb d
def keepE(k kb:Nat)(env:List (Nat × D)):List Nat->(List (Nat × D)->Prop)->Prop
 | [],K=>K []
 | t :: ts,K=>(look env t).force fun d=>boolP (fitD k kb d) <| keepE k kb env ts fun r=>K ((t,d) :: r)
def fitB(k kb:Nat):List (List D)->Bool
 | []=>true
 | c :: r=>match fitL k kb c with|true=>fitB k kb r|false=>false
def takeK{α:Type}:Nat->List α->(List α->Prop)->Prop
 | 0,_,K=>K []
 | k+1,x :: l,K=>takeK k l fun r=>K (x :: r)
 | _+1,[],K=>K []
theorem takeK_iff{α:Type}:∀ {k:Nat} {l:List α} {K:List α->Prop},takeK k l K->K (l.take k)/\True
 | 0,l,K,h=>⟨by simpa[takeK] using h,trivial⟩
 | k+1,[],K,h=>⟨h,trivial⟩
 | k+1,x :: l,K,h=>by
  obtain⟨h1,h2⟩:=takeK_iff (k:=k) (l:=l) h
  exact⟨h1,trivial⟩
def keepK(L:List Nat)(k kb:Nat)(s:St)(K:St->Prop):Prop:=
 match s with
 | ⟨env,box,row,n⟩=>keepE k kb env L fun env=>takeK kb box fun box=>boolP (fitB k kb box) <| takeK k row fun row=>K ⟨env,box,row,n⟩
section
variable {w0 w w' : World} {V0 : Fr} {V : Vw} {μ : List Nat} {ω : List Value} {box : List (List D)} {row : Rows} {s : St} {a : Act} {P : Program} {T : Tab} {sz : TypeId → Nat}
theorem blt_lt{a b:Nat}(h:Nat.blt a b=true):a<b:=by
 unfold Nat.blt at h
 rw[Nat.ble_eq] at h
 exact h
theorem RS.fit0{k kb:Nat}{v:Value}{d:D}(h:RS sz V μ ω v d)(hf:fit0 k kb d=true):RS sz V (μ.take kb) (ω.take k) v d:=by
 cases h with
 | imm _ _ hi=>exact .imm _ _ hi
 | own r n A N c hq hn=>exact .own r n A N c (by rw[List.getElem?_take_of_lt (blt_lt hf)];exact hq) hn
 | op r e j off g N c hq=>exact .op r e j off g N c (by rw[List.getElem?_take_of_lt (blt_lt hf)];exact hq)
 | bp i off g hg=>exact .bp i off g (by rw[List.getElem?_take_of_lt (blt_lt hf)];exact hg)
 | agg cs=>simp[Vx.fit0] at hf
 | tup cs=>simp[Vx.fit0] at hf
 | fnh=>simp[Vx.fit0] at hf
 | osl=>simp[Vx.fit0] at hf
 | tie v r g n c hq=>exact .tie v r g n c (by rw[List.getElem?_take_of_lt (blt_lt hf)];exact hq)
theorem fitL0_at{k kb:Nat}:∀ {l:List D},fitL0 k kb l=true->∀ (j:Nat) d,l[j]? = some d->fit0 k kb d=true
 | [],_,j,d,h=>by simp at h
 | c :: l,hf,j,d,h=>by
  simp only[fitL0] at hf
  split at hf
  case h_2=>cases hf
  rename_i hc
  cases j with
  | zero=>simp at h;subst h;exact hc
  | succ j=>exact fitL0_at hf j d (by simpa using h)
theorem RS.fit1{k kb:Nat}{v:Value}{d:D}(h:RS sz V μ ω v d)(hf:fit1 k kb d=true):RS sz V (μ.take kb) (ω.take k) v d:=by
 by_cases hd:∃ f x y,d = .fnh f x y
 . obtain⟨f,x,y,rfl⟩:=hd
   cases h with
   | imm _ _ hi=>cases hi
   | fnh _ _ _ vs us h1 h2 hR1 hR2=>
    simp only[Vx.fit1,Bool.and_eq_true] at hf
    exact .fnh f x y vs us h1 h2 (fun j v d a b=>(hR1 j v d a b).fit0 (fitL0_at hf.1 j d b)) (fun j v d a b=>(hR2 j v d a b).fit0 (fitL0_at hf.2 j d b))
 . refine h.fit0 ?_
   cases d<;>first|exact hf|exact absurd ⟨_,_,_,rfl⟩ hd
theorem fitL_at{k kb:Nat}:∀ {l:List D},fitL k kb l=true->∀ (j:Nat) d,l[j]? = some d->fit1 k kb d=true
 | [],_,j,d,h=>by simp at h
 | c :: l,hf,j,d,h=>by
  simp only[fitL] at hf
  split at hf
  . rename_i hc
    cases j with
    | zero=>simp at h;subst h;exact hc
    | succ j=>exact fitL_at hf j d (by simpa using h)
  . cases hf
theorem RS.fit{k kb:Nat}{v:Value}{d:D}(h:RS sz V μ ω v d)(hf:fitD k kb d=true):RS sz V (μ.take kb) (ω.take k) v d:=by
 cases d with
 | agg cs=>
  obtain⟨vs,rfl,hs,ho,hR⟩:=h.agg_
  exact .agg _ vs hs ho fun j v d h1 h2=>(hR j v d h1 h2).fit1 (fitL_at hf j d h2)
 | tup cs=>
  obtain⟨vs,rfl,hs,hR⟩:=h.tup_
  exact .tup _ vs hs fun j v d h1 h2=>(hR j v d h1 h2).fit1 (fitL_at hf j d h2)
 | _=>exact h.fit1 hf
theorem fitB_at{k kb:Nat}:∀ {l:List (List D)},fitB k kb l=true->∀ (j:Nat) c,l[j]? = some c->fitL k kb c=true
 | [],_,j,d,h=>by simp at h
 | c :: l,hf,j,d,h=>by
  simp only[fitB] at hf
  split at hf
  . rename_i hc
    cases j with
    | zero=>simp at h;subst h;exact hc
    | succ j=>exact fitB_at hf j d (by simpa using h)
  . cases hf
theorem take_get{α:Type}{l:List α}{k i:Nat}{x:α}(h:(l.take k)[i]? = some x):l[i]? = some x:=by
 rw[List.getElem?_take] at h
 split at h
 . exact h
 . cases h
theorem Mem.take(h:Mem sz w0 V0 V μ ω box row w){k kb:Nat}(hf:fitB k kb (box.take kb)=true):Mem sz w0 V0 V (μ.take kb) (ω.take k) (box.take kb) (row.take k) w:=by
 have own:∀ l g,Own (μ.take kb) (ω.take k) (row.take k) l g->Own μ ω row l g:=by
  intro l g hl
  cases l with
  | inl i=>exact take_get hl
  | inr r=>
   obtain⟨v,x,h1,h2,h3⟩:=hl
   exact⟨v,x,take_get h1,take_get h2,h3⟩
 refine⟨h.below,h.vok,h.vle,h.vold,by simp[h.bl],?_,by simp[h.rl],?_,fun l l' g h1 h2=>h.uniq l l' g (own l g h1) (own l' g h2),fun l g h1=>h.new l g (own l g h1),fun p u l hp h1=>h.vmut p u l hp (own l _ h1),fun x hx=>let ⟨a,b,c,d⟩:=h.away x hx;⟨a,b,fun l hl=>c l (own l _ hl),d⟩⟩
 . intro i g cs h1 h2
   obtain⟨us,t',a,b,c',d,ty⟩:=h.hbox i g cs (take_get h1) (take_get h2)
   exact⟨us,t',a,b,c',fun j v d' e1 e2=>(d j v d' e1 e2).fit1 (fitL_at (fitB_at hf i cs h2) j d' e2),ty⟩
 . intro r v e xs h1 h2
   exact h.hrow r v e xs (take_get h1) (take_get h2)
theorem keepE_sound{k kb:Nat}(hE:∀ t,RS sz V μ ω (slotV V0 s.n a t) (look s.env t)):∀ (L:List Nat) (K:List (Nat × D)->Prop),keepE k kb s.env L K ->
    ∃ env,K env/\∀ t,RS sz V (μ.take kb) (ω.take k) (slotV V0 s.n a t) (look env t)
 | [],K,h=>⟨[],h,fun _=>.imm _ _ (.u _)⟩
 | t :: ts,K,h=>by
  simp only[keepE,D.force_eq,boolP_iff] at h
  obtain⟨hf,h⟩:=h
  obtain⟨env,hk,hR⟩:=keepE_sound hE ts _ h
  refine⟨_,hk,fun x=>?_⟩
  unfold look
  split
  . rename_i hb
    rw[<- beq_nat_true hb]
    exact (hE t).fit hf
  . exact hR x
theorem keepK_sound{L:List Nat}{k kb:Nat}{K:St->Prop}(hS:Sim sz w0 V0 V μ ω s a w)(h:keepK L k kb s K):∃ s' μ' ω',K s'/\Sim sz w0 V0 V μ' ω' s' a w:=by
 obtain⟨env,box,row,n⟩:=s
 simp only[keepK] at h
 obtain⟨env',h,hR⟩:=keepE_sound (s:=⟨env,box,row,n⟩) hS.env L _ h
 obtain⟨h,_⟩:=takeK_iff h
 rw[boolP_iff] at h
 obtain⟨hf,h⟩:=h
 obtain⟨h,_⟩:=takeK_iff h
 exact⟨_,_,_,h,⟨hS.tmps,hS.defers,hR,hS.mem.take hf⟩⟩
theorem Ok.keep{c:Code}{Q:Exit->St->Prop}(L:List Nat)(k kb:Nat)(h:keepK L k kb s (Ok P T c Q)):Ok P T c Q s:=by
 refine⟨fun w0 V0 V μ ω a w hS=>?_⟩
 obtain⟨s',μ',ω',hk,hS'⟩:=keepK_sound hS h
 exact hk.run w0 V0 V μ' ω' a w hS'
theorem Ok.loopK{c:Code}{Q:Exit->St->Prop}{ι:Type}(L:List Nat)(k kb:Nat)(mk:ι->St)(I:ι->Prop)(m:ι->Nat)(x0:ι)(h0:I x0)(hs:keepK L k kb s (·=mk x0))
    (round:∀ x,I x->Ok P T c (thenQ (fun s'=>∃ x',m x' < m x/\I x'/\keepK L k kb s' (·=mk x')) Q) (mk x)):Ok P T (.loop c) Q s:=by
 refine⟨fun w0 V0 V μ ω a w hS=>?_⟩
 obtain⟨s',μ',ω',rfl,hS'⟩:=keepK_sound hS hs
 refine wp_loop_at (fun n a w=>∃ x V μ ω,m x=n/\I x/\Sim (szOf T) w0 V0 V μ ω (mk x) a w) ?_ ⟨x0,V,μ',ω',rfl,h0,hS'⟩
 rintro n a w ⟨x,V,μ,ω,rfl,hI,hS⟩
 refine wp_mono ((round x hI).run w0 V0 V μ ω a w hS) ?_
 rintro e a' w' ⟨s',V',μ',ω',hk,hS'⟩
 cases e with
 | normal=>
  obtain⟨x',hlt,hI',hk⟩:=hk
  obtain⟨s2,μ2,ω2,rfl,hS2⟩:=keepK_sound hS' hk
  exact⟨m x',hlt,x',V',μ2,ω2,rfl,hI',hS2⟩
 | _=>exact⟨s',V',μ',ω',hk,hS'⟩
theorem Ok.joinK{c:Code}{Q:Exit->St->Prop}{ι:Type}(L:List Nat)(k kb:Nat)(mk:ι->St)(I:Exit->ι->Prop)
    (h1:Ok P T c (fun e s'=>∃ x,I e x/\keepK L k kb s' (·=mk x)) s)(h2:∀ e x,I e x->Q e (mk x)):Ok P T c Q s:=by
 refine⟨fun w0 V0 V μ ω a w hS=>wp_mono (h1.run w0 V0 V μ ω a w hS) ?_⟩
 rintro e a' w' ⟨s',V',μ',ω',⟨x,hI,hk⟩,hS'⟩
 obtain⟨s2,μ2,ω2,rfl,hS2⟩:=keepK_sound hS' hk
 exact⟨_,V',μ2,ω2,h2 e x hI,hS2⟩
theorem Ok.seqK{c1 c2:Code}{Q:Exit->St->Prop}{ι:Type}(L:List Nat)(k kb:Nat)(mk:ι->St)(I:ι->Prop)
    (h1:Ok P T c1 (thenQ (fun s'=>∃ x,I x/\keepK L k kb s' (·=mk x)) Q) s)(h2:∀ x,I x->Ok P T c2 Q (mk x)):Ok P T (.seq c1 c2) Q s:=by
 refine Ok.seq (h1.mono ?_)
 intro e s' h
 cases e with
 | normal=>
  obtain⟨x,hI,hk⟩:=h
  refine Ok.keep L k kb ?_
  have:∀ s'',s''=mk x->Ok P T c2 Q s'':=fun s'' e=>by rw[e];exact h2 x hI
  revert hk
  clear h1 h2
  obtain⟨env,box,row,n⟩:=s'
  simp only[keepK]
  intro hk
  revert hk
  generalize hK1:(fun env=>takeK kb box fun box=>boolP (fitB k kb box) <| takeK k row fun row=>(⟨env,box,row,n⟩:St)=mk x)=K1
  generalize hK2:(fun env=>takeK kb box fun box=>boolP (fitB k kb box) <| takeK k row fun row=>Ok P T c2 Q ⟨env,box,row,n⟩)=K2
  have hmono:∀ e,K1 e->K2 e:=by
   subst hK1 hK2
   intro e h
   obtain⟨h,hb⟩:=takeK_iff h
   rw[boolP_iff] at h
   obtain⟨hf,h⟩:=h
   obtain⟨h,hr⟩:=takeK_iff h
   have t2:takeK k row fun row=>Ok P T c2 Q ⟨e,box.take kb,row,n⟩:=by
    have back:∀ (k:Nat) (l:Rows) (K:Rows->Prop),True->K (l.take k)->takeK k l K:=by
     intro k
     induction k with
     | zero=>intro l K _ h;simpa[takeK] using h
     | succ k ih=>
      intro l K hl h
      cases l with
      | nil=>exact h
      | cons y l=>exact ih l _ trivial h
    exact back k row _ hr (this _ h)
   have back:∀ (k:Nat) (l:List (List D)) (K:List (List D)->Prop),True->K (l.take k)->takeK k l K:=by
    intro k
    induction k with
    | zero=>intro l K _ h;simpa[takeK] using h
    | succ k ih=>
     intro l K hl h
     cases l with
     | nil=>exact h
     | cons y l=>exact ih l _ trivial h
   exact back kb box _ hb (boolP_iff.2 ⟨hf,t2⟩)
  clear hK1 hK2 this
  have key:∀ (L:List Nat) (K1 K2:List (Nat × D)->Prop),(∀ e,K1 e->K2 e)->keepE k kb env L K1->keepE k kb env L K2:=by
   intro L
   induction L with
   | nil=>intro K1 K2 h hk;exact h _ hk
   | cons t ts ih=>
    intro K1 K2 h hk
    simp only[keepE,D.force_eq,boolP_iff] at hk ⊢
    exact⟨hk.1,ih _ _ (fun e he=>h _ he) hk.2⟩
  exact key L K1 K2 hmono
 | _=>exact h
theorem Ok.ghost{c:Code}{Q:Exit->St->Prop}(t:Nat)(e:TypeId){env:List (Nat × D)}{box:List (List D)}{row:Rows}{n:Nat}(ht:look env t = .nilS)
    (h:snocK row (some (e,[])) fun row'=>natLit row.length fun r=>Ok P T c Q ⟨(t,.own r 0) :: env,box,row',n⟩):Ok P T c Q ⟨env,box,row,n⟩:=by
 refine⟨fun w0 V0 V μ ω a w hS=>?_⟩
 simp only[snocK_eq,natLit_eq] at h
 have hM:=hS.mem.newRow (w':=w) (Ext.refl w) (v:=.slice none 0 0) (e:=e) (xs:=[]) (vals:=[]) ⟨by simp,.inl ⟨rfl,rfl⟩⟩ ⟨by simp,by simp,by simp⟩ (by simp[Value.ownBlock])
 have hv:=hS.env t
 dsimp only at hv
 rw[ht] at hv
 refine h.run w0 V0 V μ (ω++[.slice none 0 0]) a w ⟨hS.tmps,hS.defers,fun x=>?_,hM⟩
 show RS _ _ _ _ _ (look ((t,.own row.length 0) :: env) x)
 unfold look
 split
 . rename_i hb
   rw[<- beq_nat_true hb,hv.nilS_]
   have hl:row.length=ω.length:=hS.mem.rl.symm
   refine .own _ 0 none 0 0 ?_ (Nat.le_refl _)
   rw[hl,List.getElem?_append_right (Nat.le_refl _)]
   simp
 . exact (hS.env x).mono (.refl V) (.refl μ) (.append _ _)
theorem Ok.ghostB{c:Code}{Q:Exit->St->Prop}(i j:Nat)(e:TypeId){env:List (Nat × D)}{box:List (List D)}{cs:List D}{row:Rows}{n:Nat}(hi:box[i]? = some cs)(hj:cs[j]? = some .nilS)
    (h:snocK row (some (e,[])) fun row'=>natLit row.length fun r=>setK cs j (.own r 0) fun cs'=>setK box i cs' fun box'=>Ok P T c Q ⟨env,box',row',n⟩):Ok P T c Q ⟨env,box,row,n⟩:=by
 refine⟨fun w0 V0 V μ ω a w hS=>?_⟩
 simp only[snocK_eq,natLit_eq] at h
 obtain⟨hjl,h⟩:=setK_iff _ _ _ _ h
 obtain⟨hil,h⟩:=setK_iff _ _ _ _ h
 have hM:=hS.mem.newRow (w':=w) (Ext.refl w) (v:=.slice none 0 0) (e:=e) (xs:=[]) (vals:=[]) ⟨by simp,.inl ⟨rfl,rfl⟩⟩ ⟨by simp,by simp,by simp⟩ (by simp[Value.ownBlock])
 have hl:row.length=ω.length:=hS.mem.rl.symm
 have hown:RS (szOf T) V μ (ω++[.slice none 0 0]) (.slice none 0 0) (.own row.length 0):=by
  refine .own _ 0 none 0 0 ?_ (Nat.le_refl _)
  rw[hl,List.getElem?_append_right (Nat.le_refl _)]
  simp
 refine h.run w0 V0 V μ (ω++[.slice none 0 0]) a w ⟨hS.tmps,hS.defers,fun x=>(hS.env x).mono (.refl V) (.refl μ) (.append _ _),?_⟩
 refine⟨hM.below,hM.vok,hM.vle,hM.vold,by simpa using hM.bl,?_,hM.rl,hM.hrow,hM.uniq,hM.new,hM.vmut,hM.away⟩
 intro q g cs2 h1 h2
 by_cases hq:q=i
 . subst hq
   rw[List.getElem?_set_self hil] at h2
   cases h2
   obtain⟨us,t',a1,b,c',d,ty⟩:=hM.hbox q g cs h1 hi
   refine⟨us,t',a1,by simpa using b,c',fun k v d' e1 e2=>?_,bTy_set ty j rfl⟩
   by_cases hk:k=j
   . subst hk
     rw[List.getElem?_set_self hjl] at e2
     cases e2
     have:=d k v _ e1 hj
     rw[this.nilS_]
     exact hown
   . rw[List.getElem?_set_ne (Ne.symm hk)] at e2
     exact d k v d' e1 e2
 . rw[List.getElem?_set_ne (Ne.symm hq)] at h2
   exact hM.hbox q g cs2 h1 h2
def setInK(box:List (List D))(i j:Nat)(d:D)(K:List (List D)->Prop):Prop:=match box[i]? with|some cs=>setK cs j d fun cs=>setK box i cs K|none=>False
theorem Ok.trunc{c:Code}{Q:Exit->St->Prop}(i j r:Nat){m:Nat}{e:TypeId}{xs:List (List D)}{env:List (Nat × D)}{box:List (List D)}{cs:List D}{row:Rows}{n:Nat}(hi:box[i]? = some cs)(hj:cs[j]? = some (.own r m))
    (hr:row[r]? = some (some (e,xs)))(ys:List (List D))(hy:ys=xs.take m)
    (h:subE r (fun _=>.u) env fun env=>subB r (fun _=>.u) box fun box=>setInK box i j (.own r m) fun box=>setK row r (some (e,ys)) fun row=>Ok P T c Q ⟨env,box,row,n⟩):Ok P T c Q ⟨env,box,row,n⟩:=by
 refine⟨fun w0 V0 V μ ω a w hS=>?_⟩
 subst hy
 simp only[subE_eq,subB_eq,setInK] at h
 split at h
 case h_2=>exact h.elim
 rename_i cs1 hcs1
 simp only[gMp0,Option.map_eq_some_iff] at hcs1
 obtain⟨cs0,hcs0,rfl⟩:=hcs1
 rw[hi] at hcs0
 cases hcs0
 obtain⟨hjl,h⟩:=setK_iff _ _ _ _ h
 obtain⟨hil,h⟩:=setK_iff _ _ _ _ h
 obtain⟨hrl,h⟩:=setK_iff _ _ _ _ h
 have hM0:=hS.mem
 have hil0:i<box.length:=(gSm0.1 hi).1
 obtain⟨g0,hg0⟩:∃ g,μ[i]? = some g:=⟨_,gEt0 (by have:=hM0.bl;dsimp only at this;omega)⟩
 obtain⟨us,t',_,hus,_,hrel,_⟩:=hM0.hbox i g0 cs hg0 hi
 have hjl0:j<us.size:=by rw[hus];exact (gSm0.1 hj).1
 have hcell:=hrel j _ _ (Array.getElem?_eq_getElem hjl0) hj
 obtain⟨A,N,cap,hω,hmN,_⟩:=hcell.own_
 obtain⟨A2,c2,vals,e1,hc,hmx,hA,hA2,hown,hR⟩:=hM0.rowShapeR hω hr
 cases e1
 have hset:∀ q v,q ≠ r->ω[q]? = some v->(ω.set r (.slice A m cap))[q]? = some v:=fun q v hq h=>by rw[List.getElem?_set_ne (Ne.symm hq)];exact h
 have hdead:∀ m' v,RS (szOf T) V μ ω v (.own r m')->RS (szOf T) V μ (ω.set r (.slice A m cap)) v .u:=fun _ v _=>.imm _ _ (.u v)
 have hrω:r<ω.length:=(gSm0.1 hω).1
 have htl:(xs.take m).length=m:=by rw[List.length_take];omega
 have hvl:vals.length=xs.length*szOf T e:=hown.1
 have hms:m*szOf T e<=xs.length*szOf T e:=Nat.mul_le_mul_right _ hmN
 have hM:=hM0.setRowR (w':=w) (v':=.slice A m cap) (e:=e) (ys:=xs.take m) (vals:=vals.take (m*szOf T e)) hω hr ⟨rfl,rfl,rfl,Nat.le_refl _,fun _ _ _=>rfl⟩
  (by
   refine⟨by rw[List.length_take,htl,hvl];omega,?_⟩
   rcases hown.2 with⟨hv,h0⟩|⟨g,cp,cur,e',fz,hv,hb,hg,h5,h6,h7,h8,h9⟩
   . injection hv with hv1 hv2 hv3
     subst hv1 hv3
     exact .inl ⟨by congr 1;omega,by rw[htl];omega⟩
   . injection hv with hv1 hv2 hv3
     subst hv1 hv3
     refine .inr ⟨g,cap,cur,e',fz,by rw[htl],hb,hg,by rw[htl];omega,h6,h7,?_,h9⟩
     rw[htl,<- h8,List.take_take,Nat.min_eq_left hms])
  (by
   refine⟨fun u hu=>hR.one u (List.mem_of_mem_take hu),fun k rw_ hk=>?_,fun k rw_ q d h1 h2=>?_⟩
   . rw[List.getElem?_take] at hk
     split at hk
     . exact hR.len k rw_ hk
     . cases hk
   . rw[List.getElem?_take] at h1
     split at h1
     case isFalse=>cases h1
     rename_i hk
     obtain⟨u,hu,hrs⟩:=hR.rel k rw_ q d h1 h2
     refine⟨u,?_,hrs⟩
     have hq:q<szOf T e:=by rw[<- hR.len k rw_ h1];exact (gSm0.1 h2).1
     rw[List.getElem?_take,if_pos]
     . exact hu
     . have:(k+1)*szOf T e<=m*szOf T e:=Nat.mul_le_mul_right _ hk
       rw[Nat.add_mul] at this
       omega)
  (.inl (by cases A<;>rfl)) (box':=(box.map fun c=>c.map (sub1F r fun _=>.u)).set i ((cs.map (sub1F r fun _=>.u)).set j (.own r m))) (by simp) (by
   intro q cs1 cs2 h1 h2
   have gen:∀ (k:Nat) u d d',cs1[k]? = some d->(cs1.map (sub1F r fun _=>.u))[k]? = some d'->RS (szOf T) V μ ω u d->RS (szOf T) V μ (ω.set r (.slice A m cap)) u d':=by
    intro k u d d' e1 e2 hrs
    simp only[gMp0,Option.map_eq_some_iff] at e2
    obtain⟨d0,hd0,rfl⟩:=e2
    rw[e1] at hd0
    cases hd0
    exact hrs.sub1 (.refl V) hset hdead
   by_cases hq:q=i
   . subst hq
     rw[List.getElem?_set_self hil] at h2
     dsimp only at h1
     rw[hi] at h1
     cases h1
     cases h2
     refine⟨by simp,fun k u d d' e1 e2 hrs=>?_⟩
     by_cases hk:k=j
     . subst hk
       rw[List.getElem?_set_self hjl] at e2
       cases e2
       rw[hj] at e1
       cases e1
       obtain⟨A',N',c',ho,_,rfl⟩:=hrs.own_
       rw[hω] at ho
       cases ho
       exact .own r m A m cap (List.getElem?_set_self hrω) (Nat.le_refl _)
     . rw[List.getElem?_set_ne (Ne.symm hk)] at e2
       exact gen k u d d' e1 e2 hrs
   . rw[List.getElem?_set_ne (Ne.symm hq)] at h2
     simp only[gMp0,Option.map_eq_some_iff] at h2
     obtain⟨c0,hc0,rfl⟩:=h2
     dsimp only at h1
     rw[h1] at hc0
     cases hc0
     exact⟨by simp,gen⟩) (by
   intro q cs1 cs2 h1 h2 t hty
   by_cases hq:q=i
   . subst hq
     rw[List.getElem?_set_self hil] at h2
     dsimp only at h1
     rw[hi] at h1
     cases h1
     cases h2
     exact bTy_set (bTy_sub (fun _=>rfl) hty) j rfl
   . rw[List.getElem?_set_ne (Ne.symm hq)] at h2
     simp only[gMp0,Option.map_eq_some_iff] at h2
     obtain⟨c0,hc0,rfl⟩:=h2
     dsimp only at h1
     rw[h1] at hc0
     cases hc0
     exact bTy_sub (fun _=>rfl) hty)
 refine h.run w0 V0 V μ (ω.set r (.slice A m cap)) a w ⟨hS.tmps,hS.defers,fun t=>?_,hM⟩
 show RS _ _ _ _ _ (look (env.map fun x=>(x.1,subDF r (fun _=>.u) x.2)) t)
 rw[look_sub]
 exact (hS.env t).sub (.refl V) hset hdead
theorem num_in{x:Int}{p:Int->Prop}(h1:-9223372036854775808<=x)(h2:x<=9223372036854775807)(h:p x):∃ n,n=IntKind.i64.wrap x/\p n:=
 ⟨x,by rw[IntKind.wrap_i64];omega,h⟩
theorem nI {x : Int} {p : Int → Prop} (h : p x) (h1 : -9223372036854775808 ≤ x := by omega) (h2 : x ≤ 9223372036854775807 := by omega) : ∃ n, n = IntKind.i64.wrap x ∧ p n := num_in h1 h2 h
theorem num_any{x:Int}{p:Int->Prop}(h:p x):∃ n,n=x/\p n:=⟨x,rfl,h⟩
theorem b_eq{p q:Prop}(h:p ↔ q):D.b p=D.b q:=congrArg D.b (propext h)
end
end Go.Vx
namespace Go.Vx
open Go.RowKit
inductive Bef(ops:Array Oper)(i:Nat):Nat->Prop
 | one {j:Nat} {o:Oper} {e:Edge} (h:ops[j]? = some o) (he:e ∈ o.after) (hb:Region.binds .any e=true) (hi:e.on=i):Bef ops i j
 | more {j:Nat} {o:Oper} {e:Edge} (h:ops[j]? = some o) (he:e ∈ o.after) (hb:Region.binds .any e=true) (h2:Bef ops i e.on):Bef ops i j
def Closed(ops:Array Oper)(L:Array Bool):Prop:=∀ (j:Nat) o,ops[j]? = some o->L.getD j false=true->∀ e ∈ o.after,Region.binds .any e=true->L.getD e.on false=true
theorem Bef.listed{ops:Array Oper}{L:Array Bool}(hc:Closed ops L){i j:Nat}(hb:Bef ops i j) :
    (∀ o,ops[j]? = some o->∀ e ∈ o.after,Region.binds .any e=true->L.getD e.on false=true)->L.getD i false=true:=by
 induction hb with
 | one h he hb hi=>intro hj;rw[<- hi];exact hj _ h _ he hb
 | more h he hb h2 ih=>intro hj;exact ih fun o' ho' e' he' hb'=>hc _ o' ho' (hj _ h _ he hb) e' he' hb'
abbrev Pends:=List (Nat × (World->Prop))
section
variable {P : Program} {ops : Array Oper} {bef : Nat → Nat → Bool} {Q : Exit → Act → World → Prop}
def wpAnyP(P:Program)(ops:Array Oper)(bef:Nat->Nat->Bool)(Q:Exit->Act->World->Prop):Nat->Pends->Array Bool->Act->World->Prop
 | 0,_,listed,a,w=>Region.ready .any ops listed=[]/\Q .normal a w
 | fuel+1,ps,listed,a,w=>
  (Region.ready .any ops listed=[]->Q .normal a w) /\
  ∀ j ∈ Region.ready .any ops listed,wpOp P ops Q j (fun a' w'=>(∀ x ∈ ps,bef x.1 j=false->x.2 w')/\wpAnyP P ops bef Q fuel (ps.filter fun x=>!bef x.1 j) (listed.setIfInBounds j true) a' w') a w
theorem wpAny_of_P:∀ (fuel:Nat) (ps:Pends) (listed:Array Bool) (a:Act) (w:World),wpAnyP P ops bef Q fuel ps listed a w->wpAny P .any ops Q fuel listed a w
 | 0,_,_,_,_,h=>h
 | fuel+1,_,_,_,_,h=>⟨h.1,fun i hi=>wpOp_mono (fun a' w' h'=>wpAny_of_P fuel _ _ a' w' h'.2) (h.2 i hi)⟩
theorem wpAnyP_sub:∀ (fuel:Nat) (ps ps':Pends) (listed:Array Bool) (a:Act) (w:World),(∀ x ∈ ps',x ∈ ps)->wpAnyP P ops bef Q fuel ps listed a w->wpAnyP P ops bef Q fuel ps' listed a w
 | 0,_,_,_,_,_,_,h=>h
 | fuel+1,ps,ps',_,_,_,hs,h=>⟨h.1,fun i hi=>wpOp_mono (fun a' w' h'=>⟨fun x hx=>h'.1 x (hs x hx),wpAnyP_sub fuel _ _ _ a' w' (fun x hx=>by
     rw[List.mem_filter] at hx ⊢
     exact⟨hs x hx.1,hx.2⟩) h'.2⟩) (h.2 i hi)⟩
theorem Closed.set{L:Array Bool}(h:Closed ops L){j:Nat}(hj:j ∈ Region.ready .any ops L):Closed ops (L.setIfInBounds j true):=by
 obtain⟨_,o,ho,hall⟩:=mem_ready.1 hj
 intro k ok hk hl e he hb
 by_cases hkj:k=j
 . subst hkj
   rw[ho] at hk
   cases hk
   exact getD_set_true (hall e he hb)
 . rw[getD_set_ne false (Ne.symm hkj)] at hl
   exact getD_set_true (h k ok hk hl e he hb)
theorem wpAnyP_first{i:Nat}{oi:Oper}{v:Value}{C:World->Prop}(hbef:∀ i j,bef i j=true->Bef ops i j)(hi:ops[i]? = some oi)(hsel:∀ (j:Nat) (o:Oper) cs b,ops[j]? = some o->o.op ≠ .select cs b)
    (hQ:∀ c a w,Q (.panic c) (a.put oi.dst v) w->Q (.panic c) a w) :
    ∀ (fuel:Nat) (ps:Pends) (listed:Array Bool) (a:Act) (w:World),Closed ops listed ->
     (∀ j oj,ops[j]? = some oj->j ≠ i->listed.getD j true=false->(∀ e ∈ oj.after,Region.binds .any e=true->e.on ≠ i)->oi.apart ops oj=true) ->
     i ∈ Region.ready .any ops listed->YieldsIf P ops C oi v a->C w->(∀ x ∈ ps,x.2 w) ->
     wpAnyP P ops bef Q fuel ((i,C) :: ps) (listed.setIfInBounds i true) (a.put oi.dst v) w->wpAnyP P ops bef Q (fuel+1) ps listed a w:=by
 intro fuel
 induction fuel with
 | zero=>
  intro ps listed a w _ _ hr hy hC hps H
  refine⟨fun h=>(by rw[h] at hr;cases hr),fun j hj=>?_⟩
  by_cases hji:j=i
  . subst hji;exact hy.wpOp hi hC ⟨fun x hx _=>hps x hx,H⟩
  . have:=ready_mono hj hji
    rw[H.1] at this
    cases this
 | succ fuel ih=>
  intro ps listed a w hcl hfree hr hy hC hps H
  refine⟨fun h=>(by rw[h] at hr;cases hr),fun j hj=>?_⟩
  by_cases hji:j=i
  . subst hji
    exact hy.wpOp hi hC ⟨fun x hx _=>hps x hx,wpAnyP_sub _ _ _ _ _ _ (fun x hx=>List.mem_cons_of_mem _ (List.mem_filter.1 hx).1) H⟩
  . have h1:=H.2 j (ready_mono hj hji)
    obtain⟨hjun,oj,hoj,hall⟩:=mem_ready.1 hj
    have hiun:listed.getD i false ≠ true:=by
     have h0:=(mem_ready.1 hr).1
     intro h1
     rcases Nat.lt_or_ge i listed.size with h'|h'
     . simp[h'] at h0 h1;rw[h0] at h1;cases h1
     . simp[Array.getElem?_eq_none h'] at h1
    have hnot:∀ e ∈ oj.after,Region.binds .any e=true->e.on ≠ i:=fun e he hb heq=>hiun (by rw[<- heq];exact hall e he hb)
    have hbij:bef i j=false:=by
     cases hb:bef i j with
     | false=>rfl
     | true=>exact absurd ((hbef i j hb).listed hcl fun o ho e he hb=>by rw[hoj] at ho;cases ho;exact hall e he hb) hiun
    have h2:=wpOp_putIf hoj (hfree j oj hoj hji hjun hnot) (fun cs b=>hsel i oi cs b hi) (fun cs b=>hsel j oj cs b hoj) hQ hy h1
    have hfree':∀ k ok,ops[k]? = some ok->k ≠ i->(listed.setIfInBounds j true).getD k true=false ->
        (∀ e ∈ ok.after,Region.binds .any e=true->e.on ≠ i)->oi.apart ops ok=true:=fun k ok hk hki hun hno=>by
     refine hfree k ok hk hki ?_ hno
     by_cases hjk:j=k
     . subst hjk;exact hjun
     . rw[getD_set_ne true hjk] at hun;exact hun
    refine wpOp_mono (fun a' w' h3=>?_) h2
    obtain⟨hy',hK1,hK2⟩:=h3
    refine⟨fun x hx=>hK1 x (List.mem_cons_of_mem _ hx),ih _ _ a' w' (hcl.set hj) hfree' (ready_mono hr (Ne.symm hji)) hy' (hK1 (i,C) (List.mem_cons_self ..) hbij) (fun x hx=>?_) ?_⟩
    . obtain⟨hx1,hx2⟩:=List.mem_filter.1 hx
      exact hK1 x (List.mem_cons_of_mem _ hx1) (by simpa using hx2)
    . rw[Array.setIfInBounds_comm _ _ hji]
      rw[List.filter_cons_of_pos (by simp[hbij])] at hK2
      exact hK2
end
inductive Mv where|q (i:Nat)|l (i:Nat)
def isQ(o:Oper):Bool:=match o.op with
 | .call { callee:=.builtin .len,args:=_,argTypes:=_ }=>true
 | .move _|.assign _|.pick _ _ _|.load _ _|.nilCheck _|.binOp _ _ _ _ _|.unOp _ _ _|.convert _ _ _|.slice _ _ _ _ _|.fieldAddr _ _ _|.field _ _ _|.indexAddr _ _ _|.index _ _ _|.extract _ _|.build _ _|.makeFunc _ _ _=>true
 | _=>false
def planB(ops:Array Oper):List Mv->Array Bool->Bool
 | [],listed=>(Region.ready .any ops listed).isEmpty
 | .q i :: r,listed=>(Region.ready .any ops listed).contains i && Region.free .any ops listed i && ((ops[i]?).map isQ).getD false && planB ops r (listed.setIfInBounds i true)
 | .l i :: r,listed=>(Region.ready .any ops listed) == [i] && planB ops r (listed.setIfInBounds i true)
abbrev Waits:=List (Nat × Nat × List Nat)
def edgeB(ops:Array Oper)(j i:Nat):Bool:=match ops[j]? with|some o=>o.after.any fun e=>Region.binds .any e && e.on == i|none=>false
def pathB(ops:Array Oper)(i:Nat):Nat->List Nat->Bool
 | j,[]=>edgeB ops j i
 | j,k :: r=>edgeB ops j k && pathB ops i k r
def waitsB(ops:Array Oper)(A:Waits):Bool:=A.all fun x=>pathB ops x.1 x.2.1 x.2.2
def befW:Waits->Nat->Nat->Bool
 | [],_,_=>false
 | (a,b,_) :: r,i,j=>match Nat.beq a i && Nat.beq b j with|true=>true|false=>befW r i j
def planOk(ops:Array Oper)(A:Waits)(mvs:List Mv):Bool:=
 Region.noSelect ops && waitsB ops A && (mvs.length == ops.size) && planB ops mvs (Array.replicate ops.size false)
theorem edgeB_spec{ops:Array Oper}{i j:Nat}(h:edgeB ops j i=true):∃ o,ops[j]? = some o/\∃ e ∈ o.after,Region.binds .any e=true/\e.on=i:=by
 unfold edgeB at h
 split at h
 . rename_i o ho
   obtain⟨e,he,hb⟩:=Array.any_eq_true'.1 h
   simp only[Bool.and_eq_true,beq_iff_eq] at hb
   exact⟨o,ho,e,he,hb.1,hb.2⟩
 . cases h
theorem pathB_spec{ops:Array Oper}{i:Nat}:∀ (l:List Nat) (j:Nat),pathB ops i j l=true->Bef ops i j
 | [],j,h=>by
  obtain⟨o,ho,e,he,hb,hi⟩:=edgeB_spec h
  exact .one ho he hb hi
 | k :: r,j,h=>by
  simp only[pathB,Bool.and_eq_true] at h
  obtain⟨o,ho,e,he,hb,hi⟩:=edgeB_spec h.1
  exact .more ho he hb (by rw[hi];exact pathB_spec r k h.2)
theorem befW_spec{ops:Array Oper}:∀ {A:Waits},waitsB ops A=true->∀ i j,befW A i j=true->Bef ops i j
 | [],_,i,j,h=>by cases h
 | (a,b,l) :: r,hw,i,j,h=>by
  simp only[waitsB,List.all_cons,Bool.and_eq_true] at hw
  simp only[befW] at h
  split at h
  . rename_i hb
    rw[Bool.and_eq_true] at hb
    have h1:=beq_nat_true hb.1
    have h2:=beq_nat_true hb.2
    subst h1 h2
    exact pathB_spec l _ hw.1
  . exact befW_spec (A:=r) hw.2 i j h
def ownK(row:Rows)(r:Nat)(p:Prop):Prop:=match row[r]? with|some (some _)=>p|_=>False
def apartK(s:St)(E:Src)(x:Src)(p:Prop):Prop:=
 match x with
 | .none=>p
 | .reg=>p
 | .box a=>match E with|.box b=>(match Nat.beq a b with|true=>False|false=>p)|_=>p
 | .row a=>ownK s.row a <| match E with|.row b=>(match Nat.beq a b with|true=>False|false=>p)|_=>p
 | .all=>False
def clearP(bef:Nat->Nat->Bool)(i:Nat)(s:St)(E:Src):List (Nat × Src)->Prop->Prop
 | [],p=>p
 | (k,x) :: r,p=>match bef k i with|true=>clearP bef i s E r p|false=>apartK s E x (clearP bef i s E r p)
def clearA(bef:Nat->Nat->Bool)(i:Nat):List (Nat × Src)->Prop->Prop
 | [],p=>p
 | (k,x) :: r,p=>match bef k i with|true=>clearA bef i r p|false=>(match x with|.reg=>clearA bef i r p|_=>False)
def clearK(bef:Nat->Nat->Bool)(i:Nat)(s:St)(E:Src)(ps:List (Nat × Src))(p:Prop):Prop:=
 match E with
 | .row b=>ownK s.row b (clearP bef i s E ps p)
 | .all=>clearA bef i ps p
 | _=>clearP bef i s E ps p
def filterP(bef:Nat->Nat->Bool)(i:Nat):List (Nat × Src)->List (Nat × Src)
 | []=>[]
 | (k,x) :: r=>match bef k i with|true=>filterP bef i r|false=>(k,x) :: filterP bef i r
def dop(P:Program)(T:Tab)(s:St)(o:Oper)(K:D->St->Prop):Prop:=
 match o.op with
 | .call { callee:=.value (.func f),args,argTypes }=>
  qop P T s o K\/(pubsK 8 s (s.gets args.toList) fun ds s=>exposN T argTypes.toList ds fun ds=>∃ R,FSpec P T f ds R/\∀ d rows,R d rows->(match s with
   | ⟨env,box,row,n⟩=>shiftD row.length d fun d=>catK row rows fun row=>K d ⟨env,box,row,n⟩))\/exposeK P T s f argTypes.toList (s.gets args.toList) K\/(forceL (s.gets args.toList) fun ds=>effK P T s f ds K)
 | .call { callee:=.value _,args:=_,argTypes:=_ }=>qop P T s o K
 | .call { callee:=.invoke _ _,args:=_,argTypes:=_ }=>qop P T s o K
 | _=>vop P T s o K
def dops(P:Program)(T:Tab)(ops:List Oper)(A:Waits):List Mv->List (Nat × Src)->St->(St->Prop)->Prop
 | [],_,s,K=>K s
 | .q i :: r,ps,s,K=>match ops[i]? with
  | none=>False
  | some o=>wantK ops s o.guard
   (fun s=>qop P T s o fun d s'=>putK s' o.dst d fun s'=>dops P T ops A r ((i,srcQ s o) :: ps) s' K)
   (fun s=>putK s o.dst (.tup []) fun s=>dops P T ops A r ((i,.reg) :: ps) s K)
 | .l i :: r,ps,s,K=>match ops[i]? with
  | none=>False
  | some o=>wantK ops s o.guard
   (fun s=>clearK (befW A) i s (effOf s o) ps <| dop P T s o fun d s=>putK s o.dst d fun s=>dops P T ops A r (filterP (befW A) i ps) s K)
   (fun s=>putK s o.dst (.tup []) fun s=>dops P T ops A r (filterP (befW A) i ps) s K)
section
variable {w0 w w' : World} {V0 : Fr} {V : Vw} {μ : List Nat} {ω : List Value} {s : St} {a : Act} {P : Program} {T : Tab}
theorem quiet_value{o:Oper}{C:World->Prop}{v:Value}(hq:isQ o=true)(h:o.quietAt P a C w v):(execOp a.eval o).run P w = .ok (.value v) w:=by
 have key:∀ n w',(execOp a.eval o).run P w = .ok n w'->∃ u,n = .value u:=by
  intro n w' he
  obtain⟨dst,op,type,pos,after,guard⟩:=o
  have lift:∀ x:Sem Value,(Sem.run P (do pure (.value (<- x)):Sem Next) w) = .ok n w'->∃ u,n = .value u:=by
   intro x hx
   simp only[Sem.run_bind,Sem.run_pure] at hx
   cases hr:x.run P w with
   | ok u w1=>rw[hr] at hx;simp only[Result.andThen_ok,Result.ok.injEq] at hx;exact⟨u,hx.1.symm⟩
   | halt y w1=>rw[hr] at hx;simp at hx
  cases op<;>first|(cases hq;done)|exact lift _ he|skip
  case move x=>simp only[execOp,Sem.run_pure,Result.ok.injEq] at he;exact⟨_,he.1.symm⟩
  case assign x=>simp only[execOp,Sem.run_pure,Result.ok.injEq] at he;exact⟨_,he.1.symm⟩
  case pick c x y=>
   simp only[execOp,Sem.run_bind,Sem.run_pure] at he
   cases hr:(asBool (a.eval c)).run P w with
   | ok u w1=>rw[hr] at he;simp only[Result.andThen_ok,Result.ok.injEq] at he;exact⟨_,he.1.symm⟩
   | halt y w1=>rw[hr] at he;simp at he
  case nilCheck x=>
   have pn:∀ w1,(runtimePanic RuntimeError.nilDeref:Sem Next).run P w1 = .ok n w'->∃ u,n = .value u:=by
    intro w1 h1
    simp[runtimePanic,goPanic] at h1
   have bnd:∀ {β:Type} (y:Sem β) (k:β->Sem Next) w1,(∀ u w2,(k u).run P w2 = .ok n w'->∃ u,n = .value u)->(y >>= k).run P w1 = .ok n w'->∃ u,n = .value u:=by
    intro β y k w1 hk h1
    rw[Sem.run_bind] at h1
    cases hr:y.run P w1 with
    | ok u w2=>rw[hr] at h1;simp only[Result.andThen_ok] at h1;exact hk _ _ h1
    | halt y w2=>rw[hr] at h1;simp at h1
   have pv:∀ (u:Value) w1,(pure (.value u):Sem Next).run P w1 = .ok n w'->∃ u,n = .value u:=by
    intro u w1 h1
    simp only[Sem.run_pure,Result.ok.injEq] at h1
    exact⟨_,h1.1.symm⟩
   simp only[execOp] at he
   split at he<;>first|exact pn _ he|exact pv _ _ he|skip
   split at he<;>first|exact pn _ he|exact pv _ _ he|skip
   refine bnd _ _ _ (fun u w2 h1=>?_) he
   refine bnd _ _ _ (fun u w2 h1=>?_) h1
   split at h1
   . exact bnd _ _ _ (fun u w2 h1=>pv _ _ h1) h1
   . exact pv _ _ h1
  case call c=>
   obtain⟨callee,args,argTypes⟩:=c
   cases callee with
   | value f=>cases hq
   | invoke f m=>cases hq
   | builtin b=>
    cases b<;>first|(cases hq;done)|skip
    simp only[execOp,resolve,Sem.run_bind,Sem.run_pure,Result.andThen_ok,invoke,builtin] at he
    exact lift _ (by simpa only[Sem.run_bind,Sem.run_pure] using he)
 unfold Oper.quietAt at h
 cases hr:(execOp a.eval o).run P w with
 | ok n w'=>
  rw[hr] at h
  obtain⟨u,rfl⟩:=key n w' hr
  obtain⟨rfl,rfl⟩:=h
  rfl
 | halt x w'=>rw[hr] at h;exact h.elim
def VokS(P:Program)(T:Tab)(w0:World)(V0:Fr)(E:Src)(V:Vw)(μ:List Nat)(ω:List Value)(a:Act)(w:World)(o:Oper)(K:D->St->Prop):Prop:=
 ∀ (next:Act->World->Prop) (Q:Exit->Act->World->Prop),
  (∀ d v s V' μ' ω' w',K d s->RS (szOf T) V' μ' ω' v d->Sim (szOf T) w0 V0 V' μ' ω' s a w'->Step E V μ ω w V' μ' ω' w'->next (a.put o.dst v) w')->o.wp P a w next Q
theorem VokS.of_qop{E:Src}(hT:TOk P T)(hS:Sim (szOf T) w0 V0 V μ ω s a w){o:Oper}{K:D->St->Prop}(h:qop P T s o K):VokS P T w0 V0 E V μ ω a w o K:=by
 intro next Q hn
 obtain⟨d,v,s',hk,hr,hS',_,_,_,hq⟩:=qop_sound hT hS h
 exact Oper.wp_of_quiet (C:=Ext w) (K:=fun a'=>∀ w',Ext w w'->next a' w') (Ext.refl w) (fun a' w' he h=>h w' he) ⟨v,fun w' he=>hq w' (QR.ext he),fun w' he=>hn d v s' V μ ω w' hk hr (hS'.ext he) (.ext (fun _ _ h=>h) (.refl _) (.refl _) he)⟩
theorem dop_sound(hT:TOk P T)(hS:Sim (szOf T) w0 V0 V μ ω s a w){o:Oper}{K:D->St->Prop}(h:dop P T s o K):VokS P T w0 V0 (effOf s o) V μ ω a w o K:=by
 have plain:isCallV o=false->vop P T s o K->VokS P T w0 V0 (effOf s o) V μ ω a w o K:=fun hc hv next Q hn=>
  vop_sound hT hS hv next Q fun d v s' V' μ' ω' w' hk hr hS' hst=>hn d v s' V' μ' ω' w' hk hr hS' (hst hc)
 obtain⟨dst,op,type,pos,after,guard⟩:=o
 cases op
 case call c=>
  obtain⟨callee,args,argTypes⟩:=c
  cases callee with
  | invoke r m=>exact .of_qop hT hS h
  | builtin b=>exact plain rfl h
  | value f=>
   cases f<;>first|exact .of_qop hT hS h|skip
   rename_i f
   simp only[dop] at h
   rcases h with h|h|h|h
   . exact .of_qop hT hS h
   case inr.inr.inr=>
    rw[forceL_eq] at h
    intro next Q hn
    have hg:=hS.gets args.toList
    have hcalls:=h.run w0 V0 V μ ω a w _ hS hg.1 hg.2
    unfold Oper.wp
    have hrun:(execOp a.eval ⟨dst,.call ⟨.value (.func f),args,argTypes⟩,type,pos,after,guard⟩).run P w = .ok (.enter f (args.toList.map a.eval).toArray) w:=by
     simp only[execOp,resolve,Act.eval,Deferred.ofValue,invoke,Sem.run_bind,Sem.run_pure,Result.andThen_ok]
     rw[h.call]
     congr 2
     apply Array.ext'
     simp
    rw[hrun]
    show Calls P f _ w _
    refine hcalls.mono ?_
    rintro e w'' ⟨v,d,s',V',μ',ω',rfl,hk,hr,hS',hV,hm,hω,hc⟩
    exact hn d v s' V' μ' ω' w'' hk hr hS' ⟨hV,hm,fun r v _ _ h=>hω r v h,fun q v hq _=>hc q v hq⟩
   case inr.inr.inl=>
    obtain⟨hrun,h⟩:=exposeK_sound (dst:=dst) (type:=type) (pos:=pos) (after:=after) (guard:=guard) hS h
    intro next Q hn
    unfold Oper.wp
    rw[hrun]
    show Calls P f (args.map a.eval) w _
    refine h.mono ?_
    rintro e w'' ⟨v,d,s',V',ω',rfl,hk,hr,hS',hle,hpre,hb⟩
    exact hn d v s' V' μ ω' w'' hk hr hS' (.ext hle (.refl _) hpre hb)
   obtain⟨V1,ds1,s1,h,hv1,hS1,hle1⟩:=pubsK_sound 8 hS (hS.gets _) h
   obtain⟨es,⟨R,hf,h⟩,hes,hri⟩:=exposN_sound argTypes.toList ds1 _ _ hv1 h
   obtain⟨env,box,row,n⟩:=s1
   intro next Q hn
   have hcalls:=hf.run V1 w (args.map a.eval) hS1.mem.vok (by have:=hv1.1;simp at this ⊢;omega) (fun j v d h1 h2=>hri j v d (by simpa using h1) h2)
   unfold Oper.wp
   have hrun:(execOp a.eval ⟨dst,.call ⟨.value (.func f),args,argTypes⟩,type,pos,after,guard⟩).run P w = .ok (.enter f (args.map a.eval)) w:=by
    simp only[execOp,resolve,Act.eval,Deferred.ofValue,invoke,Sem.run_bind,Sem.run_pure,Result.andThen_ok]
    rw[show (#[]++args.map a.eval)++#[]=args.map a.eval by simp,hf.call]
   rw[hrun]
   show Calls P f (args.map a.eval) w _
   refine hcalls.mono ?_
   rintro e w'' ⟨V',ω0,row0,v,d,rfl,hR,hrs,hres⟩
   have hM:=hS1.mem.call hres
   have hk:=h d row0 hR
   have hl:row.length=ω.length:=hS1.mem.rl.symm
   dsimp only at hk
   rw[hl] at hk
   obtain⟨d',hk,hr⟩:=shiftD_sound (μ:=μ) (V':=V') (ω':=ω++ω0) (VLe.refl V') (fun r u hu=>by rw[List.getElem?_append_right (by omega),Nat.add_sub_cancel];exact hu) hrs hk
   rw[catK_eq] at hk
   exact hn d' v _ V' μ (ω++ω0) w'' hk hr ⟨hS1.tmps,hS1.defers.ext hres.below,fun t=>(hS1.env t).mono hres.le (.refl μ) (.append _ _),hM⟩
    (.ext (fun p u hp=>hres.le p u (hle1 p u hp)) (.refl _) (.append _ _) hres.below)
 all_goals exact plain rfl h
def PendOK(V:Vw)(μ:List Nat)(ω:List Value)(w:World)(x:Nat × (World->Prop))(y:Nat × Src):Prop:=
 x.1=y.1/\∃ p n wi,x.2=KeepN p n wi/\SrcP V μ ω y.2 p n/\KeepN p n wi w
theorem ownK_iff{row:Rows}{r:Nat}{p:Prop}(h:ownK row r p):(∃ x,row[r]? = some (some x))/\p:=by
 unfold ownK at h
 split at h
 . rename_i x hx;exact⟨⟨x,hx⟩,h⟩
 . exact h.elim
theorem PendOK.step(hM:Mem (szOf T) w0 V0 V μ ω s.box s.row w){E:Src}(hAll:E ≠ .all)(hE:∀ b,E = .row b->∃ x,s.row[b]? = some (some x)){x:Nat × (World->Prop)}{y:Nat × Src}(h:PendOK V μ ω w x y){q:Prop}(ha:apartK s E y.2 q)
    {V':Vw}{μ':List Nat}{ω':List Value}{w':World}(hst:Step E V μ ω w V' μ' ω' w'):PendOK V' μ' ω' w' x y/\q:=by
 obtain⟨he,p,n,wi,hx,hsrc,hk⟩:=h
 obtain⟨k,src⟩:=y
 have own:∀ g,Hit μ ω E g->∃ l,Own μ ω s.row l g/\(match E with|.none=>False|.reg=>False|.box b=>l = .inl b|.row b=>l = .inr b|.all=>False):=by
  intro g hg
  cases E with
  | none=>exact hg.elim
  | reg=>exact hg.elim
  | all=>exact absurd rfl hAll
  | box b=>exact⟨.inl b,hg,rfl⟩
  | row b=>
   obtain⟨v,h1,h2⟩:=hg
   obtain⟨z,hz⟩:=hE b rfl
   exact⟨.inr b,⟨v,z,h1,hz,h2⟩,rfl⟩
 have keep:(∀ j,j<n->¬ Hit μ ω E (p.add j).block)->KeepN p n wi w':=fun hn j v hj hc=>hst.foot _ _ (hk j v hj hc) (hn j hj)
 cases src with
 | all=>exact hsrc.elim
 | reg=>exact⟨⟨he,p,n,wi,hx,hsrc,fun j v hj=>by cases hsrc;omega⟩,ha⟩
 | none=>
  refine⟨⟨he,p,n,wi,hx,fun j hj=>?_,keep fun j hj hh=>?_⟩,ha⟩
  . obtain⟨v,hv⟩:=hsrc j hj
    exact⟨v,hst.vle _ _ hv⟩
  . obtain⟨v,hv⟩:=hsrc j hj
    obtain⟨l,hl,_⟩:=own _ hh
    exact hM.vmut _ v l hv hl
 | box b=>
  have hq:q/\∀ c,E = .box c->b ≠ c:=by
   simp only[apartK] at ha
   cases E with
   | none=>exact⟨ha,by simp⟩
   | reg=>exact⟨ha,by simp⟩
   | all=>exact absurd rfl hAll
   | row c=>exact⟨ha,by simp⟩
   | box c=>
    dsimp only at ha
    cases hb:Nat.beq b c with
    | true=>rw[hb] at ha;exact ha.elim
    | false=>rw[hb] at ha;exact⟨ha,fun c' hc'=>by cases hc';rintro rfl;rw[Nat.beq_refl] at hb;cases hb⟩
  refine⟨⟨he,p,n,wi,hx,hst.pre _ _ hsrc,keep fun j hj hh=>?_⟩,hq.1⟩
  obtain⟨l,hl,hlE⟩:=own _ hh
  rw[add_block] at hl
  have:=hM.uniq (.inl b) l _ hsrc hl
  cases E with
  | none=>exact hlE
  | reg=>exact hlE
  | all=>exact hlE
  | box c=>subst hlE;simp at this;exact hq.2 c rfl this
  | row c=>subst hlE;simp at this
 | row b=>
  have hq:(∃ z,s.row[b]? = some (some z))/\q/\∀ c,E = .row c->b ≠ c:=by
   simp only[apartK] at ha
   obtain⟨hz,ha⟩:=ownK_iff ha
   refine⟨hz,?_⟩
   cases E with
   | none=>exact⟨ha,by simp⟩
   | reg=>exact⟨ha,by simp⟩
   | all=>exact absurd rfl hAll
   | box c=>exact⟨ha,by simp⟩
   | row c=>
    dsimp only at ha
    cases hb:Nat.beq b c with
    | true=>rw[hb] at ha;exact ha.elim
    | false=>rw[hb] at ha;exact⟨ha,fun c' hc'=>by cases hc';rintro rfl;rw[Nat.beq_refl] at hb;cases hb⟩
  obtain⟨⟨z,hz⟩,hq1,hq2⟩:=hq
  obtain⟨v,hv,hvb⟩:=hsrc
  refine⟨⟨he,p,n,wi,hx,⟨v,hst.row b v (fun e=>hq2 b e rfl) hAll hv,hvb⟩,keep fun j hj hh=>?_⟩,hq1⟩
  obtain⟨l,hl,hlE⟩:=own _ hh
  rw[add_block] at hl
  have:=hM.uniq (.inr b) l _ ⟨v,z,hv,hz,hvb⟩ hl
  cases E with
  | none=>exact hlE
  | reg=>exact hlE
  | all=>exact hlE
  | box c=>subst hlE;simp at this
  | row c=>subst hlE;simp at this;exact hq2 c rfl this
theorem PendOK.mono_{x:Nat × (World->Prop)}{y:Nat × Src}(h:PendOK V μ ω w x y):x.2 w:=by
 obtain⟨_,p,n,wi,hx,_,hk⟩:=h
 rw[hx]
 exact hk
inductive All2{α β:Type}(R:α->β->Prop):List α->List β->Prop
 | nil:All2 R [] []
 | cons {a b l m} (h:R a b) (t:All2 R l m):All2 R (a :: l) (b :: m)
theorem All2.left{α β:Type}{R:α->β->Prop}{l:List α}{m:List β}(h:All2 R l m):∀ x ∈ l,∃ y,R x y:=by
 induction h with
 | nil=>intro x hx;cases hx
 | cons h t ih=>
  intro x hx
  rcases List.mem_cons.1 hx with rfl|hx
  . exact⟨_,h⟩
  . exact ih x hx
theorem clearP_step(hM:Mem (szOf T) w0 V0 V μ ω s.box s.row w){E:Src}(hAll:E ≠ .all)(hE:∀ b,E = .row b->∃ x,s.row[b]? = some (some x)){bef:Nat->Nat->Bool}{i:Nat}{ps:Pends}{sps:List (Nat × Src)}(h:All2 (PendOK V μ ω w) ps sps) :
    ∀ {q:Prop},clearP bef i s E sps q->q/\∀ V' μ' ω' w',Step E V μ ω w V' μ' ω' w' ->
     (∀ x ∈ ps,bef x.1 i=false->x.2 w')/\All2 (PendOK V' μ' ω' w') (ps.filter fun x=>!bef x.1 i) (filterP bef i sps):=by
 induction h with
 | nil=>intro q h;exact⟨h,fun V' μ' ω' w' _=>⟨by simp,.nil⟩⟩
 | @cons x y ps sps hxy _ ih=>
  intro q h
  obtain⟨k,src⟩:=y
  have hk:x.1=k:=hxy.1
  simp only[clearP] at h
  cases hb:bef k i with
  | true=>
   rw[hb] at h
   obtain⟨hq,hs⟩:=ih h
   refine⟨hq,fun V' μ' ω' w' hst=>?_⟩
   obtain⟨h1,h2⟩:=hs V' μ' ω' w' hst
   refine⟨fun z hz hzb=>?_,?_⟩
   . rcases List.mem_cons.1 hz with rfl|hz
     . rw[hk,hb] at hzb;cases hzb
     . exact h1 z hz hzb
   . rw[List.filter_cons_of_neg (by simp[hk,hb])]
     simp only[filterP,hb]
     exact h2
  | false=>
   rw[hb] at h
   have hq0:(clearP bef i s E sps q):=by
    simp only[apartK,ownK] at h
    cases src with
    | all=>exact h.elim
    | none=>exact h
    | reg=>exact h
    | box b=>cases E with
     | box c=>dsimp only at h;split at h;exact h.elim;exact h
     | _=>exact h
    | row b=>
     dsimp only at h
     split at h
     case h_2=>exact h.elim
     cases E with
     | row c=>dsimp only at h;split at h;exact h.elim;exact h
     | _=>exact h
   obtain⟨hq,hs⟩:=ih hq0
   refine⟨hq,fun V' μ' ω' w' hst=>?_⟩
   obtain⟨h1,h2⟩:=hs V' μ' ω' w' hst
   have hp:=(hxy.step hM hAll hE h hst).1
   refine⟨fun z hz hzb=>?_,?_⟩
   . rcases List.mem_cons.1 hz with rfl|hz
     . exact hp.mono_
     . exact h1 z hz hzb
   . rw[List.filter_cons_of_pos (by simp[hk,hb])]
     simp only[filterP,hb]
     exact .cons hp h2
theorem clearA_step{bef:Nat->Nat->Bool}{i:Nat}{ps:Pends}{sps:List (Nat × Src)}(h:All2 (PendOK V μ ω w) ps sps) :
    ∀ {q:Prop},clearA bef i sps q->q/\∀ V' μ' ω' w',Step .all V μ ω w V' μ' ω' w' ->
     (∀ x ∈ ps,bef x.1 i=false->x.2 w')/\All2 (PendOK V' μ' ω' w') (ps.filter fun x=>!bef x.1 i) (filterP bef i sps):=by
 induction h with
 | nil=>intro q h;exact⟨h,fun V' μ' ω' w' _=>⟨by simp,.nil⟩⟩
 | @cons x y ps sps hxy _ ih=>
  intro q h
  obtain⟨k,src⟩:=y
  have hk:x.1=k:=hxy.1
  simp only[clearA] at h
  cases hb:bef k i with
  | false=>
   rw[hb] at h
   dsimp only at h
   split at h
   case h_2=>exact h.elim
   obtain⟨hq,hs⟩:=ih h
   refine⟨hq,fun V' μ' ω' w' hst=>?_⟩
   obtain⟨h1,h2⟩:=hs V' μ' ω' w' hst
   obtain⟨he,p,n,wi,hx,hsrc,_⟩:=hxy
   have hp:PendOK V' μ' ω' w' x (k,.reg):=⟨he,p,n,wi,hx,hsrc,fun j v hj=>by cases hsrc;omega⟩
   refine⟨fun z hz hzb=>?_,?_⟩
   . rcases List.mem_cons.1 hz with rfl|hz
     . exact hp.mono_
     . exact h1 z hz hzb
   . rw[List.filter_cons_of_pos (by simp[hk,hb])]
     simp only[filterP,hb]
     exact .cons hp h2
  | true=>
   rw[hb] at h
   obtain⟨hq,hs⟩:=ih h
   refine⟨hq,fun V' μ' ω' w' hst=>?_⟩
   obtain⟨h1,h2⟩:=hs V' μ' ω' w' hst
   refine⟨fun z hz hzb=>?_,?_⟩
   . rcases List.mem_cons.1 hz with rfl|hz
     . rw[hk,hb] at hzb;cases hzb
     . exact h1 z hz hzb
   . rw[List.filter_cons_of_neg (by simp[hk,hb])]
     simp only[filterP,hb]
     exact h2
theorem clearK_step(hM:Mem (szOf T) w0 V0 V μ ω s.box s.row w){E:Src}{bef:Nat->Nat->Bool}{i:Nat}{ps:Pends}{sps:List (Nat × Src)}(h:All2 (PendOK V μ ω w) ps sps)
    {q:Prop}(hc:clearK bef i s E sps q):q/\∀ V' μ' ω' w',Step E V μ ω w V' μ' ω' w' ->
     (∀ x ∈ ps,bef x.1 i=false->x.2 w')/\All2 (PendOK V' μ' ω' w') (ps.filter fun x=>!bef x.1 i) (filterP bef i sps):=by
 unfold clearK at hc
 cases E with
 | row b=>
  obtain⟨hz,hc⟩:=ownK_iff hc
  exact clearP_step hM (by simp) (fun c hc=>by cases hc;exact hz) h hc
 | all=>exact clearA_step h hc
 | none=>exact clearP_step hM (by simp) (fun c hc=>by cases hc) h hc
 | reg=>exact clearP_step hM (by simp) (fun c hc=>by cases hc) h hc
 | box b=>exact clearP_step hM (by simp) (fun c hc=>by cases hc) h hc
theorem All2.filter{bef:Nat->Nat->Bool}{i:Nat}{R:Nat × (World->Prop)->Nat × Src->Prop}(hR:∀ x y,R x y->x.1=y.1){ps:Pends}{sps:List (Nat × Src)}(h:All2 R ps sps) :
    All2 R (ps.filter fun x=>!bef x.1 i) (filterP bef i sps):=by
 induction h with
 | nil=>exact .nil
 | @cons x y ps sps hxy _ ih=>
  obtain⟨k,src⟩:=y
  have hk:x.1=k:=hR _ _ hxy
  simp only[filterP]
  cases hb:bef k i with
  | true=>rw[List.filter_cons_of_neg (by simp[hk,hb])];exact ih
  | false=>rw[List.filter_cons_of_pos (by simp[hk,hb])];exact .cons hxy ih
theorem dops_sound(hT:TOk P T){ops:List Oper}{A:Waits}(hns:Region.noSelect ops.toArray=true)(hA:waitsB ops.toArray A=true){Q:Exit->Act->World->Prop}(hQ:∀ c a w,¬ Q (.panic c) a w) :
    ∀ (mvs:List Mv) (listed:Array Bool) (ps:Pends) (sps:List (Nat × Src)) (s:St) (V:Vw) (μ:List Nat) (ω:List Value) (a:Act) (w:World) (K:St->Prop),
     planB ops.toArray mvs listed=true->Closed ops.toArray listed->Sim (szOf T) w0 V0 V μ ω s a w->All2 (PendOK V μ ω w) ps sps->dops P T ops A mvs sps s K ->
     (∀ s V μ ω a w,K s->Sim (szOf T) w0 V0 V μ ω s a w->Q .normal a w)->wpAnyP P ops.toArray (befW A) Q mvs.length ps listed a w
 | [],listed,ps,sps,s,V,μ,ω,a,w,K,hB,hcl,hS,hps,h,hq=>⟨by simpa[planB] using hB,hq _ _ _ _ _ _ h hS⟩
 | .q i :: r,listed,ps,sps,s,V,μ,ω,a,w,K,hB,hcl,hS,hps,h,hq=>by
  simp only[planB,Bool.and_eq_true] at hB
  obtain⟨⟨⟨hr,hf⟩,hq1⟩,hB⟩:=hB
  simp only[dops] at h
  cases ho:ops[i]? with
  | none=>rw[ho] at h;exact h.elim
  | some o=>
   rw[ho] at h
   dsimp only at h
   have ho':ops.toArray[i]? = some o:=by simpa using ho
   rw[ho'] at hq1
   have hri:i ∈ Region.ready .any ops.toArray listed:=by simpa using hr
   have hall:∀ x ∈ ps,x.2 w:=fun x hx=>let ⟨y,hy⟩:=hps.left x hx;hy.mono_
   rcases wantK_sound (o:=o) hS h with⟨hw,s1,h,hS⟩|⟨hw,s1,h,hS⟩
   . obtain⟨d,v,s2,h,hr2,hS2,p,n,hsrc,hq2⟩:=qop_sound hT hS h
     obtain⟨s3,h,hS3⟩:=putK_sound hS2 hr2 h
     refine wpAnyP_first (C:=KeepN p n w) (v:=v) (fun i j=>befW_spec hA i j) ho' (Region.noSelect_spec hns) (fun c a w hc=>absurd hc (hQ _ _ _)) r.length ps listed a w hcl (Region.free_spec ho' hf) hri
      (.inl ⟨hw,fun w' hk=>quiet_value (by simpa using hq1) (hq2 w' ?_)⟩) (fun _ _ _ h=>h) hall ?_
     . unfold QR
       split
       . exact hk
       . rename_i heq;simp[isQ,heq] at hq1
       . rename_i heq;simp[isQ,heq] at hq1
       . trivial
     . exact dops_sound hT hns hA hQ r _ _ _ s3 V μ ω _ w K hB (hcl.set hri) hS3 (.cons ⟨rfl,p,n,w,rfl,hsrc,fun _ _ _ h=>h⟩ hps) h hq
   . obtain⟨s3,h,hS3⟩:=putK_sound hS (v:=undef) (d:=.tup []) (RS.tup [] #[] rfl (fun j v d h=>by simp at h)) h
     refine wpAnyP_first (C:=KeepN ⟨0,0,none⟩ 0 w) (v:=undef) (fun i j=>befW_spec hA i j) ho' (Region.noSelect_spec hns) (fun c a w hc=>absurd hc (hQ _ _ _)) r.length ps listed a w hcl (Region.free_spec ho' hf) hri
      (.inr ⟨hw,rfl⟩) (fun _ _ _ h=>h) hall ?_
     exact dops_sound hT hns hA hQ r _ _ _ s3 V μ ω _ w K hB (hcl.set hri) hS3 (.cons ⟨rfl,⟨0,0,none⟩,0,w,rfl,SrcP.zero _,fun _ _ _ h=>h⟩ hps) h hq
 | .l i :: r,listed,ps,sps,s,V,μ,ω,a,w,K,hB,hcl,hS,hps,h,hq=>by
  simp only[planB,Bool.and_eq_true,beq_iff_eq] at hB
  obtain⟨hr,hB⟩:=hB
  simp only[dops] at h
  cases ho:ops[i]? with
  | none=>rw[ho] at h;exact h.elim
  | some o=>
   rw[ho] at h
   dsimp only at h
   have ho':ops.toArray[i]? = some o:=by simpa using ho
   have hri:i ∈ Region.ready .any ops.toArray listed:=by rw[hr];simp
   refine⟨fun h0=>(by rw[hr] at h0;cases h0),fun j hj=>?_⟩
   rw[hr] at hj
   have hji:j=i:=by simpa using hj
   subst hji
   unfold wpOp
   rw[ho']
   dsimp only
   rcases wantK_sound (o:=o) hS h with⟨hw,s1,h,hS⟩|⟨hw,s1,h,hS⟩
   . rw[if_pos hw]
     obtain⟨h,hst⟩:=clearK_step hS.mem hps h
     refine .inl (dop_sound hT hS h _ _ fun d v s2 V2 μ2 ω2 w2 hk hr2 hS2 hstep=>?_)
     obtain⟨h1,h2⟩:=hst _ _ _ _ hstep
     obtain⟨s3,h,hS3⟩:=putK_sound hS2 hr2 hk
     exact⟨h1,dops_sound hT hns hA hQ r _ _ _ s3 _ _ _ _ w2 K hB (hcl.set hri) hS3 h2 h hq⟩
   . rw[if_neg (by rw[hw];simp)]
     obtain⟨s3,h,hS3⟩:=putK_sound hS (v:=undef) (d:=.tup []) (RS.tup [] #[] rfl (fun j v d h=>by simp at h)) h
     exact⟨fun x hx _=>let ⟨y,hy⟩:=hps.left x hx;hy.mono_,dops_sound hT hns hA hQ r _ _ _ s3 _ _ _ _ w K hB (hcl.set hri) hS3 (hps.filter fun _ _ h=>h.1) h hq⟩
theorem Ok.region_plan(hT:TOk P T)(hm:P.follows .mixedOrders=true){s:St}{Q:Exit->St->Prop}{id:Nat}{l:List Oper}(A:Waits)(mvs:List Mv)(hB:planOk l.toArray A mvs=true)(h:dops P T l A mvs [] s (Q .normal)) :
    Ok P T (.region id l.toArray true) Q s:=by
 refine⟨fun w0 V0 V μ ω a w hS=>?_⟩
 simp only[planOk,Bool.and_eq_true,beq_iff_eq] at hB
 obtain⟨⟨⟨hns,hA⟩,hlen⟩,hB⟩:=hB
 have hd:Ext w { w with drawn:=w.drawn+1 }:=(Below.refl w.heap.size w).drew
 refine wp_mono (Q:=fun e a' w'=>e = .normal/\∃ s' V' μ' ω',Q .normal s'/\Sim (szOf T) w0 V0 V' μ' ω' s' a' w') (wp_region_any hm ?_) ?_
 . refine wpAny_of_P (bef:=befW A) _ [] _ _ _ ?_
   have hz:∀ m j:Nat,(Array.replicate m false).getD j false=false:=fun m j=>by
    rcases Nat.lt_or_ge j m with h|h<;>simp[h]
   have hw:=dops_sound hT hns hA (Q:=fun e a' w'=>e = .normal/\∃ s' V' μ' ω',Q .normal s'/\Sim (szOf T) w0 V0 V' μ' ω' s' a' w') (fun c a w h=>by cases h.1) mvs _ [] [] s V μ ω a _ _ hB
    (fun j o _ hl=>by rw[hz] at hl;cases hl) (hS.ext hd) .nil h fun s' V' μ' ω' a' w' hk hS'=>⟨rfl,s',V',μ',ω',hk,hS'⟩
   rw[hlen] at hw
   exact hw
 . rintro e a' w' ⟨rfl,s',V',μ',ω',hk,hS'⟩
   exact⟨s',V',μ',ω',hk,hS'⟩
end
end Go.Vx
namespace Go.Vx
open Go.RowKit
def eqFs(T:Tab)(E:TypeId → List Sh → Bool):List Field → Nat → List Sh → Bool
 | [],_,sh=>sh.isEmpty
 | f :: r,off,sh=>f.name != "_" && f.offset == off && (match T f.type with
  | some ti=>Nat.ble 1 ti.size && Nat.ble ti.size sh.length && E f.type (sh.take ti.size) && eqFs T E r (off+ti.size) (sh.drop ti.size)
  | none=>false)
def eqAs(E:TypeId->List Sh->Bool)(e:TypeId)(sz:Nat):Nat->List Sh->Bool
 | 0,sh=>sh.isEmpty
 | n+1,sh=>Nat.ble 1 sz && Nat.ble sz sh.length && E e (sh.take sz) && eqAs E e sz n (sh.drop sz)
def eqB(P:Program)(T:Tab):Nat->TypeId->List Sh->Bool
 | 0,_,_=>false
 | d+1,t,sh=>match T t with
  | some ⟨1,_,.int k,_⟩=>match sh with|[.i k']=>Nat.beq (ikn k') (ikn k)|_=>false
  | some ⟨1,_,.str,_⟩=>match sh with|[.s]=>true|_=>false
  | some ⟨1,_,.bool,_⟩=>match sh with|[.b]=>true|_=>false
  | some ⟨_,_,.struct _,_⟩=>!P.stoodInHeld t && (match P.underlying t with|some (.struct fa)=>eqFs T (eqB P T d) fa.toList 0 sh|_=>false)
  | some ⟨_,_,.array n e,_⟩=>(match T e with|some ti=>eqAs (eqB P T d) e ti.size n sh|none=>false)
  | _=>false
def Holds(ti:TI)(v:Value)(x:List D):Prop:=
 match ti.agg with
 | true=>∃ vs:Array Value,v = .agg vs/\vs.size=x.length/\∀ (j:Nat) u d,vs[j]? = some u->x[j]? = some d->plainR d u
 | false=>∃ d,x=[d]/\plainR d v
def EqD(P:Program)(T:Tab)(dd:Nat)(t:TypeId)(sh:List Sh):Prop:=
 ∀ (w:World) (ti:TI) (a b:Value) (x y:List D),T t=some ti->shB sh x=true->shB sh y=true->Holds ti a x->Holds ti b y->∃ r:Bool,(Op.equalIn dd t a b).run P w = .ok r w/\(r=true ↔ eqDs x y)
theorem eqDs_cons(a b:D)(x y:List D)(h:x.length=y.length):eqDs (a :: x) (b :: y) ↔ eqD a b/\eqDs x y:=by
 cases x with
 | nil=>cases y with
  | nil=>simp[eqDs]
  | cons=>simp at h
 | cons c x=>cases y with
  | nil=>simp at h
  | cons d y=>simp[eqDs]
theorem eqDs_append:∀ (x1 y1 x2 y2:List D),x1.length=y1.length->x2.length=y2.length->(eqDs (x1++x2) (y1++y2) ↔ eqDs x1 y1/\eqDs x2 y2)
 | [],[],x2,y2,_,_=>by simp[eqDs]
 | [],_ :: _,_,_,h,_=>by simp at h
 | _ :: _,[],_,_,h,_=>by simp at h
 | a :: x1,b :: y1,x2,y2,h1,h2=>by
  simp only[List.length_cons,Nat.add_right_cancel_iff] at h1
  rw[List.cons_append,List.cons_append,eqDs_cons _ _ _ _ (by simp[h1,h2]),eqDs_cons _ _ _ _ h1,eqDs_append x1 y1 x2 y2 h1 h2,and_assoc]
theorem shB_length:∀ {sh:List Sh} {x:List D},shB sh x=true->x.length=sh.length
 | [],x,h=>by rw[shB_nil h];rfl
 | a :: s,x,h=>by
  obtain⟨c,r,rfl,_,h2⟩:=shB_cons h
  simp[shB_length h2]
theorem shB_take:∀ {sh:List Sh} {x:List D} (n:Nat),shB sh x=true->shB (sh.take n) (x.take n)=true/\shB (sh.drop n) (x.drop n)=true
 | [],x,n,h=>by rw[shB_nil h];simp[shB]
 | a :: s,x,0,h=>by simp[shB,h]
 | a :: s,x,n+1,h=>by
  obtain⟨c,r,rfl,h1,h2⟩:=shB_cons h
  obtain⟨h3,h4⟩:=shB_take n h2
  simp[shB,h1,h3,h4]
section
variable {P : Program} {T : Tab}
theorem part_holds(hT:TOk P T)(w:World){t:TypeId}{ti:TI}(ht:T t=some ti){xs:Array Value}{x:List D}(hl:xs.size=x.length)(hp:∀ (j:Nat) u d,xs[j]? = some u->x[j]? = some d->plainR d u){off:Nat}(hle:off+ti.size<=x.length)(h1:ti.agg=false->ti.size=1) :
    ∃ a,(part t xs off).run P w = .ok a w/\Holds ti a ((x.drop off).take ti.size):=by
 have hg:=hT t ti ht
 cases hag:ti.agg with
 | true=>
  refine⟨.agg (xs.extract off (off+ti.size)),?_,?_⟩
  . simp[part,hg.agg,hag,hg.size]
  . unfold Holds
    rw[hag]
    refine⟨_,rfl,by simp;omega,fun j u d h2 h3=>?_⟩
    rw[Array.getElem?_extract] at h2
    rw[List.getElem?_take] at h3
    split at h2
    . split at h3
      . rw[List.getElem?_drop] at h3
        exact hp _ _ _ h2 h3
      . cases h3
    . cases h2
 | false=>
  have hs:=h1 hag
  have hlt:off<xs.size:=by omega
  refine⟨xs[off],?_,?_⟩
  . simp[part,hg.agg,hag,hlt]
  . unfold Holds
    rw[hag]
    have hx:off<x.length:=by omega
    refine⟨x[off],?_,hp off _ _ (Array.getElem?_eq_getElem hlt) (gEt0 hx)⟩
    rw[hs,List.drop_eq_getElem_cons hx]
    rfl
theorem eqFs_sound(hT:TOk P T)(w:World){dd:Nat}{E:TypeId->List Sh->Bool}(hE:∀ t sh,E t sh=true->EqD P T dd t sh/\∀ ti,T t=some ti->ti.agg=false->ti.size=1){xs ys:Array Value}{X Y:List D}(hlx:xs.size=X.length)(hly:ys.size=Y.length)
    (hpx:∀ (j:Nat) u d,xs[j]? = some u->X[j]? = some d->plainR d u)(hpy:∀ (j:Nat) u d,ys[j]? = some u->Y[j]? = some d->plainR d u) :
    ∀ (fs:List Field) (off:Nat) (sh:List Sh),eqFs T E fs off sh=true->shB sh (X.drop off)=true->shB sh (Y.drop off)=true ->
     ∃ r:Bool,(Op.eqFields dd xs ys fs).run P w = .ok r w/\(r=true ↔ eqDs (X.drop off) (Y.drop off))
 | [],off,sh,h,hx,hy=>by
  have:sh=[]:=by simpa[eqFs] using h
  subst this
  refine⟨true,by simp[Op.eqFields],?_⟩
  rw[shB_nil hx,shB_nil hy]
  simp[eqDs]
 | f :: fs,off,sh,h,hx,hy=>by
  simp only[eqFs,Bool.and_eq_true,bne_iff_ne,ne_eq,beq_iff_eq] at h
  obtain⟨⟨hn,ho⟩,h⟩:=h
  split at h
  case h_2=>cases h
  rename_i ti hti
  simp only[Bool.and_eq_true,Nat.ble_eq] at h
  obtain⟨⟨⟨hs1,hs2⟩,he⟩,hr⟩:=h
  obtain⟨hEq,hone⟩:=hE _ _ he
  have hXl:=shB_length hx
  have hYl:=shB_length hy
  rw[List.length_drop] at hXl hYl
  obtain⟨a,ha,hA⟩:=part_holds hT w hti hlx hpx (off:=off) (by omega) (hone ti hti)
  obtain⟨b,hb,hB⟩:=part_holds hT w hti hly hpy (off:=off) (by omega) (hone ti hti)
  obtain⟨hx1,hx2⟩:=shB_take ti.size hx
  obtain⟨hy1,hy2⟩:=shB_take ti.size hy
  obtain⟨r,hrr,hiff⟩:=hEq w ti a b _ _ hti hx1 hy1 hA hB
  rw[List.drop_drop] at hx2 hy2
  obtain⟨r',hr',hiff'⟩:=eqFs_sound hT w hE hlx hly hpx hpy fs (off+ti.size) _ hr hx2 hy2
  have hsplit:eqDs (X.drop off) (Y.drop off) ↔ eqDs ((X.drop off).take ti.size) ((Y.drop off).take ti.size)/\eqDs (X.drop (off+ti.size)) (Y.drop (off+ti.size)):=by
   have h1:X.drop off=(X.drop off).take ti.size++X.drop (off+ti.size):=by rw[<- List.drop_drop,List.take_append_drop]
   have h2:Y.drop off=(Y.drop off).take ti.size++Y.drop (off+ti.size):=by rw[<- List.drop_drop,List.take_append_drop]
   have:=eqDs_append ((X.drop off).take ti.size) ((Y.drop off).take ti.size) (X.drop (off+ti.size)) (Y.drop (off+ti.size)) (by simp;omega) (by simp;omega)
   rw[<- h1,<- h2] at this
   exact this
  rw[hsplit]
  simp only[Op.eqFields,hn,ne_eq,not_false_eq_true,if_true,Sem.run_bind,ho,ha,hb,hrr,Result.andThen_ok]
  cases r with
  | false=>exact⟨false,by simp,by simp;intro e;exact absurd (hiff.2 e) (by simp)⟩
  | true=>exact⟨r',by simpa using hr',by rw[hiff'];simp[hiff.1 rfl]⟩
theorem eqAs_sound(hT:TOk P T)(w:World){dd:Nat}{E:TypeId->List Sh->Bool}(hE:∀ t sh,E t sh=true->EqD P T dd t sh/\∀ ti,T t=some ti->ti.agg=false->ti.size=1){xs ys:Array Value}{X Y:List D}(hlx:xs.size=X.length)(hly:ys.size=Y.length)
    (hpx:∀ (j:Nat) u d,xs[j]? = some u->X[j]? = some d->plainR d u)(hpy:∀ (j:Nat) u d,ys[j]? = some u->Y[j]? = some d->plainR d u){e:TypeId}{ti:TI}(hti:T e=some ti) :
    ∀ (n i:Nat) (sh:List Sh),eqAs E e ti.size n sh=true->shB sh (X.drop (i*ti.size))=true->shB sh (Y.drop (i*ti.size))=true ->
     ∃ r:Bool,(Op.eqItems dd e ti.size xs ys (List.range' i n)).run P w = .ok r w/\(r=true ↔ eqDs (X.drop (i*ti.size)) (Y.drop (i*ti.size)))
 | 0,i,sh,h,hx,hy=>by
  have:sh=[]:=by simpa[eqAs] using h
  subst this
  refine⟨true,by simp[Op.eqItems],?_⟩
  rw[shB_nil hx,shB_nil hy]
  simp[eqDs]
 | n+1,i,sh,h,hx,hy=>by
  simp only[eqAs,Bool.and_eq_true,Nat.ble_eq] at h
  obtain⟨⟨⟨hs1,hs2⟩,he⟩,hr⟩:=h
  obtain⟨hEq,hone⟩:=hE _ _ he
  have hXl:=shB_length hx
  have hYl:=shB_length hy
  rw[List.length_drop] at hXl hYl
  obtain⟨a,ha,hA⟩:=part_holds hT w hti hlx hpx (off:=i*ti.size) (by omega) (hone ti hti)
  obtain⟨b,hb,hB⟩:=part_holds hT w hti hly hpy (off:=i*ti.size) (by omega) (hone ti hti)
  obtain⟨hx1,hx2⟩:=shB_take ti.size hx
  obtain⟨hy1,hy2⟩:=shB_take ti.size hy
  obtain⟨r,hrr,hiff⟩:=hEq w ti a b _ _ hti hx1 hy1 hA hB
  rw[List.drop_drop,show i*ti.size+ti.size=(i+1)*ti.size by rw[Nat.succ_mul]] at hx2 hy2
  obtain⟨r',hr',hiff'⟩:=eqAs_sound hT w hE hlx hly hpx hpy hti n (i+1) _ hr hx2 hy2
  have hsplit:eqDs (X.drop (i*ti.size)) (Y.drop (i*ti.size)) ↔ eqDs ((X.drop (i*ti.size)).take ti.size) ((Y.drop (i*ti.size)).take ti.size)/\eqDs (X.drop ((i+1)*ti.size)) (Y.drop ((i+1)*ti.size)):=by
   have e1:(i+1)*ti.size=i*ti.size+ti.size:=by rw[Nat.succ_mul]
   have h1:X.drop (i*ti.size)=(X.drop (i*ti.size)).take ti.size++X.drop ((i+1)*ti.size):=by rw[e1,<- List.drop_drop,List.take_append_drop]
   have h2:Y.drop (i*ti.size)=(Y.drop (i*ti.size)).take ti.size++Y.drop ((i+1)*ti.size):=by rw[e1,<- List.drop_drop,List.take_append_drop]
   have:=eqDs_append ((X.drop (i*ti.size)).take ti.size) ((Y.drop (i*ti.size)).take ti.size) (X.drop ((i+1)*ti.size)) (Y.drop ((i+1)*ti.size)) (by simp;omega) (by simp;omega)
   rw[<- h1,<- h2] at this
   exact this
  rw[hsplit]
  rw[List.range'_succ]
  simp only[Op.eqItems,Sem.run_bind,ha,hb,hrr,Result.andThen_ok]
  cases r with
  | false=>exact⟨false,by simp,by simp;intro e;exact absurd (hiff.2 e) (by simp)⟩
  | true=>exact⟨r',by simpa using hr',by rw[hiff'];simp[hiff.1 rfl]⟩
theorem eqB_sound(hT:TOk P T)(c:Nat):∀ (d:Nat) (t:TypeId) (sh:List Sh),eqB P T d t sh=true->EqD P T (c+d) t sh/\∀ ti,T t=some ti->ti.agg=false->ti.size=1
 | 0,_,_,h=>by simp[eqB] at h
 | d+1,t,sh,h=>by
  simp only[eqB] at h
  split at h
  . rename_i bb k z hti
    refine⟨?_,fun ti h1 _=>by rw[hti] at h1;cases h1;rfl⟩
    split at h
    case h_2=>cases h
    rename_i k'
    have:=ikn_inj h
    subst this
    intro w ti a b x y ht hx hy ha hb
    rw[hti] at ht
    cases ht
    obtain⟨d1,rfl,ha⟩:=ha
    obtain⟨d2,rfl,hb⟩:=hb
    obtain⟨_,_,e1,h1,_⟩:=shB_cons hx
    obtain⟨_,_,e2,h2,_⟩:=shB_cons hy
    cases e1
    cases e2
    rcases sh1_val h1 with⟨_,n,rfl,e⟩|⟨_,_,e⟩|⟨_,_,e⟩<;>cases e
    rcases sh1_val h2 with⟨_,m,rfl,e⟩|⟨_,_,e⟩|⟨_,_,e⟩<;>cases e
    simp only[plainR] at ha hb
    subst ha hb
    have hu:=(hT _ _ hti).kind
    refine⟨n == m,by simp[Op.equalIn,run_under hu],by simp[eqDs,eqD]⟩
  . rename_i bb z hti
    refine⟨?_,fun ti h1 _=>by rw[hti] at h1;cases h1;rfl⟩
    split at h
    case h_2=>cases h
    intro w ti a b x y ht hx hy ha hb
    rw[hti] at ht
    cases ht
    obtain⟨d1,rfl,ha⟩:=ha
    obtain⟨d2,rfl,hb⟩:=hb
    obtain⟨_,_,e1,h1,_⟩:=shB_cons hx
    obtain⟨_,_,e2,h2,_⟩:=shB_cons hy
    cases e1
    cases e2
    rcases sh1_val h1 with⟨_,n,_,e⟩|⟨l,rfl,e⟩|⟨_,_,e⟩<;>cases e
    rcases sh1_val h2 with⟨_,m,_,e⟩|⟨m,rfl,e⟩|⟨_,_,e⟩<;>cases e
    simp only[plainR] at ha hb
    subst ha hb
    have hu:=(hT _ _ hti).kind
    refine⟨bstr l == bstr m,by simp[Op.equalIn,run_under hu],?_⟩
    rw[beq_toListBytes,bstr_toList,bstr_toList]
    simp[eqDs,eqD]
  . rename_i bb z hti
    refine⟨?_,fun ti h1 _=>by rw[hti] at h1;cases h1;rfl⟩
    split at h
    case h_2=>cases h
    intro w ti a b x y ht hx hy ha hb
    rw[hti] at ht
    cases ht
    obtain⟨d1,rfl,ha⟩:=ha
    obtain⟨d2,rfl,hb⟩:=hb
    obtain⟨_,_,e1,h1,_⟩:=shB_cons hx
    obtain⟨_,_,e2,h2,_⟩:=shB_cons hy
    cases e1
    cases e2
    rcases sh1_val h1 with⟨_,n,_,e⟩|⟨_,_,e⟩|⟨p,rfl,e⟩<;>cases e
    rcases sh1_val h2 with⟨_,m,_,e⟩|⟨_,_,e⟩|⟨q,rfl,e⟩<;>cases e
    simp only[plainR] at ha hb
    obtain⟨x,rfl,hx⟩:=ha
    obtain⟨y,rfl,hy⟩:=hb
    have hu:=(hT _ _ hti).kind
    refine⟨x == y,by simp[Op.equalIn,run_under hu],?_⟩
    simp only[eqDs,eqD,<- hx,<- hy]
    cases x<;>cases y<;>simp
  . rename_i n bb fs z hti
    refine⟨?_,fun ti h1 h2=>by rw[hti] at h1;cases h1;simp[TI.agg] at h2⟩
    simp only[Bool.and_eq_true,Bool.not_eq_true'] at h
    obtain⟨hst,h⟩:=h
    split at h
    case h_2=>cases h
    rename_i fa hu
    intro w ti a b x y ht hx hy ha hb
    rw[hti] at ht
    cases ht
    obtain⟨xs,rfl,hlx,hpx⟩:=ha
    obtain⟨ys,rfl,hly,hpy⟩:=hb
    have hfs:P.fieldsOf t=fa:=by simp[Program.fieldsOf,hu]
    obtain⟨r,hr,hiff⟩:=eqFs_sound hT w (fun t sh h=>eqB_sound hT c d t sh h) hlx hly hpx hpy fa.toList 0 sh h (by simpa using hx) (by simpa using hy)
    refine⟨r,?_,by simpa using hiff⟩
    rw[show c+(d+1)=(c+d)+1 from rfl,run_equalIn_struct w (c+d) t xs ys (by rw[hfs];exact hu) hst,hfs]
    exact hr
  . rename_i m bb n e z hti
    refine⟨?_,fun ti h1 h2=>by rw[hti] at h1;cases h1;simp[TI.agg] at h2⟩
    split at h
    case h_2=>cases h
    rename_i te hte
    intro w ti a b x y ht hx hy ha hb
    rw[hti] at ht
    cases ht
    obtain⟨xs,rfl,hlx,hpx⟩:=ha
    obtain⟨ys,rfl,hly,hpy⟩:=hb
    have hu:=(hT _ _ hti).kind
    obtain⟨i,zz,hi,his,_⟩:=(hT _ _ hte).info
    have hce:P.cellsOf e=te.size:=by rw[Program.cellsOf,hi];exact his
    obtain⟨r,hr,hiff⟩:=eqAs_sound hT w (fun t sh h=>eqB_sound hT c d t sh h) hlx hly hpx hpy hte n 0 sh h (by simpa using hx) (by simpa using hy)
    refine⟨r,?_,by simpa using hiff⟩
    rw[show c+(d+1)=(c+d)+1 from rfl,run_equalIn_array w (c+d) xs ys hu hi,hce,List.range_eq_range']
    exact hr
  . cases h
theorem EqT.of_b(hT:TOk P T){t:TypeId}{sh:List Sh}{ti:TI}(ht:T t=some ti)(hag:ti.agg=true)(h:eqB P T 10 t sh=true):EqT P t sh:=by
 intro x y vs us w hx hy hl1 hl2 hp1 hp2
 have:=(eqB_sound hT 9990 10 t sh h).1 w ti (.agg vs) (.agg us) x y ht hx hy (by unfold Holds;rw[hag];exact⟨vs,rfl,hl1,hp1⟩) (by unfold Holds;rw[hag];exact⟨us,rfl,hl2,hp2⟩)
 exact this
end
end Go.Vx
namespace Go.Vx
open Go.RowKit
def envCat:List Nat->List D->List (Nat × D)->List (Nat × D)
 | t :: ts,d :: ds,e=>(t,d) :: envCat ts ds e
 | _,_,e=>e
def envCatK:List Nat->List D->List (Nat × D)->(List (Nat × D)->Prop)->Prop
 | t :: ts,d :: ds,e,K=>envCatK ts ds e fun e=>K ((t,d) :: e)
 | _,_,e,K=>K e
theorem envCatK_eq:∀ (ts:List Nat) (ds:List D) (e:List (Nat × D)) (K:List (Nat × D)->Prop),envCatK ts ds e K=K (envCat ts ds e)
 | [],_,_,_=>by simp[envCatK,envCat]
 | _ :: _,[],_,_=>by simp[envCatK,envCat]
 | t :: ts,d :: ds,e,K=>by simp only[envCatK,envCat];exact envCatK_eq ts ds e _
def catL:List Nat->List Nat->List Nat
 | [],m=>m
 | t :: l,m=>t :: catL l m
section
variable {P : Program} {T : Tab} {s : St}
theorem keepE_some{k kb:Nat}{env:List (Nat × D)}:∀ (L:List Nat) (K:List (Nat × D)->Prop),keepE k kb env L K->∃ e,K e
 | [],K,h=>⟨_,h⟩
 | t :: ts,K,h=>by
  simp only[keepE,D.force_eq,boolP_iff] at h
  exact let ⟨e,he⟩:=keepE_some ts _ h.2;⟨_,he⟩
theorem keepK_some{L:List Nat}{k kb:Nat}{K:St->Prop}(h:keepK L k kb s K):∃ s',K s':=by
 obtain⟨env,box,row,n⟩:=s
 simp only[keepK] at h
 obtain⟨e,h⟩:=keepE_some _ _ h
 obtain⟨h,_⟩:=takeK_iff h
 rw[boolP_iff] at h
 obtain⟨h,_⟩:=takeK_iff h.2
 exact⟨_,h⟩
theorem Ok.loopU{c:Code}{Q:Exit->St->Prop}{ι:Type}(L Cs:List Nat)(k kb:Nat)(C:ι->List D)(B:ι->List (List D)->List (List D))(R:ι->Rows->Rows)(I:ι->Prop)(m:ι->Nat)(x0:ι)(h0:I x0)
    (h:keepK L k kb s fun s0=>match s0 with
     | ⟨env,box,row,n⟩=>(keepK (catL Cs L) k kb s fun s1=>s1=⟨envCat Cs (C x0) env,B x0 box,R x0 row,n⟩) /\
      ∀ x,I x->envCatK Cs (C x) env fun env'=>Ok P T c (thenQ (fun s'=>∃ x',m x' < m x/\I x'/\keepK (catL Cs L) k kb s' fun s1=>s1=⟨envCat Cs (C x') env,B x' box,R x' row,n⟩) Q) ⟨env',B x box,R x row,n⟩):Ok P T (.loop c) Q s:=by
 obtain⟨⟨env,box,row,n⟩,h1,h2⟩:=keepK_some h
 exact Ok.loopK (catL Cs L) k kb (fun x=>⟨envCat Cs (C x) env,B x box,R x row,n⟩) I m x0 h0 h1 fun x hx=>by
  have:=h2 x hx
  rwa [envCatK_eq] at this
theorem Ok.joinU{c:Code}{Q:Exit->St->Prop}{ι:Type}(L Cs:List Nat)(k kb:Nat)(C:ι->List D)(B:ι->List (List D)->List (List D))(R:ι->Rows->Rows)(I:Exit->ι->Prop)
    (h:keepK L k kb s fun s0=>match s0 with
     | ⟨env,box,row,n⟩=>(Ok P T c (fun e s'=>∃ x,I e x/\keepK (catL Cs L) k kb s' fun s1=>s1=⟨envCat Cs (C x) env,B x box,R x row,n⟩) s) /\
      ∀ e x,I e x->envCatK Cs (C x) env fun env'=>Q e ⟨env',B x box,R x row,n⟩):Ok P T c Q s:=by
 obtain⟨⟨env,box,row,n⟩,h1,h2⟩:=keepK_some h
 exact Ok.joinK (catL Cs L) k kb (fun x=>⟨envCat Cs (C x) env,B x box,R x row,n⟩) I h1 fun e x hx=>by
  have:=h2 e x hx
  rwa [envCatK_eq] at this
theorem Ok.seqU{c1 c2:Code}{Q:Exit->St->Prop}{ι:Type}(L Cs:List Nat)(k kb:Nat)(C:ι->List D)(B:ι->List (List D)->List (List D))(R:ι->Rows->Rows)(I:ι->Prop)
    (h:keepK L k kb s fun s0=>match s0 with
     | ⟨env,box,row,n⟩=>(Ok P T c1 (thenQ (fun s'=>∃ x,I x/\keepK (catL Cs L) k kb s' fun s1=>s1=⟨envCat Cs (C x) env,B x box,R x row,n⟩) Q) s) /\
      ∀ x,I x->envCatK Cs (C x) env fun env'=>Ok P T c2 Q ⟨env',B x box,R x row,n⟩):Ok P T (.seq c1 c2) Q s:=by
 obtain⟨⟨env,box,row,n⟩,h1,h2⟩:=keepK_some h
 exact Ok.seqK (catL Cs L) k kb (fun x=>⟨envCat Cs (C x) env,B x box,R x row,n⟩) I h1 fun x hx=>by
  have:=h2 x hx
  rwa [envCatK_eq] at this
end
def bD:Bool->D|true=>.tt|false=>.ff
theorem FSpec.tt{P:Program}{T:Tab}{f:FuncId}{ds:List D}{p:Prop}(h:FSpec P T f ds (fun d _=>d = .b p))(hp:p):FSpec P T f ds (fun d _=>d = .tt):=by
 refine⟨h.call,fun V w args hV hl hR=>(h.run V w args hV hl hR).mono ?_⟩
 rintro e w' ⟨V',ω,row,v,d,rfl,rfl,hRS,hres⟩
 obtain⟨x,rfl,hx⟩:=hRS.bool
 obtain rfl:x=true:=hx.2 hp
 exact⟨V',ω,row,_,_,rfl,rfl,.imm _ _ .tt,hres⟩
theorem ix{α:Type}{l:List α}{f:α->List D}{K:List D->Prop}(n:Nat){a:α}(ha:l[n]? = some a)(h:K (f a)):0<=(n:Int)/\∃ row,(l.map f)[((n:Nat):Int).toNat]? = some row/\K row:=
 ⟨by omega,_,by simp[ha],h⟩
theorem ixI{α:Type}{l:List α}{f:α->List D}{K:List D->Prop}{n:Int}(h0:0<=n){a:α}(ha:l[n.toNat]? = some a)(h:K (f a)):0<=n/\∃ row,(l.map f)[n.toNat]? = some row/\K row:=
 ⟨h0,_,by simp[ha],h⟩
theorem ix_new{α:Type}{l:List α}{f:α->List D}{K:List D->Prop}(n:Nat)(hn:n<l.length)(h:∀ a,l[n]? = some a->K (f a)):0<=(n:Int)/\∃ row,(l.map f)[((n:Nat):Int).toNat]? = some row/\K row:=
 ix n (gEt0 hn) (h _ (gEt0 hn))
theorem ixI_new{α:Type}{l:List α}{f:α->List D}{K:List D->Prop}{n:Int}(h0:0<=n)(hn:n.toNat<l.length)(h:∀ a,l[n.toNat]? = some a->K (f a)):0<=n/\∃ row,(l.map f)[n.toNat]? = some row/\K row:=
 ixI h0 (gEt0 hn) (h _ (gEt0 hn))
theorem rd{α:Type}{l:List α}{f:α->List D}{K:List D->Prop}{e e':Nat}{n:Nat}{a:α}(he:e=e')(ha:l[n]? = some a)(h:K (f a)):e=e'/\∃ row,(l.map f)[n]? = some row/\K row:=
 ⟨he,_,by simp[ha],h⟩
theorem st{α:Type}{l:List α}{f:α->List D}{n off:Nat}{ds:List D}{K:List (List D)->Prop}{a:α}(a':α)(ha:l[n]? = some a)(hl:off+ds.length<=(f a).length)(he:setCells (f a) off ds=f a')
    (h:K ((l.set n a').map f)):∃ rw,(l.map f)[n]? = some rw/\off+ds.length<=rw.length/\∃ xs',xs'=(l.map f).set n (setCells rw off ds)/\K xs':=
 ⟨f a,by simp[ha],hl,_,rfl,by rw[he,<- List.map_set];exact h⟩
theorem take_all{α:Type}(f:α->List D)(l:List α):(l.map f).take l.length=l.map f:=tkL0 (by simp)
theorem drop_all{α:Type}(f:α->List D)(l:List α):(l.map f).drop l.length=[]:=List.drop_of_length_le (by simp)
theorem toNat_cast(n:Nat):((n:Nat):Int).toNat=n:=rfl
end Go.Vx
namespace Go.Vx
open Go.RowKit
inductive Pl where|nil|q (i:Nat) (r:Pl)|l (i:Nat) (r:Pl)|alt (i:Nat) (a r:Pl)
def Pl.heads:Pl->List Nat|.alt i _ r=>i :: r.heads|_=>[]
def Pl.depth:Pl->Nat|.nil=>0|.q _ r=>r.depth+1|.l _ r=>r.depth+1|.alt _ a _=>a.depth+1
def planT(ops:Array Oper):Pl->Bool->Nat->Array Bool->Bool
 | .nil,f,_,listed=>f || (Region.ready .any ops listed).isEmpty
 | .q i r,f,_,listed=>!f && (Region.ready .any ops listed).contains i && Region.free .any ops listed i && ((ops[i]?).map isQ).getD false && planT ops r false 0 (listed.setIfInBounds i true)
 | .l i r,f,_,listed=>!f && (Region.ready .any ops listed) == [i] && planT ops r false 0 (listed.setIfInBounds i true)
 | .alt i a r,f,n,listed=>(match f with|true=>Nat.beq a.depth n|false=>(Region.ready .any ops listed) == i :: r.heads) && (Region.ready .any ops listed).contains i && planT ops a false 0 (listed.setIfInBounds i true) && planT ops r true a.depth listed
def planTok(ops:Array Oper)(A:Waits)(p:Pl):Bool:=
 Region.noSelect ops && waitsB ops A && (p.depth == ops.size) && planT ops p false 0 (Array.replicate ops.size false)
def dopsT(P:Program)(T:Tab)(ops:List Oper)(A:Waits):Pl->Bool->List (Nat × Src)->St->(St->Prop)->Prop
 | .nil,f,_,s,K=>match f with|true=>True|false=>K s
 | .q i r,_,ps,s,K=>match ops[i]? with
  | none=>False
  | some o=>wantK ops s o.guard
   (fun s=>qop P T s o fun d s'=>putK s' o.dst d fun s'=>dopsT P T ops A r false ((i,srcQ s o) :: ps) s' K)
   (fun s=>putK s o.dst (.tup []) fun s=>dopsT P T ops A r false ((i,.reg) :: ps) s K)
 | .l i r,_,ps,s,K=>match ops[i]? with
  | none=>False
  | some o=>wantK ops s o.guard
   (fun s=>clearK (befW A) i s (effOf s o) ps <| dop P T s o fun d s=>putK s o.dst d fun s=>dopsT P T ops A r false (filterP (befW A) i ps) s K)
   (fun s=>putK s o.dst (.tup []) fun s=>dopsT P T ops A r false (filterP (befW A) i ps) s K)
 | .alt i a r,_,ps,s,K=>(match ops[i]? with
  | none=>False
  | some o=>wantK ops s o.guard
   (fun s=>clearK (befW A) i s (effOf s o) ps <| dop P T s o fun d s=>putK s o.dst d fun s=>dopsT P T ops A a false (filterP (befW A) i ps) s K)
   (fun s=>putK s o.dst (.tup []) fun s=>dopsT P T ops A a false (filterP (befW A) i ps) s K))/\dopsT P T ops A r true ps s K
section
variable {w0 w w' : World} {V0 : Fr} {V : Vw} {μ : List Nat} {ω : List Value} {s : St} {a : Act} {P : Program} {T : Tab}
theorem dopsT_sound(hT:TOk P T){ops:List Oper}{A:Waits}(hns:Region.noSelect ops.toArray=true)(hA:waitsB ops.toArray A=true){Q:Exit->Act->World->Prop}(hQ:∀ c a w,¬ Q (.panic c) a w) :
    ∀ (p:Pl) (f:Bool) (n:Nat) (listed:Array Bool) (ps:Pends) (sps:List (Nat × Src)) (s:St) (V:Vw) (μ:List Nat) (ω:List Value) (a:Act) (w:World) (K:St->Prop),
     planT ops.toArray p f n listed=true->Closed ops.toArray listed->Sim (szOf T) w0 V0 V μ ω s a w->All2 (PendOK V μ ω w) ps sps->dopsT P T ops A p f sps s K ->
     (∀ s V μ ω a w,K s->Sim (szOf T) w0 V0 V μ ω s a w->Q .normal a w) ->
     match f with
     | false=>wpAnyP P ops.toArray (befW A) Q p.depth ps listed a w
     | true=>∀ j ∈ p.heads,wpOp P ops.toArray Q j (fun a' w'=>(∀ x ∈ ps,befW A x.1 j=false->x.2 w')/\wpAnyP P ops.toArray (befW A) Q n (ps.filter fun x=>!befW A x.1 j) (listed.setIfInBounds j true) a' w') a w
 | .nil,f,n,listed,ps,sps,s,V,μ,ω,a,w,K,hB,hcl,hS,hps,h,hq=>by
  cases f with
  | true=>intro j hj;cases hj
  | false=>exact⟨by simpa[planT] using hB,hq _ _ _ _ _ _ h hS⟩
 | .q i r,f,n,listed,ps,sps,s,V,μ,ω,a,w,K,hB,hcl,hS,hps,h,hq=>by
  cases f with
  | true=>intro j hj;cases hj
  | false=>
  simp only[planT,Bool.not_false,Bool.true_and,Bool.and_eq_true] at hB
  obtain⟨⟨⟨hr,hf⟩,hq1⟩,hB⟩:=hB
  simp only[dopsT] at h
  cases ho:ops[i]? with
  | none=>rw[ho] at h;exact h.elim
  | some o=>
   rw[ho] at h
   dsimp only at h
   have ho':ops.toArray[i]? = some o:=by simpa using ho
   rw[ho'] at hq1
   have hri:i ∈ Region.ready .any ops.toArray listed:=by simpa using hr
   have hall:∀ x ∈ ps,x.2 w:=fun x hx=>let ⟨y,hy⟩:=hps.left x hx;hy.mono_
   rcases wantK_sound (o:=o) hS h with⟨hw,s1,h,hS⟩|⟨hw,s1,h,hS⟩
   . obtain⟨d,v,s2,h,hr2,hS2,p,n,hsrc,hq2⟩:=qop_sound hT hS h
     obtain⟨s3,h,hS3⟩:=putK_sound hS2 hr2 h
     refine wpAnyP_first (C:=KeepN p n w) (v:=v) (fun i j=>befW_spec hA i j) ho' (Region.noSelect_spec hns) (fun c a w hc=>absurd hc (hQ _ _ _)) r.depth ps listed a w hcl (Region.free_spec ho' hf) hri
      (.inl ⟨hw,fun w' hk=>quiet_value (by simpa using hq1) (hq2 w' ?_)⟩) (fun _ _ _ h=>h) hall ?_
     . unfold QR
       split
       . exact hk
       . rename_i heq;simp[isQ,heq] at hq1
       . rename_i heq;simp[isQ,heq] at hq1
       . trivial
     . exact dopsT_sound hT hns hA hQ r false 0 _ _ _ s3 V μ ω _ w K hB (hcl.set hri) hS3 (.cons ⟨rfl,p,n,w,rfl,hsrc,fun _ _ _ h=>h⟩ hps) h hq
   . obtain⟨s3,h,hS3⟩:=putK_sound hS (v:=undef) (d:=.tup []) (RS.tup [] #[] rfl (fun j v d h=>by simp at h)) h
     refine wpAnyP_first (C:=KeepN ⟨0,0,none⟩ 0 w) (v:=undef) (fun i j=>befW_spec hA i j) ho' (Region.noSelect_spec hns) (fun c a w hc=>absurd hc (hQ _ _ _)) r.depth ps listed a w hcl (Region.free_spec ho' hf) hri
      (.inr ⟨hw,rfl⟩) (fun _ _ _ h=>h) hall ?_
     exact dopsT_sound hT hns hA hQ r false 0 _ _ _ s3 V μ ω _ w K hB (hcl.set hri) hS3 (.cons ⟨rfl,⟨0,0,none⟩,0,w,rfl,SrcP.zero _,fun _ _ _ h=>h⟩ hps) h hq
 | .l i r,f,n,listed,ps,sps,s,V,μ,ω,a,w,K,hB,hcl,hS,hps,h,hq=>by
  cases f with
  | true=>intro j hj;cases hj
  | false=>
  simp only[planT,Bool.not_false,Bool.true_and,Bool.and_eq_true,beq_iff_eq] at hB
  obtain⟨hr,hB⟩:=hB
  simp only[dopsT] at h
  cases ho:ops[i]? with
  | none=>rw[ho] at h;exact h.elim
  | some o=>
   rw[ho] at h
   dsimp only at h
   have ho':ops.toArray[i]? = some o:=by simpa using ho
   have hri:i ∈ Region.ready .any ops.toArray listed:=by rw[hr];simp
   refine⟨fun h0=>(by rw[hr] at h0;cases h0),fun j hj=>?_⟩
   rw[hr] at hj
   have hji:j=i:=by simpa using hj
   subst hji
   unfold wpOp
   rw[ho']
   dsimp only
   rcases wantK_sound (o:=o) hS h with⟨hw,s1,h,hS⟩|⟨hw,s1,h,hS⟩
   . rw[if_pos hw]
     obtain⟨h,hst⟩:=clearK_step hS.mem hps h
     refine .inl (dop_sound hT hS h _ _ fun d v s2 V2 μ2 ω2 w2 hk hr2 hS2 hstep=>?_)
     obtain⟨h1,h2⟩:=hst _ _ _ _ hstep
     obtain⟨s3,h,hS3⟩:=putK_sound hS2 hr2 hk
     exact⟨h1,dopsT_sound hT hns hA hQ r false 0 _ _ _ s3 _ _ _ _ w2 K hB (hcl.set hri) hS3 h2 h hq⟩
   . rw[if_neg (by rw[hw];simp)]
     obtain⟨s3,h,hS3⟩:=putK_sound hS (v:=undef) (d:=.tup []) (RS.tup [] #[] rfl (fun j v d h=>by simp at h)) h
     exact⟨fun x hx _=>let ⟨y,hy⟩:=hps.left x hx;hy.mono_,dopsT_sound hT hns hA hQ r false 0 _ _ _ s3 _ _ _ _ w K hB (hcl.set hri) hS3 (hps.filter fun _ _ h=>h.1) h hq⟩
 | .alt i b r,f,n,listed,ps,sps,s,V,μ,ω,a,w,K,hB,hcl,hS,hps,h,hq=>by
  simp only[planT,Bool.and_eq_true] at hB
  obtain⟨⟨⟨hf,hri⟩,hBa⟩,hBr⟩:=hB
  have hri:i ∈ Region.ready .any ops.toArray listed:=by simpa using hri
  simp only[dopsT] at h
  obtain⟨h,hrest⟩:=h
  have hone:wpOp P ops.toArray Q i (fun a' w'=>(∀ x ∈ ps,befW A x.1 i=false->x.2 w')/\wpAnyP P ops.toArray (befW A) Q b.depth (ps.filter fun x=>!befW A x.1 i) (listed.setIfInBounds i true) a' w') a w:=by
   cases ho:ops[i]? with
   | none=>rw[ho] at h;exact h.elim
   | some o=>
    rw[ho] at h
    dsimp only at h
    have ho':ops.toArray[i]? = some o:=by simpa using ho
    unfold wpOp
    rw[ho']
    dsimp only
    rcases wantK_sound (o:=o) hS h with⟨hw,s1,h,hS⟩|⟨hw,s1,h,hS⟩
    . rw[if_pos hw]
      obtain⟨h,hst⟩:=clearK_step hS.mem hps h
      refine .inl (dop_sound hT hS h _ _ fun d v s2 V2 μ2 ω2 w2 hk hr2 hS2 hstep=>?_)
      obtain⟨h1,h2⟩:=hst _ _ _ _ hstep
      obtain⟨s3,h,hS3⟩:=putK_sound hS2 hr2 hk
      exact⟨h1,dopsT_sound hT hns hA hQ b false 0 _ _ _ s3 _ _ _ _ w2 K hBa (hcl.set hri) hS3 h2 h hq⟩
    . rw[if_neg (by rw[hw];simp)]
      obtain⟨s3,h,hS3⟩:=putK_sound hS (v:=undef) (d:=.tup []) (RS.tup [] #[] rfl (fun j v d h=>by simp at h)) h
      exact⟨fun x hx _=>let ⟨y,hy⟩:=hps.left x hx;hy.mono_,dopsT_sound hT hns hA hQ b false 0 _ _ _ s3 _ _ _ _ w K hBa (hcl.set hri) hS3 (hps.filter fun _ _ h=>h.1) h hq⟩
  have hmore:=dopsT_sound hT hns hA hQ r true b.depth listed ps sps s V μ ω a w K hBr hcl hS hps hrest hq
  dsimp only at hmore
  cases f with
  | true=>
   intro j hj
   have hn:b.depth=n:=Nat.eq_of_beq_eq_true hf
   subst hn
   rcases List.mem_cons.1 hj with rfl|hj
   . exact hone
   . exact hmore j hj
  | false=>
   have hr:Region.ready .any ops.toArray listed=i :: r.heads:=by simpa using hf
   refine⟨fun h0=>(by rw[hr] at h0;cases h0),fun j hj=>?_⟩
   rw[hr] at hj
   rcases List.mem_cons.1 hj with rfl|hj
   . exact hone
   . exact hmore j hj
theorem Ok.region_tree(hT:TOk P T)(hm:P.follows .mixedOrders=true){s:St}{Q:Exit->St->Prop}{id:Nat}{l:List Oper}(A:Waits)(p:Pl)(hB:planTok l.toArray A p=true)(h:dopsT P T l A p false [] s (Q .normal)) :
    Ok P T (.region id l.toArray true) Q s:=by
 refine⟨fun w0 V0 V μ ω a w hS=>?_⟩
 simp only[planTok,Bool.and_eq_true,beq_iff_eq] at hB
 obtain⟨⟨⟨hns,hA⟩,hlen⟩,hB⟩:=hB
 have hd:Ext w { w with drawn:=w.drawn+1 }:=(Below.refl w.heap.size w).drew
 refine wp_mono (Q:=fun e a' w'=>e = .normal/\∃ s' V' μ' ω',Q .normal s'/\Sim (szOf T) w0 V0 V' μ' ω' s' a' w') (wp_region_any hm ?_) ?_
 . refine wpAny_of_P (bef:=befW A) _ [] _ _ _ ?_
   have hz:∀ m j:Nat,(Array.replicate m false).getD j false=false:=fun m j=>by
    rcases Nat.lt_or_ge j m with h|h<;>simp[h]
   have hw:=dopsT_sound hT hns hA (Q:=fun e a' w'=>e = .normal/\∃ s' V' μ' ω',Q .normal s'/\Sim (szOf T) w0 V0 V' μ' ω' s' a' w') (fun c a w h=>by cases h.1) p false 0 _ [] [] s V μ ω a _ _ hB
    (fun j o _ hl=>by rw[hz] at hl;cases hl) (hS.ext hd) .nil h fun s' V' μ' ω' a' w' hk hS'=>⟨rfl,s',V',μ',ω',hk,hS'⟩
   rw[hlen] at hw
   exact hw
 . rintro e a' w' ⟨rfl,s',V',μ',ω',hk,hS'⟩
   exact⟨s',V',μ',ω',hk,hS'⟩
end
end Go.Vx
namespace Go.Vx
open Go.RowKit
def moveK(r:Nat)(s:St)(K:St->Prop):Prop:=
 match s with
 | ⟨env,box,row,n⟩=>match row[r]? with
  | some (some x)=>natLit row.length fun q=>subE r (fun m=>.own q m) env fun env=>subB r (fun m=>.own q m) box fun box=>setK row r none fun row=>snocK row (some x) fun row=>K ⟨env,box,row,n⟩
  | _=>False
def movesK:List Nat->St->(St->Prop)->Prop
 | [],s,K=>K s
 | r :: rs,s,K=>moveK r s fun s=>movesK rs s K
section
variable {w0 w w' : World} {V0 : Fr} {V : Vw} {μ : List Nat} {ω : List Value} {box : List (List D)} {row : Rows} {s : St} {a : Act} {P : Program} {T : Tab} {sz : TypeId → Nat}
theorem moveK_sound(hS:Sim sz w0 V0 V μ ω s a w){r:Nat}{K:St->Prop}(h:moveK r s K):∃ s' ω',K s'/\Sim sz w0 V0 V μ ω' s' a w:=by
 obtain⟨env,box,row,n⟩:=s
 simp only[moveK] at h
 split at h
 case h_2=>exact h.elim
 rename_i x hr
 simp only[natLit_eq,subE_eq,subB_eq] at h
 obtain⟨hrr,h⟩:=setK_iff _ _ _ _ h
 simp only[snocK_eq] at h
 have hM:=hS.mem
 have hl:ω.length=row.length:=hM.rl
 have hrω:r<ω.length:=by rw[hl];exact hrr
 obtain⟨v,hv⟩:∃ v,ω[r]? = some v:=⟨_,gEt0 hrω⟩
 have hω:∀ q u,q ≠ r->ω[q]? = some u->(ω++[v])[q]? = some u:=fun q u _ hq=>by
  rw[List.getElem?_append_left (gSm0.1 hq).1];exact hq
 have hlast:(ω++[v])[row.length]? = some v:=by rw[<- hl,List.getElem?_append_right (Nat.le_refl _)];simp
 have hconv:∀ m u,RS sz V μ ω u (.own r m)->RS sz V μ (ω++[v]) u (.own row.length m):=by
  intro m u hu
  obtain⟨A,N,c,h1,h2,rfl⟩:=hu.own_
  rw[hv] at h1
  cases h1
  exact .own _ m A N c hlast h2
 have own:∀ l g,Own μ (ω++[v]) (row.set r none++[some x]) l g->∃ l',Own μ ω row l' g/\((l = .inr row.length/\l' = .inr r)\/(l=l'/\l ≠ .inr r/\l ≠ .inr row.length)):=by
  intro l g hl2
  cases l with
  | inl i=>exact⟨.inl i,hl2,.inr ⟨rfl,by simp,by simp⟩⟩
  | inr q=>
   obtain⟨u,y,h1,h2,h3⟩:=hl2
   rcases Nat.lt_or_ge q row.length with hq|hq
   . rw[List.getElem?_append_left (by simpa using hq)] at h2
     rw[List.getElem?_append_left (by rw[hl];exact hq)] at h1
     by_cases hqr:q=r
     . subst hqr
       rw[List.getElem?_set_self hrr] at h2
       cases h2
     . rw[List.getElem?_set_ne (Ne.symm hqr)] at h2
       exact⟨.inr q,⟨u,y,h1,h2,h3⟩,.inr ⟨rfl,by simpa using hqr,by simp;omega⟩⟩
   . rw[List.getElem?_append_right (by simpa using hq)] at h2
     have hq2:q=row.length:=by
      have:=(gSm0.1 h2).1
      simp at this;omega
     subst hq2
     rw[hlast] at h1
     cases h1
     refine⟨.inr r,⟨v,x,hv,hr,h3⟩,.inl ⟨rfl,rfl⟩⟩
 refine⟨_,ω++[v],h,⟨hS.tmps,hS.defers,fun t=>?_,?_⟩⟩
 . show RS _ _ _ _ _ (look (env.map fun x=>(x.1,subDF r (fun m=>.own row.length m) x.2)) t)
   rw[look_sub]
   exact (hS.env t).sub (fun _ _ h=>h) hω hconv
 . refine⟨hM.below,hM.vok,hM.vle,hM.vold,by simp[hM.bl],?_,by simp[hl],?_,?_,?_,?_,fun x hx=>let ⟨a,b,c,d⟩:=hM.away x hx;⟨a,b,fun l hl=>let ⟨m,o1,_⟩:=own l _ hl;c m o1,d⟩⟩
   . intro i g c' h1 h2
     simp only[gMp0,Option.map_eq_some_iff] at h2
     obtain⟨cs,hcs,rfl⟩:=h2
     obtain⟨us,t',a1,b,c'',d,ty⟩:=hM.hbox i g cs h1 hcs
     refine⟨us,t',a1,by simpa using b,c'',fun j v d' e1 e2=>?_,bTy_sub (fun _=>rfl) ty⟩
     simp only[gMp0,Option.map_eq_some_iff] at e2
     obtain⟨d0,hd0,rfl⟩:=e2
     exact (d j v d0 e1 hd0).sub1 (fun _ _ h=>h) hω hconv
   . intro q u e' ys h1 h2
     rcases Nat.lt_or_ge q row.length with hq|hq
     . rw[List.getElem?_append_left (by simpa using hq)] at h2
       rw[List.getElem?_append_left (by rw[hl];exact hq)] at h1
       by_cases hqr:q=r
       . subst hqr
         rw[List.getElem?_set_self hrr] at h2
         cases h2
       . rw[List.getElem?_set_ne (Ne.symm hqr)] at h2
         exact hM.hrow q u e' ys h1 h2
     . rw[List.getElem?_append_right (by simpa using hq)] at h2
       have hq2:q=row.length:=by
        have:=(gSm0.1 h2).1
        simp at this;omega
       subst hq2
       rw[hlast] at h1
       cases h1
       simp at h2
       subst h2
       exact hM.hrow r v e' ys hv hr
   . intro l l' g h1 h2
     obtain⟨m,o1,c1⟩:=own l g h1
     obtain⟨m',o2,c2⟩:=own l' g h2
     have:=hM.uniq m m' g o1 o2
     rcases c1 with⟨e1,e2⟩|⟨e1,e2,e3⟩<;>rcases c2 with⟨f1,f2⟩|⟨f1,f2,f3⟩
     . rw[e1,f1]
     . exact absurd (by rw[f1,<- this,e2]) f2
     . exact absurd (by rw[e1,this,f2]) e2
     . rw[e1,f1,this]
   . intro l g h1
     obtain⟨m,o1,_⟩:=own l g h1
     exact hM.new m g o1
   . intro p u l hp h1
     obtain⟨m,o1,_⟩:=own l _ h1
     exact hM.vmut p u m hp o1
theorem movesK_sound:∀ (mv:List Nat) {s:St} {ω:List Value} {K:St->Prop},Sim sz w0 V0 V μ ω s a w->movesK mv s K->∃ s' ω',K s'/\Sim sz w0 V0 V μ ω' s' a w
 | [],_,_,_,hS,h=>⟨_,_,h,hS⟩
 | r :: rs,_,_,_,hS,h=>by
  obtain⟨s1,ω1,h1,hS1⟩:=moveK_sound hS h
  exact movesK_sound rs hS1 h1
theorem Ok.joinM{c:Code}{Q:Exit->St->Prop}{ι:Type}(L Cs:List Nat)(k kb:Nat)(C:ι->List D)(B:ι->List (List D))(R:ι->Rows)(I:Exit->ι->Prop)
    (h:keepK L 0 0 s fun s0=>match s0 with
     | ⟨env,_,_,n⟩=>(Ok P T c (fun e s'=>∃ x,I e x/\∃ mv,movesK mv s' fun s'=>keepK (catL Cs L) k kb s' fun s1=>s1=⟨envCat Cs (C x) env,B x,R x,n⟩) s) /\
      ∀ e x,I e x->envCatK Cs (C x) env fun env'=>Q e ⟨env',B x,R x,n⟩):Ok P T c Q s:=by
 obtain⟨⟨env,box,row,n⟩,h1,h2⟩:=keepK_some h
 refine⟨fun w0 V0 V μ ω a w hS=>wp_mono (h1.run w0 V0 V μ ω a w hS) ?_⟩
 rintro e a' w' ⟨s',V',μ',ω',⟨x,hI,mv,hk⟩,hS'⟩
 obtain⟨s1,ω1,hk,hS1⟩:=movesK_sound mv hS' hk
 obtain⟨s2,μ2,ω2,rfl,hS2⟩:=keepK_sound hS1 hk
 have:=h2 e x hI
 rw[envCatK_eq] at this
 exact⟨_,V',μ2,ω2,this,hS2⟩
theorem Ok.joinV{c:Code}{Q:Exit->St->Prop}{ι:Type}(L Cs:List Nat)(k0 kb0 k kb:Nat)(C:ι->List D)(B:ι->List (List D))(R:ι->Rows)(I:Exit->ι->Prop)
    (h:keepK L k0 kb0 s fun s0=>match s0 with
     | ⟨env,_,_,n⟩=>(Ok P T c (fun e s'=>∃ x,I e x/\keepK (catL Cs L) k kb s' fun s1=>s1=⟨envCat Cs (C x) env,B x,R x,n⟩) s) /\
      ∀ e x,I e x->envCatK Cs (C x) env fun env'=>Q e ⟨env',B x,R x,n⟩):Ok P T c Q s:=by
 obtain⟨⟨env,box,row,n⟩,h1,h2⟩:=keepK_some h
 exact Ok.joinK (catL Cs L) k kb (fun x=>⟨envCat Cs (C x) env,B x,R x,n⟩) I h1 fun e x hx=>by
  have:=h2 e x hx
  rwa [envCatK_eq] at this
end
end Go.Vx
namespace Go.Vx
open Go.RowKit
abbrev Objs:=List (Nat × Obj)
def Fr.with(F:Fr)(M:Objs):Fr:={ F with kp:=M++F.kp }
structure SimM(sz:TypeId->Nat)(w0:World)(F:Fr)(V:Vw)(μ:List Nat)(ω:List Value)(s:St)(a:Act)(w:World)(H M:Objs):Prop where
 sim:Sim sz w0 (F.with M) V μ ω s a w
 nodup:((M++F.kp).map (·.1)).Nodup
 old:∀ x ∈ H,w0.heap[x.1]? = some x.2
structure OkM(P:Program)(T:Tab)(H:Objs)(c:Code)(Q:Exit->St->Objs->Prop)(s:St)(M:Objs):Prop where
 run:∀ (w0:World) (F:Fr) (V:Vw) (μ:List Nat) (ω:List Value) (a:Act) (w:World),SimM (szOf T) w0 F V μ ω s a w H M ->
  c.wp P (fun e a' w'=>∃ s' V' μ' ω' M',Q e s' M'/\SimM (szOf T) w0 F V' μ' ω' s' a' w' H M') a w
section
variable {P : Program} {T : Tab} {H M : Objs} {s : St} {Q : Exit → St → Objs → Prop}
theorem OkM.of_ok{c:Code}(h:Ok P T c (fun e s'=>Q e s' M) s):OkM P T H c Q s M:=by
 refine⟨fun w0 F V μ ω a w hS=>wp_mono (h.run w0 (F.with M) V μ ω a w hS.sim) ?_⟩
 rintro e a' w' ⟨s',V',μ',ω',hk,hS'⟩
 exact⟨s',V',μ',ω',M,hk,hS',hS.nodup,hS.old⟩
def thenM(N:St->Objs->Prop)(Q:Exit->St->Objs->Prop):Exit->St->Objs->Prop
 | .normal,s,M=>N s M
 | e,s,M=>Q e s M
theorem OkM.seq{x y:Code}(h:OkM P T H x (thenM (OkM P T H y Q) Q) s M):OkM P T H (.seq x y) Q s M:=by
 refine⟨fun w0 F V μ ω a w hS=>wp_seq (wp_mono (h.run w0 F V μ ω a w hS) ?_)⟩
 rintro e a' w' ⟨s',V',μ',ω',M',hk,hS'⟩
 cases e with
 | normal=>exact OkM.run hk w0 F V' μ' ω' a' w' hS'
 | _=>exact⟨s',V',μ',ω',M',hk,hS'⟩
theorem OkM.skip(h:Q .normal s M):OkM P T H .skip Q s M:=⟨fun _ _ V μ ω _ _ hS=>wp_skip ⟨s,V,μ,ω,M,h,hS⟩⟩
theorem OkM.ret(h:Q .ret s M):OkM P T H .ret Q s M:=⟨fun _ _ V μ ω _ _ hS=>wp_ret ⟨s,V,μ,ω,M,h,hS⟩⟩
theorem OkM.exit{id:Nat}(h:Q (.exit id) s M):OkM P T H (.exit id) Q s M:=⟨fun _ _ V μ ω _ _ hS=>wp_exit ⟨s,V,μ,ω,M,h,hS⟩⟩
def blockM(id:Nat)(Q:Exit->St->Objs->Prop):Exit->St->Objs->Prop
 | .exit id',s,M=>match Nat.beq id' id with|true=>Q .normal s M|false=>Q (.exit id') s M
 | e,s,M=>Q e s M
theorem OkM.block{id:Nat}{c:Code}(h:OkM P T H c (blockM id Q) s M):OkM P T H (.block id c) Q s M:=by
 refine⟨fun w0 F V μ ω a w hS=>?_⟩
 refine wp_block (wp_mono (h.run w0 F V μ ω a w hS) ?_)
 rintro e a' w' ⟨s',V',μ',ω',M',hk,hS'⟩
 cases e with
 | exit id'=>
  simp only[blockM] at hk
  simp only[Exit.inBlock]
  split at hk
  . rename_i hb
    rw[if_pos (beq_nat_true hb)]
    exact⟨s',V',μ',ω',M',hk,hS'⟩
  . rename_i hb
    rw[if_neg (by rintro rfl;rw[Nat.beq_refl] at hb;cases hb)]
    exact⟨s',V',μ',ω',M',hk,hS'⟩
 | _=>exact⟨s',V',μ',ω',M',hk,hS'⟩
theorem SimM.of{sz:TypeId->Nat}{w0 w w':World}{F:Fr}{V V':Vw}{μ μ':List Nat}{ω ω':List Value}{s s':St}{a a':Act}(h:SimM sz w0 F V μ ω s a w H M)(h':Sim sz w0 (F.with M) V' μ' ω' s' a' w'):SimM sz w0 F V' μ' ω' s' a' w' H M:=
 ⟨h',h.nodup,h.old⟩
theorem SimM.sub{sz:TypeId->Nat}{w0 w:World}{F:Fr}{V:Vw}{μ:List Nat}{ω:List Value}{a:Act}{M':Objs}(h:SimM sz w0 F V μ ω s a w H M)(hs:M'.Sublist M):SimM sz w0 F V μ ω s a w H M':=by
 have hm:∀ x ∈ M'++F.kp,x ∈ M++F.kp:=fun x hx=>by
  rcases mAp0.1 hx with hx|hx
  . exact List.mem_append_left _ (hs.subset hx)
  . exact List.mem_append_right _ hx
 obtain⟨ms,e1,e2,e3⟩:=h.sim.defers.marks
 exact⟨⟨h.sim.tmps,⟨⟨ms,e1,e2,fun D hD=>⟨(e3 D hD).1,(e3 D hD).2.1,fun x hx=>(e3 D hD).2.2 x (hm x hx)⟩⟩,fun x hx=>h.sim.defers.kept x (hm x hx)⟩,h.sim.env,h.sim.mem.fr rfl⟩,h.nodup.sublist ((hs.append (List.Sublist.refl _)).map _),h.old⟩
theorem OkM.cond{c:Operand}{x y:Code}(h:condK s c (fun s=>OkM P T H x Q s M) (fun s=>OkM P T H y Q s M)):OkM P T H (.cond c x y) Q s M:=by
 refine⟨fun w0 F V μ ω a w hS=>?_⟩
 have hc:=hS.sim.get c
 unfold condK at h
 split at h
 . rename_i hd;rw[hd] at hc;exact wp_cond_true hc.tt_ (h.run w0 F V μ ω a w hS)
 . rename_i hd;rw[hd] at hc;exact wp_cond_false hc.ff_ (h.run w0 F V μ ω a w hS)
 . rename_i p hd
   rw[hd] at hc
   obtain⟨b,hb,hbp⟩:=hc.bool
   cases b with
   | true=>exact wp_cond_true hb ((h.1 (hbp.1 rfl)).run w0 F V μ ω a w (hS.of (hS.sim.know c (by rw[hb];exact .imm _ _ .tt))))
   | false=>exact wp_cond_false hb ((h.2 (fun hp=>by simpa using hbp.2 hp)).run w0 F V μ ω a w (hS.of (hS.sim.know c (by rw[hb];exact .imm _ _ .ff))))
 . exact h.elim
theorem OkM.loopK{c:Code}{ι:Type}(L:List Nat)(k kb:Nat)(mk:ι->St)(mo:ι->Objs)(I:ι->Prop)(m:ι->Nat)(x0:ι)(h0:I x0)(hm:(mo x0).Sublist M)(hs:keepK L k kb s (·=mk x0))
    (round:∀ x,I x->OkM P T H c (thenM (fun s' M'=>∃ x',m x' < m x/\I x'/\(mo x').Sublist M'/\keepK L k kb s' (·=mk x')) Q) (mk x) (mo x)):OkM P T H (.loop c) Q s M:=by
 refine⟨fun w0 F V μ ω a w hS=>?_⟩
 replace hS:=hS.sub hm
 obtain⟨s',μ',ω',rfl,hS'⟩:=keepK_sound hS.sim hs
 refine wp_loop_at (fun n a w=>∃ x V μ ω,m x=n/\I x/\SimM (szOf T) w0 F V μ ω (mk x) a w H (mo x)) ?_ ⟨x0,V,μ',ω',rfl,h0,hS.of hS'⟩
 rintro n a w ⟨x,V,μ,ω,rfl,hI,hS⟩
 refine wp_mono ((round x hI).run w0 F V μ ω a w hS) ?_
 rintro e a' w' ⟨s',V',μ',ω',M',hk,hS'⟩
 cases e with
 | normal=>
  obtain⟨x',hlt,hI',hsb,hk⟩:=hk
  replace hS':=hS'.sub hsb
  obtain⟨s2,μ2,ω2,rfl,hS2⟩:=keepK_sound hS'.sim hk
  exact⟨m x',hlt,x',V',μ2,ω2,rfl,hI',hS'.of hS2⟩
 | _=>exact⟨s',V',μ',ω',M',hk,hS'⟩
theorem OkM.loopU{c:Code}{ι:Type}(L Cs:List Nat)(k kb:Nat)(C:ι->List D)(B:ι->List (List D)->List (List D))(R:ι->Rows->Rows)(mo:ι->Objs)(I:ι->Prop)(m:ι->Nat)(x0:ι)(h0:I x0)(hm:(mo x0).Sublist M)
    (h:keepK L k kb s fun s0=>match s0 with
     | ⟨env,box,row,n⟩=>(keepK (catL Cs L) k kb s fun s1=>s1=⟨envCat Cs (C x0) env,B x0 box,R x0 row,n⟩) /\
      ∀ x,I x->envCatK Cs (C x) env fun env'=>OkM P T H c (thenM (fun s' M'=>∃ x',m x' < m x/\I x'/\(mo x').Sublist M'/\keepK (catL Cs L) k kb s' fun s1=>s1=⟨envCat Cs (C x') env,B x' box,R x' row,n⟩) Q) ⟨env',B x box,R x row,n⟩ (mo x)):OkM P T H (.loop c) Q s M:=by
 obtain⟨⟨env,box,row,n⟩,h1,h2⟩:=keepK_some h
 exact OkM.loopK (catL Cs L) k kb (fun x=>⟨envCat Cs (C x) env,B x box,R x row,n⟩) mo I m x0 h0 hm h1 fun x hx=>by
  have:=h2 x hx
  rwa [envCatK_eq] at this
end
end Go.Vx
namespace Go.Vx
open Go.RowKit Go.MapKept
section
variable {κ α : Type} [DecidableEq κ]
def mfind(k:κ):List (κ × α × Nat)->Nat->Option (Nat × α)
 | [],_=>none
 | e :: l,i=>if e.1=k then some (i,e.2.1) else mfind k l (i+1)
def lk(l:List (κ × α × Nat))(k:κ):Option α:=(mfind k l 0).map (·.2)
def mput(l:List (κ × α × Nat))(c:Nat)(k:κ)(a:α):List (κ × α × Nat) × Nat:=match mfind k l 0 with
 | some (i,_)=>(l.modify i fun e=>(e.1,a,e.2.2),c)
 | none=>(l++[(k,a,c)],c+1)
def mdel(l:List (κ × α × Nat))(k:κ):List (κ × α × Nat):=match mfind k l 0 with
 | some (i,_)=>l.eraseIdx i
 | none=>l
noncomputable def mEnt(kd:κ->D)(f:Option α->D)(e:κ × α × Nat):MapEntry:=⟨toV (kd e.1),toV (f (some e.2.1)),e.2.2⟩
noncomputable def mObj(kd:κ->D)(f:Option α->D)(l:List (κ × α × Nat))(c:Nat):Obj:=.map (l.map (mEnt kd f)).toArray c
structure KeyOk(P:Program)(kt:TypeId)(kd:κ->D):Prop where
 check:∀ b k w,(Instr.checkKey b 10000 kt (toV (kd k))).run P w = .ok () w
 find:∀ {β:Type} (f:Option β->D) (l:List (κ × β × Nat)) (k:κ) (w:World),(Instr.findKey kt (toV (kd k)) (l.map (mEnt kd f))).run P w = .ok ((mfind k l 0).map fun x=>(x.1,toV (f (some x.2)))) w
 stays:∀ k w,(Instr.keyThatStays (toV (kd k)) (toV (kd k))).run P w = .ok (toV (kd k)) w
 ground:∀ k,(kd k).ground'=true
def stp(l:List (κ × α × Nat))(c:Nat)(k:κ):Nat:=match mfind k l 0 with
 | some (i,_)=>((l[i]?).map (·.2.2)).getD 0
 | none=>c
theorem mfind_i{l:List (κ × α × Nat)}{k:κ}{i j:Nat}{x:α}(h:mfind k l j=some (i,x)):j<=i/\∃ n,l[i - j]? = some (k,x,n):=by
 induction l generalizing i j x with
 | nil=>cases h
 | cons e l ih=>
  simp only[mfind] at h
  split at h
  . rename_i he
    cases h
    exact⟨Nat.le_refl _,e.2.2,by simp[<- he]⟩
  . obtain⟨h1,n,h2⟩:=ih h
    refine⟨by omega,n,?_⟩
    rw[show i - j=(i - (j+1))+1 by omega,List.getElem?_cons_succ]
    exact h2
end
theorem keyS{P:Program}{kt:TypeId}(h:P.underlying kt=some .string):KeyOk P kt (κ:=List UInt8) D.s:=by
 have hf:∀ {β:Type} (f:Option β->D) (k:List UInt8) (l:List (List UInt8 × β × Nat)) (i:Nat),Instr.findNow .string (toV (.s k)) (l.map (mEnt D.s f)) i=some ((mfind k l i).map fun x=>(x.1,toV (f (some x.2)))):=by
  intro β f k l
  induction l with
  | nil=>intro i;rfl
  | cons e l ih=>
   intro i
   obtain⟨k',b,n⟩:=e
   simp only[List.map_cons,Instr.findNow,mEnt,toV,toV1,Instr.sameNow,mfind]
   by_cases hk:k'=k
   . subst hk
     rw[(bytes_beq (bstr k') (bstr k')).2 rfl,if_pos rfl]
     rfl
   . have:(bstr k == bstr k')=false:=by
       cases hb:bstr k == bstr k' with
       | false=>rfl
       | true=>exact absurd (bstr_inj ((bytes_beq _ _).1 hb)).symm hk
     rw[this,if_neg hk]
     exact ih (i+1)
 refine⟨fun b k w=>?_,fun f l k w=>?_,fun k w=>?_,fun _=>rfl⟩
 . exact run_checkKey (d:=.string) (k:=.string (bstr k)) h trivial b 9999
 . simp only[Instr.findKey,Sem.run_bind,run_under h,Result.andThen_ok,hf,Sem.run_pure]
 . exact run_keyThatStays (d:=.string) (k:=.string (bstr k)) trivial
theorem keyI{P:Program}{kt:TypeId}{q:IntKind}(h:P.underlying kt=some (.int q)):KeyOk P kt (κ:=Int) (D.i q):=by
 have hf:∀ {β:Type} (f:Option β->D) (k:Int) (l:List (Int × β × Nat)) (i:Nat),Instr.findNow (.int q) (toV (.i q k)) (l.map (mEnt (D.i q) f)) i=some ((mfind k l i).map fun x=>(x.1,toV (f (some x.2)))):=by
  intro β f k l
  induction l with
  | nil=>intro i;rfl
  | cons e l ih=>
   intro i
   obtain⟨k',b,n⟩:=e
   simp only[List.map_cons,Instr.findNow,mEnt,toV,toV1,Instr.sameNow,mfind,if_true]
   by_cases hk:k'=k
   . subst hk;simp
   . have:(k == k')=false:=by
       rw[beq_eq_false_iff_ne]
       exact fun e=>hk e.symm
     rw[this,if_neg hk]
     exact ih (i+1)
 refine⟨fun b k w=>?_,fun f l k w=>?_,fun k w=>?_,fun _=>rfl⟩
 . exact run_checkKey (d:=.int q) (k:=.int q k) h rfl b 9999
 . simp only[Instr.findKey,Sem.run_bind,run_under h,Result.andThen_ok,hf,Sem.run_pure]
 . exact run_keyThatStays (d:=.int q) (k:=.int q k) rfl
theorem map_erase{β γ:Type}(h:β->γ):∀ (l:List β) (i:Nat),(l.map h).eraseIdx i=(l.eraseIdx i).map h
 | [],_=>rfl
 | _ :: _,0=>rfl
 | x :: l,i+1=>by simp only[List.map_cons,List.eraseIdx_cons_succ,map_erase h l i]
structure MTy(P:Program)(t:TypeId){κ α:Type}[DecidableEq κ](kd:κ->D)(f:Option α->D):Prop where
 und:∃ kt et,P.underlying t=some (.map kt et)/\KeyOk P kt kd/\∀ w,(zeroValue et).run P w = .ok (toV (f none)) w
 vg:∀ o,(f o).ground'=true
section
variable {P : Program} {t : TypeId} {κ α : Type} [DecidableEq κ] {kd : κ → D} {f : Option α → D} {w : World} {g : Nat} {l : List (κ × α × Nat)} {c : Nat} {k : κ} {a0 : α}
theorem run_setObj_of{r:Nat}{es:Array MapEntry}{clock:Nat}(o:Obj)(hb:w.heap[r]? = some (.map es clock)):(setObj r o).run P w = .ok () (w.putObj r o):=
 run_setObj_map o hb
theorem MTy.lookup(h:MTy P t kd f)(hb:w.heap[g]? = some (mObj kd f l c))(k:κ)(ok:Bool) :
    (Instr.lookup t (.map (some g)) (toV (kd k)) ok).run P w = .ok (if ok then .tuple #[toV (f (lk l k)),.bool (lk l k).isSome] else toV (f (lk l k))) w:=by
 obtain⟨⟨kt,et,hu,hk,hz⟩,_⟩:=h
 simp only[Instr.lookup,Sem.run_bind,run_under hu,Result.andThen_ok,getObj,Sem.run,hb,mObj,Result.andThen,Sem.run_pure,hk.check,hk.find,lk]
 cases hm:mfind k l 0 with
 | none=>simp[hz]
 | some x=>simp
theorem MTy.update(h:MTy P t kd f)(hb:w.heap[g]? = some (mObj kd f l c))(k:κ)(a:α) :
    (Instr.mapUpdate t (.map (some g)) (toV (kd k)) (toV (f (some a)))).run P w = .ok () (w.putObj g (mObj kd f (mput l c k a).1 (mput l c k a).2)):=by
 obtain⟨⟨kt,et,hu,hk,hz⟩,_⟩:=h
 simp only[Instr.mapUpdate,Sem.run_bind,run_under hu,Result.andThen_ok,getObj,Sem.run,hb,mObj,Result.andThen,Sem.run_pure,hk.check,hk.find,mput]
 have hat:∀ {l:List (κ × α × Nat)} {i j:Nat} {x:α},mfind k l j=some (i,x)->j<=i/\∃ n,l[i - j]? = some (k,x,n):=by
  intro l
  induction l with
  | nil=>intro i j x h;cases h
  | cons e l ih=>
   intro i j x h
   simp only[mfind] at h
   split at h
   . rename_i he
     cases h
     exact⟨Nat.le_refl _,e.2.2,by simp[<- he]⟩
   . obtain⟨h1,n,h2⟩:=ih h
     refine⟨by omega,n,?_⟩
     rw[show i - j=(i - (j+1))+1 by omega,List.getElem?_cons_succ]
     exact h2
 cases hm:mfind k l 0 with
 | none=>
  simp only[Option.map_none]
  rw[run_setObj_of _ hb]
  congr 3
  simp[mEnt]
 | some x=>
  obtain⟨i,x⟩:=x
  obtain⟨_,n,hi⟩:=hat hm
  simp only[Option.map_some,Nat.sub_zero] at hi ⊢
  have hi2:(l.map (mEnt kd f)).toArray[i]? = some ⟨toV (kd k),toV (f (some x)),n⟩:=by simp[hi,mEnt]
  simp only[hi2,Option.map_some,Option.getD_some,hk.stays,Sem.run_bind,Result.andThen]
  rw[run_setObj_of _ hb]
  congr 3
  apply Array.ext'
  simp only[Array.toList_modify]
  apply List.ext_getElem?
  intro j
  simp only[List.getElem?_modify,gMp0]
  by_cases hj:i=j
  . subst hj
    simp[hi,mEnt]
  . simp[hj]
theorem MTy.delete(h:MTy P t kd f)(hb:w.heap[g]? = some (mObj kd f l c))(k:κ)(t2 ty:TypeId) :
    (Builtin.delete_ #[t,t2] ty #[.map (some g),toV (kd k)]).run P w = .ok (.tuple #[]) (w.putObj g (mObj kd f (mdel l k) c)):=by
 obtain⟨⟨kt,et,hu,hk,hz⟩,_⟩:=h
 have e1:(#[t,t2]:Array TypeId)[0]? = some t:=rfl
 have e2:(#[Value.map (some g),toV (kd k)]:Array Value)[0]? = some (.map (some g)):=rfl
 have e3:(#[Value.map (some g),toV (kd k)]:Array Value)[1]? = some (toV (kd k)):=rfl
 simp only[Builtin.delete_,e1,e2,e3,Sem.run_bind,run_under hu,Result.andThen_ok,getObj,Sem.run,hb,mObj,Result.andThen,Sem.run_pure,hk.check,hk.find,mdel]
 cases hm:mfind k l 0 with
 | none=>
  simp only[Option.map_none,Sem.run_bind,run_setObj_of (P:=P) _ hb,Result.andThen,Sem.run_pure]
 | some x=>
  simp only[Option.map_some,Sem.run_bind,run_setObj_of (P:=P) _ hb,Result.andThen,Sem.run_pure]
  congr 3
  apply Array.ext'
  simp[Array.eraseIdxIfInBounds]
  split
  . exact map_erase _ _ _
  . rename_i hlt
    rw[List.eraseIdx_of_length_le (by omega)]
theorem MTy.make(h:MTy P t kd f)(w:World):(Instr.makeMap t none).run P w = .ok (.map (some w.heap.size)) (w.alloc (mObj kd f [] 0)):=by
 simp only[Instr.makeMap,Sem.run_bind,run_newObj,Sem.run_pure,Result.andThen,mObj,List.map_nil]
 rfl
theorem MTy.entry(h:MTy P t kd f)(hb:w.heap[g]? = some (mObj kd f l c))(k:κ){z:α}(hz0:f (some z)=f none) :
    (Instr.mapEntry t (.map (some g)) (toV (kd k))).run P w = .ok (.tuple #[toV (f (lk l k)),goInt (stp l c k)]) (w.putObj g (mObj kd f (mput l c k ((lk l k).getD z)).1 (mput l c k ((lk l k).getD z)).2)):=by
 obtain⟨⟨kt,et,hu,hk,hz⟩,_⟩:=h
 simp only[Instr.mapEntry,Sem.run_bind,run_under hu,Result.andThen_ok,getObj,Sem.run,hb,mObj,Result.andThen,Sem.run_pure,hk.check,hk.find,mput,lk,stp]
 cases hm:mfind k l 0 with
 | none=>
  simp only[Option.map_none,Option.getD_none,Sem.run_bind,hz,Result.andThen_ok]
  rw[run_setObj_of _ hb]
  simp only[Result.andThen_ok,Sem.run_pure]
  congr 3
  simp[mEnt,hz0]
 | some x=>
  obtain⟨i,x⟩:=x
  obtain⟨_,n,hi⟩:=mfind_i hm
  simp only[Option.map_some,Nat.sub_zero,Option.getD_some] at hi ⊢
  have hi2:(l.map (mEnt kd f)).toArray[i]? = some ⟨toV (kd k),toV (f (some x)),n⟩:=by simp[hi,mEnt]
  simp only[hi2,Option.map_some,Option.getD_some,hk.stays,Sem.run_bind,Result.andThen,hi]
  rw[run_setObj_of _ hb]
  simp only[Result.andThen_ok,Sem.run_pure]
  congr 3
  apply Array.ext'
  simp only[Array.toList_modify]
  apply List.ext_getElem?
  intro j
  simp only[List.getElem?_modify,gMp0]
  by_cases hj:i=j
  . subst hj
    simp[hi,mEnt]
  . simp[hj]
theorem stp_idx(hnd:(l.map fun e=>e.2.2).Nodup)(hlt:∀ e ∈ l,e.2.2<c)(k:κ)(a0:α):∃ i,(mput l c k a0).1[i]? = some (k,a0,stp l c k)/\(∀ j e,(mput l c k a0).1[j]? = some e->e.2.2=stp l c k->j=i)/\∀ a,(mput l c k a0).1.modify i (fun e=>(e.1,a,e.2.2))=(mput l c k a).1:=by
 unfold mput stp
 cases hm:mfind k l 0 with
 | none=>
  refine⟨l.length,by simp,fun j e hj he=>?_,fun a=>?_⟩
  . simp only at hj he
    rw[List.getElem?_append] at hj
    split at hj
    . have:=hlt e (mOf0 hj)
      omega
    . rename_i h1
      have:=(gSm0.1 hj).1
      simp at this
      omega
  . simp only
    apply List.ext_getElem?
    intro j
    simp only[List.getElem?_modify,List.getElem?_append]
    by_cases hj:j<l.length
    . have h1:¬ l.length=j:=by omega
      simp[hj,h1]
    . by_cases h2:l.length=j
      . subst h2;simp
      . have h3:[(k,a0,c)][j - l.length]? = none:=List.getElem?_eq_none (by simp;omega)
        have h4:[(k,a,c)][j - l.length]? = none:=List.getElem?_eq_none (by simp;omega)
        simp[hj,h2,h3,h4]
 | some x=>
  obtain⟨i,x⟩:=x
  obtain⟨_,n,hi⟩:=mfind_i hm
  simp only[Nat.sub_zero] at hi
  refine⟨i,by simp[hi],fun j e hj he=>?_,fun a=>?_⟩
  . simp only[hi,Option.map_some,Option.getD_some] at he
    simp only[List.getElem?_modify] at hj
    obtain⟨e0,he0,hee⟩:=Option.map_eq_some_iff.1 hj
    have h1:(l.map fun e=>e.2.2)[j]? = some n:=by
     rw[gMp0,he0]
     rw[<- he,<- hee]
     split<;>rfl
    have h2:(l.map fun e=>e.2.2)[i]? = some n:=by rw[gMp0,hi];rfl
    exact (List.getElem?_inj (gSm0.1 h1).1 hnd).1 (h1.trans h2.symm)
  . simp only
    apply List.ext_getElem?
    intro j
    simp only[List.getElem?_modify]
    by_cases hj:i=j
    . subst hj;simp[hi]
    . simp[hj]
theorem MTy.entStore(hb:w.heap[g]? = some (mObj kd f (mput l c k a0).1 (mput l c k a0).2))(hnd:(l.map fun e=>e.2.2).Nodup)(hlt:∀ e ∈ l,e.2.2<c)(a:α) :
    (Instr.entryStore t (.map (some g)) (goInt (stp l c k)) (toV (f (some a)))).run P w = .ok () (w.putObj g (mObj kd f (mput l c k a).1 (mput l c k a).2)):=by
 obtain⟨i,h1,h2,h3⟩:=stp_idx hnd hlt k a0
 have hc:(mput l c k a0).2=(mput l c k a).2:=by unfold mput;split<;>rfl
 have hidx:((mput l c k a0).1.map (mEnt kd f)).toArray.findIdx? (fun e=>(e.born:Int) == ((stp l c k:Nat):Int))=some i:=by
  have hlt:=(gSm0.1 h1).1
  rw[Array.findIdx?_eq_some_iff_getElem]
  refine⟨by simpa using hlt,?_,fun j hj=>?_⟩
  . have:=(gSm0.1 h1).2
    simp[mEnt,this]
  . simp only[List.getElem_toArray,List.getElem_map,mEnt,beq_iff_eq]
    intro he
    have:=h2 j _ (gEt0 (by omega)) (by exact_mod_cast he)
    omega
 simp only[Instr.entryStore,goInt,asInt,asIntOf,Sem.run_bind,Result.andThen_ok,getObj,Sem.run,hb,mObj,Result.andThen,Sem.run_pure,hidx]
 rw[run_setObj_of _ hb]
 congr 3
 . apply Array.ext'
   simp only[Array.toList_modify]
   rw[<- h3 a]
   apply List.ext_getElem?
   intro j
   simp only[List.getElem?_modify,gMp0]
   by_cases hj:i=j
   . subst hj
     simp[h1,mEnt]
   . simp[hj]
end
end Go.Vx
namespace Go.Vx
open Go.RowKit
section
variable {sz : TypeId → Nat} {w0 w : World} {F : Fr} {V : Vw} {μ : List Nat} {ω : List Value} {s : St} {a : Act} {H M : Objs}
theorem SimM.kept(h:SimM sz w0 F V μ ω s a w H M){x:Nat × Obj}(hx:x ∈ M):w.heap[x.1]? = some x.2/\noC x.2/\w0.heap.size<=x.1:=h.sim.defers.kept x (List.mem_append_left _ hx)
theorem SimM.read(h:SimM sz w0 F V μ ω s a w H M){x:Nat × Obj}(hx:x ∈ H++M):w.heap[x.1]? = some x.2:=by
 rcases mAp0.1 hx with hx|hx
 . have ho:=h.old x hx
   rw[h.sim.mem.below.block x.1 (Array.getElem?_eq_some_iff.1 ho).1]
   exact ho
 . exact (h.kept hx).1
theorem SimM.new(h:SimM sz w0 F V μ ω s a w H M)(o:Obj)(hn:noC o):SimM sz w0 F V μ ω s a (w.alloc o) H ((w.heap.size,o) :: M):=by
 have hS:=h.sim.ext (Ext.alloc w o)
 have hlt:∀ x ∈ M++F.kp,x.1<w.heap.size:=fun x hx=>(Array.getElem?_eq_some_iff.1 (h.sim.defers.kept x hx).1).1
 obtain⟨ms,e1,e2,e3⟩:=h.sim.defers.marks
 refine⟨⟨hS.tmps,⟨⟨ms,e1,e2,fun D hD=>?_⟩,fun x hx=>?_⟩,hS.env,hS.mem.fr rfl⟩,?_,h.old⟩
 . obtain⟨f1,f2,f3⟩:=e3 D hD
   refine⟨(Ext.alloc w o).heap f1,f2,fun x hx=>?_⟩
   rcases List.mem_cons.1 hx with rfl|hx
   . have:=(Array.getElem?_eq_some_iff.1 f1).1
     show w.heap.size ≠ D
     omega
   . exact f3 x hx
 . rcases List.mem_cons.1 hx with rfl|hx
   . exact⟨heap_alloc_new w o,hn,h.sim.mem.below.size⟩
   . obtain⟨f1,f2,f3⟩:=h.sim.defers.kept x hx
     exact⟨(Ext.alloc w o).heap f1,f2,f3⟩
 . simp only[List.cons_append,List.map_cons,List.nodup_cons]
   refine⟨fun hm=>?_,h.nodup⟩
   obtain⟨x,hx,e⟩:=List.mem_map.1 hm
   have:=hlt x hx
   omega
theorem SimM.put(h:SimM sz w0 F V μ ω s a w H M){n g:Nat}{o:Obj}(o':Obj)(hn:noC o')(hg:M[n]? = some (g,o)):SimM sz w0 F V μ ω s a (w.putObj g o') H (M.set n (g,o')):=by
 obtain⟨k1,k2,k3⟩:=h.kept (mOf0 hg)
 have hlt:g<w.heap.size:=(Array.getElem?_eq_some_iff.1 k1).1
 have hnl:n<M.length:=(gSm0.1 hg).1
 obtain⟨ms,e1,e2,e3⟩:=h.sim.defers.marks
 have hkeys:(M.set n (g,o')).map (·.1)=M.map (·.1):=by
  rw[List.map_set]
  apply List.ext_getElem?
  intro j
  by_cases hj:n=j
  . subst hj
    rw[List.getElem?_set_self (by simpa using hnl),gMp0,hg]
    rfl
  . rw[List.getElem?_set_ne hj]
 have hother:∀ j x,(M++F.kp)[j]? = some x->j ≠ n->x.1 ≠ g:=by
  intro j x hx hj e
  have hnd:=h.nodup
  have h1:((M++F.kp).map (·.1))[j]? = some g:=by rw[gMp0,hx,<- e];rfl
  have h2:((M++F.kp).map (·.1))[n]? = some g:=by rw[gMp0,List.getElem?_append_left hnl,hg];rfl
  exact hj ((List.getElem?_inj (gSm0.1 h1).1 hnd).1 (h1.trans h2.symm))
 have hk:∀ x ∈ M.set n (g,o')++F.kp,(w.putObj g o').heap[x.1]? = some x.2/\noC x.2/\w0.heap.size<=x.1:=by
  intro x hx
  obtain⟨j,hj⟩:=List.getElem?_of_mem hx
  by_cases hjn:j=n
  . subst hjn
    rw[List.getElem?_append_left (by simpa using hnl),List.getElem?_set_self hnl] at hj
    cases hj
    exact⟨World.putObj_heap_same hlt,hn,k3⟩
  . have hj2:(M++F.kp)[j]? = some x:=by
      rw[List.getElem?_append] at hj ⊢
      simp only[List.length_set,List.getElem?_set_ne (Ne.symm hjn)] at hj
      exact hj
    obtain⟨f1,f2,f3⟩:=h.sim.defers.kept x (mOf0 hj2)
    exact⟨(World.putObj_heap_other (hother j x hj2 hjn)).trans f1,f2,f3⟩
 refine⟨⟨h.sim.tmps,⟨⟨ms,e1,e2,fun D hD=>?_⟩,hk⟩,h.sim.env,(h.sim.mem.putOther o' k1 k2 k3).fr rfl⟩,?_,h.old⟩
 . obtain⟨f1,f2,f3⟩:=e3 D hD
   have hDg:D ≠ g:=fun e=>f3 (g,o) (List.mem_append_left _ (mOf0 hg)) e.symm
   refine⟨(World.putObj_heap_other hDg).trans f1,f2,fun x hx e=>?_⟩
   obtain⟨j,hj⟩:=List.getElem?_of_mem (show x ∈ M.set n (g,o')++F.kp from hx)
   by_cases hjn:j=n
   . subst hjn
     rw[List.getElem?_append_left (by simpa using hnl),List.getElem?_set_self hnl] at hj
     cases hj
     exact hDg e.symm
   . refine f3 x (mOf0 (i:=j) ?_) e
     show (M++F.kp)[j]? = some x
     rw[List.getElem?_append] at hj ⊢
     simp only[List.length_set,List.getElem?_set_ne (Ne.symm hjn)] at hj
     exact hj
 . rw[List.map_append,hkeys,<- List.map_append]
   exact h.nodup
theorem noC_map(es:Array MapEntry)(c:Nat):noC (.map es c):=fun _ _ _ e=>by cases e
theorem noC_iter(m:Option Nat)(b:Nat)(seen:Array Nat)(c:Nat):noC (.mapIter m b seen c):=fun _ _ _ e=>by cases e
end
end Go.Vx
namespace Go.Vx
open Go.RowKit
section
variable {P : Program} {T : Tab} {s : St} {Q : Exit → St → Prop}
theorem start_sim{fn:Func}{ds:List D}{V:Vw}{w:World}{args:Array Value}{df:List Deferred}(hn:ds.length<=fn.ntmps)(hV:VOk V w)(hl:args.size=ds.length)
    (hR:∀ (j:Nat) v d,args[j]? = some v->ds[j]? = some d->RI (szOf T) V v d) :
    Sim (szOf T) w ⟨V,fun _=>undef,df,[],[]⟩ V [] [] ⟨envOf 0 ds,[],[],fn.ntmps⟩ { tmps:=args++Array.replicate (fn.ntmps - args.size) undef,defers:=df } w:=by
 refine⟨by simp;omega,.start,fun t=>?_,(Mem.start hV).fr rfl⟩
 show RS _ _ _ _ (slotV _ fn.ntmps _ t) (look (envOf 0 ds) t)
 rw[look_envOf,if_pos (Nat.zero_le _),Nat.sub_zero]
 unfold slotV
 split
 case isFalse hge=>
  rw[List.getD,List.getElem?_eq_none (by omega)]
  exact .imm _ _ (.u _)
 show RS _ _ _ _ ((args++Array.replicate (fn.ntmps - args.size) undef).getD t undef) _
 by_cases ht:t<ds.length
 . have hta:t<args.size:=by omega
   have hd:=gEt0 ht
   have ha:=Array.getElem?_eq_getElem hta
   have:=hR t _ _ ha hd
   have e1:(args++Array.replicate (fn.ntmps - args.size) undef).getD t undef=args[t]:=by
    simp[Array.getD,hta]
    omega
   rw[e1]
   simp only[List.getD,hd,Option.getD_some]
   exact .imm _ _ this
 . rw[List.getD,List.getElem?_eq_none (by omega)]
   exact .imm _ _ (.u _)
end
end Go.Vx
namespace Go.Vx
open Go.RowKit
section
variable {P : Program} {T : Tab} {s : St} {Q : Exit → St → Prop}
theorem retK_leaves(hT:TOk P T){fn:Func}{R:D->Rows->Prop}{s':St}{w:World}{V0:Fr}{V V':Vw}{μ':List Nat}{ω':List Value}{a':Act}{w':World}(hV0:V0.V=V)(hS':Sim (szOf T) w V0 V' μ' ω' s' a' w')(hr:retK T fn R s') :
    ∃ v,(results fn a'.tmps).run P w' = .ok v w'/\∃ V' ω row v' d,Ending.returned v = .returned v'/\R d row/\RS (szOf T) V' [] ω v' d/\Res (szOf T) V V' ω row w w':=by
 subst hV0
 obtain⟨vs,ds',hk,hv,hrun⟩:=resK_sound hT hS' _ _ hr
 refine⟨if h:vs.toArray.size=1 then vs.toArray[0] else .tuple vs.toArray,?_,?_⟩
 . rw[results_eq,Array.mapM_eq_mapM_toList]
   simp only[Sem.run_bind,Sem.run_map,hrun,Result.andThen_ok,Sem.run_pure]
 . rcases hk with hk|hk|hk
   . obtain⟨V1,ds1,s1,hk,hv1,hS1,_⟩:=pubsK_sound 8 hS' hv hk
     obtain⟨es,hk,hes,hri⟩:=exposN_sound _ _ _ _ hv1 hk
     refine⟨V1,[],[],_,_,rfl,hk,oneD_rel ⟨by rw[hv1.1,hes],fun j v d h1 h2=>.imm _ _ (hri j v d h1 h2)⟩,?_⟩
     exact Res.of_mem hS1.mem (Pick.start _ _)
   . obtain⟨row1,acc,es,ω0,f0,hk,hp,_,hes⟩:=gaths_sound _ _ _ _ _ _ _ _ (Pick.start _ _) hv hk
     exact⟨V',ω0,acc,_,_,rfl,hk,oneD_rel hes,Res.of_mem hS'.mem hp⟩
   . obtain⟨ω1,row0,ds1,hk,_,hM1,hv1⟩:=nilOwn_sound _ _ _ _ _ _ hS'.mem hv hk
     obtain⟨row1,acc,es,ω0,f0,hk,hp,_,hes⟩:=gaths_sound _ _ _ _ _ _ _ _ (Pick.start _ _) hv1 hk
     exact⟨V',ω0,acc,_,_,rfl,hk,oneD_rel hes,Res.of_mem hM1 hp⟩
end
end Go.Vx
namespace Go.Vx
open Go.RowKit
structure FSpecH(P:Program)(T:Tab)(H:Objs)(f:FuncId)(ds:List D)(R:D->Rows->Objs->Prop):Prop where
 call:∀ args w,(callFunc f args).run P w = .ok (.enter f args) w
 run:∀ (V:Vw) (w:World) (args:Array Value),VOk V w->(∀ x ∈ H,w.heap[x.1]? = some x.2)->args.size=ds.length->(∀ (j:Nat) v d,args[j]? = some v->ds[j]? = some d->RI (szOf T) V v d) ->
  Calls P f args w fun e w'=>∃ V' ω row v d M,e = .returned v/\R d row M/\RS (szOf T) V' [] ω v d/\Res (szOf T) V V' ω row w w'/\(∀ x ∈ M,w'.heap[x.1]? = some x.2/\noC x.2/\w.heap.size<=x.1)/\(M.map (·.1)).Nodup
section
variable {P : Program} {T : Tab} {H M : Objs} {s : St}
theorem FSpecH.nil{f:FuncId}{ds:List D}{R:D->Rows->Prop}(h:FSpecH P T [] f ds (fun d rows _=>R d rows)):FSpec P T f ds R:=by
 refine⟨h.call,fun V w args hV hl hR=>(h.run V w args hV (by simp) hl hR).mono ?_⟩
 rintro e w' ⟨V',ω,row,v,d,M,h1,h2,h3,h4,_⟩
 exact⟨V',ω,row,v,d,h1,h2,h3,h4⟩
theorem FSpecH.mono{f:FuncId}{ds:List D}{R R':D->Rows->Objs->Prop}(h:FSpecH P T H f ds R)(hR:∀ d rows M,R d rows M->R' d rows M):FSpecH P T H f ds R':=
 ⟨h.call,fun V w args hV hH hl hr=>(h.run V w args hV hH hl hr).mono fun _ _ ⟨V',ω,row,v,d,M,h1,h2,h3⟩=>⟨V',ω,row,v,d,M,h1,hR _ _ _ h2,h3⟩⟩
theorem FSpecH.more{H':Objs}{f:FuncId}{ds:List D}{R:D->Rows->Objs->Prop}(h:FSpecH P T H f ds R)(hH:∀ x ∈ H,x ∈ H'):FSpecH P T H' f ds R:=
 ⟨h.call,fun V w args hV hx hl hr=>h.run V w args hV (fun x hm=>hx x (hH x hm)) hl hr⟩
def endM(T:Tab)(fn:Func)(R:D->Rows->Objs->Prop):Exit->St->Objs->Prop
 | .normal,s,M=>retK T fn (fun d rows=>R d rows M) s
 | .ret,s,M=>retK T fn (fun d rows=>R d rows M) s
 | _,_,_=>False
theorem FSpecH.of_ok(hT:TOk P T){f:FuncId}{fn:Func}{c:Code}(hf:P.funcs[f]? = some fn)(hb:fn.body=some c)(hcall:∀ args w,(callFunc f args).run P w = .ok (.enter f args) w){ds:List D}{R:D->Rows->Objs->Prop}(hn:ds.length<=fn.ntmps)
    (h:OkM P T H c (endM T fn R) ⟨envOf 0 ds,[],[],fn.ntmps⟩ []):FSpecH P T H f ds R:=by
 refine⟨hcall,fun V w args hV hH hl hR=>calls_of_wpM hf hb ?_⟩
 refine wp_mono (h.run w ⟨V,fun _=>undef,[],[],[]⟩ V [] [] _ w ⟨start_sim hn hV hl hR,by simp,hH⟩) ?_
 rintro e a' w' ⟨s',V',μ',ω',M',hq,hS'⟩
 have fin:retK T fn (fun d rows=>R d rows M') s'->LeavesInM Fence.wide 0 P fn a'.tmps (fun e w'=>∃ V' ω row v' d M,e = .returned v'/\R d row M/\RS (szOf T) V' [] ω v' d/\Res (szOf T) V V' ω row w w'/\(∀ x ∈ M,w'.heap[x.1]? = some x.2/\noC x.2/\w.heap.size<=x.1)/\(M.map (·.1)).Nodup) a'.defers .returning w':=by
  intro hr
  obtain⟨ms',e1,e2,e3,hS2⟩:=hS'.sim.shut
  rw[e1]
  have e4:ms'.map mkD++[]=ms'.map mkD:=List.append_nil _
  show LeavesInM _ _ _ _ _ _ (ms'.map mkD++[]) _ _
  rw[e4]
  refine leavesM (by simp) ms' w' e2 e3 ?_
  obtain⟨v,hv,V2,ω2,row,v',d,h1,h2,h3,h4⟩:=retK_leaves hT rfl hS2 hr
  exact⟨v,hv,V2,ω2,row,v',d,M',h1,h2,h3,h4,fun x hx=>hS2.defers.kept x (List.mem_append_left _ hx),by have:=hS'.nodup;simpa using this⟩
 cases e<;>simp only[endM] at hq
 . exact fin hq
 . exact fin hq
def endM0(T:Tab)(fn:Func)(R:D->Rows->Prop):Exit->St->Objs->Prop
 | .normal,s,_=>retK T fn R s
 | .ret,s,_=>retK T fn R s
 | _,_,_=>False
theorem FSpecH.of_ok0(hT:TOk P T){f:FuncId}{fn:Func}{c:Code}(hf:P.funcs[f]? = some fn)(hb:fn.body=some c)(hcall:∀ args w,(callFunc f args).run P w = .ok (.enter f args) w){ds:List D}{R:D->Rows->Prop}(hn:ds.length<=fn.ntmps)
    (h:OkM P T H c (endM0 T fn R) ⟨envOf 0 ds,[],[],fn.ntmps⟩ []):FSpecH P T H f ds (fun d rows M=>R d rows/\M=[]):=by
 refine⟨hcall,fun V w args hV hH hl hR=>calls_of_wpM hf hb ?_⟩
 refine wp_mono (h.run w ⟨V,fun _=>undef,[],[],[]⟩ V [] [] _ w ⟨start_sim hn hV hl hR,by simp,hH⟩) ?_
 rintro e a' w' ⟨s',V',μ',ω',M',hq,hS'⟩
 replace hS':=hS'.sub (List.nil_sublist _)
 have fin:retK T fn R s'->LeavesInM Fence.wide 0 P fn a'.tmps (fun e w'=>∃ V' ω row v' d,∃ M:Objs,e = .returned v'/\(R d row/\M=[])/\RS (szOf T) V' [] ω v' d/\Res (szOf T) V V' ω row w w'/\(∀ x ∈ M,w'.heap[x.1]? = some x.2/\noC x.2/\w.heap.size<=x.1)/\(M.map (·.1)).Nodup) a'.defers .returning w':=by
  intro hr
  obtain⟨ms',e1,e2,e3,hS2⟩:=hS'.sim.shut
  rw[e1]
  have e4:ms'.map mkD++[]=ms'.map mkD:=List.append_nil _
  show LeavesInM _ _ _ _ _ _ (ms'.map mkD++[]) _ _
  rw[e4]
  refine leavesM (by simp) ms' w' e2 e3 ?_
  obtain⟨v,hv,V2,ω2,row,v',d,h1,h2,h3,h4⟩:=retK_leaves hT rfl hS2 hr
  exact⟨v,hv,V2,ω2,row,v',d,[],h1,⟨h2,rfl⟩,h3,h4,by simp,by simp⟩
 cases e<;>simp only[endM0] at hq
 . exact fin hq
 . exact fin hq
end
def noK(M:Objs)(g:Nat):Prop:=∀ x ∈ M,x.1 ≠ g
def setM:Objs->Nat->Nat × Obj->(Objs->Prop)->Prop
 | [],_,_,K=>K []
 | _ :: M,0,x,K=>K (x :: M)
 | y :: M,n+1,x,K=>setM M n x fun M=>K (y :: M)
theorem setM_eq:∀ (M:Objs) (n:Nat) (x:Nat × Obj) (K:Objs->Prop),setM M n x K=K (M.set n x)
 | [],_,_,_=>rfl
 | _ :: _,0,_,_=>rfl
 | _ :: M,n+1,x,K=>setM_eq M n x _
def appM:Objs->Objs->(Objs->Prop)->Prop
 | [],M,K=>K M
 | x :: l,M,K=>appM l M fun M=>K (x :: M)
theorem appM_eq:∀ (l M:Objs) (K:Objs->Prop),appM l M K=K (l++M)
 | [],_,_=>rfl
 | _ :: l,M,K=>appM_eq l M _
def callH(P:Program)(T:Tab)(H M:Objs)(s:St)(f:FuncId)(ts:List TypeId)(ds:List D)(K:D->St->Objs->Prop):Prop:=
 pubsK 8 s ds fun ds s=>exposN T ts ds fun ds=>∃ R,FSpecH P T (H++M) f ds R/\∀ d rows M',R d rows M'->(match s with
  | ⟨env,box,row,n⟩=>shiftD row.length d fun d=>catK row rows fun row=>appM M' M fun M=>K d ⟨env,box,row,n⟩ M)
def inlQM(T:Tab)(fn:Func)(n:Nat)(K:D->St->Objs->Prop):Exit->St->Objs->Prop
 | .normal,s,M=>inlE T fn n (fun d s=>K d s M) s
 | .ret,s,M=>inlE T fn n (fun d s=>K d s M) s
 | _,_,_=>False
def inlM(P:Program)(T:Tab)(H M:Objs)(s:St)(f:FuncId)(ds:List D)(K:D->St->Objs->Prop):Prop:=
 ∃ fn c,P.funcs[f]? = some fn/\fn.body=some c/\(∀ args w,(callFunc f args).run P w = .ok (.enter f args) w) /\
  leB ds.length fn.ntmps (match s with|⟨env,box,row,n⟩=>shE fn.ntmps env fun env=>catK (envOf 0 ds) env fun env=>OkM P T H c (inlQM T fn n K) ⟨env,box,row,fn.ntmps⟩ M)
def lookM(P:Program)(H M:Objs)(t:TypeId)(x i:D)(ok:Bool)(K:D->Prop):Prop:=
 match x with
 | .mv (some g)=>∃ (κ α:Type) (_:DecidableEq κ) (kd:κ->D) (f:Option α->D) (l:List (κ × α × Nat)) (c:Nat) (k:κ),MTy P t kd f/\(g,mObj kd f l c) ∈ H++M/\i=kd k /\
     (match ok with|true=>K (.tup [f (lk l k),.b ((lk l k).isSome=true)])|false=>K (f (lk l k)))
 | _=>False
def updM(P:Program)(M:Objs)(t:TypeId)(x i v:D)(K:Objs->Prop):Prop:=
 match x with
 | .mv (some g)=>∃ (κ α:Type) (_:DecidableEq κ) (kd:κ->D) (f:Option α->D) (l:List (κ × α × Nat)) (c n:Nat) (k:κ) (a:α),MTy P t kd f/\M[n]? = some (g,mObj kd f l c)/\i=kd k/\v=f (some a) /\
     setM M n (g,mObj kd f (mput l c k a).1 (mput l c k a).2) K
 | _=>False
def delM(P:Program)(M:Objs)(t:TypeId)(x i:D)(K:Objs->Prop):Prop:=
 match x with
 | .mv (some g)=>∃ (κ α:Type) (_:DecidableEq κ) (kd:κ->D) (f:Option α->D) (l:List (κ × α × Nat)) (c n:Nat) (k:κ),MTy P t kd f/\M[n]? = some (g,mObj kd f l c)/\i=kd k /\
     setM M n (g,mObj kd f (mdel l k) c) K
 | _=>False
def entM(P:Program)(M:Objs)(t:TypeId)(x i:D)(K:D->Objs->Prop):Prop:=
 match x with
 | .mv (some g)=>∃ (κ α:Type) (_:DecidableEq κ) (kd:κ->D) (f:Option α->D) (l:List (κ × α × Nat)) (c n:Nat) (k:κ) (z:α),MTy P t kd f/\M[n]? = some (g,mObj kd f l c)/\i=kd k/\f (some z)=f none /\
     setM M n (g,mObj kd f (mput l c k ((lk l k).getD z)).1 (mput l c k ((lk l k).getD z)).2) (K (.tup [f (lk l k),.i .i64 (stp l c k:Nat)]))
 | _=>False
def entSM(M:Objs)(x i v:D)(K:Objs->Prop):Prop:=
 match x with
 | .mv (some g)=>∃ (κ α:Type) (_:DecidableEq κ) (kd:κ->D) (f:Option α->D) (l:List (κ × α × Nat)) (c n:Nat) (k:κ) (a0 a:α),(∀ o,(f o).ground'=true)/\((l.map fun e=>e.2.2).Nodup/\∀ e ∈ l,e.2.2<c)/\M[n]? = some (g,mObj kd f (mput l c k a0).1 (mput l c k a0).2)/\i = .i .i64 (stp l c k:Nat)/\v=f (some a) /\
     setM M n (g,mObj kd f (mput l c k a).1 (mput l c k a).2) K
 | _=>False
def makM(P:Program)(M:Objs)(t:TypeId)(K:D->Objs->Prop):Prop:=
 ∃ (κ α:Type) (_:DecidableEq κ) (kd:κ->D) (f:Option α->D),MTy P t kd f/\∀ g,noK M g->K (.mv (some g)) ((g,mObj kd f [] 0) :: M)
def itObj(m c:Nat)(seen:List Nat):Obj:=.mapIter (some m) c seen.toArray c
section
variable {κ α : Type} [DecidableEq κ]
def mWf(l:List (κ × α × Nat))(c:Nat):Prop:=(l.map fun e=>e.2.2).Nodup/\∀ e ∈ l,e.2.2<c
omit [DecidableEq κ] in
theorem mWf.nil:mWf ([]:List (κ × α × Nat)) 0:=⟨List.nodup_nil,by simp⟩
end
def rangM(P:Program)(H M:Objs)(t:TypeId)(x:D)(K:D->Objs->Prop):Prop:=
 match x with
 | .mv (some m)=>∃ (κ α:Type) (_:DecidableEq κ) (kd:κ->D) (f:Option α->D) (l:List (κ × α × Nat)) (c:Nat),MTy P t kd f/\(m,mObj kd f l c) ∈ H++M /\
     ∀ g,noK M g->K (.itv g) ((g,itObj m c []) :: M)
 | _=>False
def nextM(H M:Objs)(x:D)(K:D->Objs->Prop):Prop:=
 match x with
 | .itv g=>∃ (κ α:Type) (_:DecidableEq κ) (kd:κ->D) (f:Option α->D) (l:List (κ × α × Nat)) (c n m:Nat) (seen:List Nat),(∀ k,(kd k).ground'=true)/\(∀ o,(f o).ground'=true)/\mWf l c/\M[n]? = some (g,itObj m c seen)/\(m,mObj kd f l c) ∈ H++M /\
     ((∀ e ∈ l,e.2.2 ∈ seen)->K (.tup [.ff]) M)/\∀ e ∈ l,e.2.2 ∉ seen->setM M n (g,itObj m c (seen++[e.2.2])) fun M=>K (.tup [.tt,kd e.1,f (some e.2.1)]) M
 | _=>False
def entrM(H M:Objs)(x:D)(K:D->Prop):Prop:=
 match x with
 | .itv g=>∃ (κ α:Type) (_:DecidableEq κ) (kd:κ->D) (f:Option α->D) (l:List (κ × α × Nat)) (c n m:Nat) (seen:List Nat) (e:κ × α × Nat),(∀ k,(kd k).ground'=true)/\(∀ o,(f o).ground'=true)/\mWf l c/\M[n]? = some (g,itObj m c (seen++[e.2.2]))/\(m,mObj kd f l c) ∈ H++M/\e ∈ l /\
     K (.tup [kd e.1,f (some e.2.1)])
 | _=>False
def lenM(P:Program)(H M:Objs)(t:TypeId)(g:Nat)(K:D->Prop):Prop:=
 ∃ (κ α:Type) (_:DecidableEq κ) (kd:κ->D) (f:Option α->D) (l:List (κ × α × Nat)) (c n:Nat),MTy P t kd f/\(g,mObj kd f l c) ∈ H++M/\n=l.length/\K (.i .i64 (n:Int))
def vopM(P:Program)(T:Tab)(H M:Objs)(s:St)(o:Oper)(K:D->St->Objs->Prop):Prop:=
 match o.op with
 | .makeMap t none=>makM P M t fun d M=>K d s M
 | .lookup t x i ok=>lookM P H M t (s.get x) (s.get i) ok fun d=>K d s M
 | .mapUpdate t m k x=>updM P M t (s.get m) (s.get k) (s.get x) fun M=>K (.tup []) s M
 | .mapEntry t m k=>entM P M t (s.get m) (s.get k) fun d M=>K d s M
 | .entryStore _ m k x=>entSM M (s.get m) (s.get k) (s.get x) fun M=>K (.tup []) s M
 | .range t x=>rangM P H M t (s.get x) fun d M=>K d s M
 | .next x false=>nextM H M (s.get x) fun d M=>K d s M
 | .entry x=>entrM H M (s.get x) fun d=>K d s M
 | .call { callee:=.builtin .delete,args,argTypes }=>match args.toList,argTypes.toList with
  | [m,k],[t,_]=>delM P M t (s.get m) (s.get k) fun M=>K (.tup []) s M
  | _,_=>False
 | .call { callee:=.builtin .len,args,argTypes }=>match args.toList,argTypes.toList with
  | [x],[t]=>(match s.get x with|.mv (some g)=>lenM P H M t g fun d=>K d s M|_=>vop P T s o fun d s=>K d s M)
  | _,_=>False
 | .call { callee:=.value (.func f),args,argTypes }=>vop P T s o (fun d s=>K d s M)\/callH P T H M s f argTypes.toList (s.gets args.toList) K\/(forceL (s.gets args.toList) fun ds=>inlM P T H M s f ds K)
 | .call { callee:=.value (.tmp t),args,argTypes:=_ }=>vop P T s o (fun d s=>K d s M)\/fnK (s.get (.tmp t)) fun f first cap=>forceL (first++s.gets args.toList++cap) fun ds=>inlM P T H M s f ds K
 | _=>vop P T s o fun d s=>K d s M
def vopsM(P:Program)(T:Tab)(H:Objs)(ops:List Oper):List Oper->St->Objs->(St->Objs->Prop)->Prop
 | [],s,M,K=>K s M
 | o :: rest,s,M,K=>wantK ops s o.guard
     (fun s=>vopM P T H M s o fun d s M=>putK s o.dst d fun s=>vopsM P T H ops rest s M K)
     (fun s=>putK s o.dst (.tup []) fun s=>vopsM P T H ops rest s M K)
end Go.Vx
namespace Go.Vx
open Go.RowKit
section
variable {P : Program} {T : Tab} {H M : Objs} {s : St} {w0 w w' : World} {F : Fr} {V : Vw} {μ : List Nat} {ω : List Value} {a : Act}
theorem keptOf_keys(ms:List Nat):(keptOf ms).map (·.1)=ms:=by
 induction ms with
 | nil=>rfl
 | cons D ms ih=>simpa[keptOf] using ih
theorem inlM_sound(hT:TOk P T)(hS:SimM (szOf T) w0 F V μ ω s a w H M){f:FuncId}{ds:List D}{vs:List Value}{K:D->St->Objs->Prop}(hv:Vals (szOf T) V μ ω vs ds)(h:inlM P T H M s f ds K) :
    (∀ args w,(callFunc f args).run P w = .ok (.enter f args) w)/\Calls P f vs.toArray w fun e w'=>∃ v d s' V' μ' ω' M',e = .returned v/\K d s' M'/\RS (szOf T) V' μ' ω' v d/\SimM (szOf T) w0 F V' μ' ω' s' a w' H M':=by
 obtain⟨fn,c,hf,hb,hcall,h⟩:=h
 refine⟨hcall,calls_of_wpM hf hb ?_⟩
 obtain⟨hn,h⟩:=leB_iff.1 h
 obtain⟨env,box,row,n⟩:=s
 simp only[shE_eq,catK_eq] at h
 obtain⟨ms,d1,d2,d3⟩:=hS.sim.defers.marks
 have hkept:∀ x ∈ M++(F.kp++keptOf ms),w.heap[x.1]? = some x.2/\noC x.2/\w0.heap.size<=x.1:=by
  intro x hx
  rw[<- List.append_assoc] at hx
  rcases mAp0.1 hx with hx|hx
  . exact hS.sim.defers.kept x hx
  . obtain⟨D,hD,rfl⟩:=List.mem_map.1 hx
    exact⟨(d3 D hD).1,(fun _ _ _ e=>by cases e),(d3 D hD).2.1⟩
 have hnd:((M++(F.kp++keptOf ms)).map (·.1)).Nodup:=by
  rw[<- List.append_assoc,List.map_append,keptOf_keys]
  refine List.nodup_append.2 ⟨hS.nodup,d2,fun x hx y hy e=>?_⟩
  obtain⟨z,hz,rfl⟩:=List.mem_map.1 hx
  exact (d3 y hy).2.2 z hz e
 have hS':SimM (szOf T) w0 ⟨F.V,fun t=>slotV F n a (t - fn.ntmps),[],F.kp++keptOf ms,F.kc⟩ V μ ω ⟨envOf 0 ds++env.map (fun x=>(x.1+fn.ntmps,x.2)),box,row,fn.ntmps⟩
     { tmps:=vs.toArray++Array.replicate (fn.ntmps - vs.toArray.size) undef,defers:=[] } w H M:=by
  refine⟨⟨by have:=hv.1;simp;omega,⟨⟨[],rfl,List.nodup_nil,by simp⟩,hkept⟩,fun t=>?_,hS.sim.mem.fr rfl⟩,hnd,hS.old⟩
  show RS _ _ _ _ (slotV _ fn.ntmps _ t) (look (envOf 0 ds++env.map (fun x=>(x.1+fn.ntmps,x.2))) t)
  unfold slotV
  split
  . rename_i htn
    show RS _ _ _ _ ((vs.toArray++Array.replicate (fn.ntmps - vs.toArray.size) undef).getD t undef) _
    by_cases ht:t<ds.length
    . rw[look_append_in _ _ _ (envOf_has ds 0 t (by omega) (by omega)),look_envOf,if_pos (Nat.zero_le _),Nat.sub_zero]
      have hta:t<vs.length:=by rw[hv.1];exact ht
      have hd:=gEt0 ht
      have ha:=gEt0 hta
      have:=hv.2 t _ _ ha hd
      have e1:(vs.toArray++Array.replicate (fn.ntmps - vs.toArray.size) undef).getD t undef=vs[t]:=by
       have hv1:=hv.1
       simp[Array.getD,hta]
       omega
      rw[e1]
      simp only[List.getD,hd,Option.getD_some]
      exact this
    . rw[look_append _ _ _ (fun x hx=>by have:=envOf_mem ds 0 x hx;omega),look_shift_lt _ _ _ htn]
      exact .imm _ _ (.u _)
  . rename_i htn
    rw[look_append _ _ _ (fun x hx=>by have:=envOf_mem ds 0 x hx;omega)]
    have e2:t=(t - fn.ntmps)+fn.ntmps:=by omega
    rw[e2,look_shift,<- e2]
    exact hS.sim.env (t - fn.ntmps)
 refine wp_mono (h.run w0 _ V μ ω _ w hS') ?_
 rintro e a' w' ⟨s',V',μ',ω',M',hq,hS2⟩
 have fin:inlE T fn n (fun d s=>K d s M') s'->LeavesInM Fence.wide 0 P fn a'.tmps (fun e w'=>∃ v d s' V' μ' ω' M',e = .returned v/\K d s' M'/\RS (szOf T) V' μ' ω' v d/\SimM (szOf T) w0 F V' μ' ω' s' a w' H M') a'.defers .returning w':=by
  intro hr
  obtain⟨ms',e1,e2,e3,hS3⟩:=hS2.sim.shut
  rw[e1]
  have e4:ms'.map mkD++[]=ms'.map mkD:=List.append_nil _
  show LeavesInM _ _ _ _ _ _ (ms'.map mkD++[]) _ _
  rw[e4]
  refine leavesM (by simp) ms' w' e2 e3 ?_
  obtain⟨env',box',row',m⟩:=s'
  obtain⟨hm,hr⟩:=eqN_iff hr
  obtain⟨us,ds',hk,hv',hrun⟩:=resK_sound hT hS3 _ _ hr
  refine⟨if h:us.toArray.size=1 then us.toArray[0] else .tuple us.toArray,?_,?_⟩
  . rw[results_eq,Array.mapM_eq_mapM_toList]
    dsimp only at hrun
    simp only[Sem.run_bind,Sem.run_map,hrun,Result.andThen_ok,Sem.run_pure]
  . rw[unE_eq] at hk
    have hkp:∀ x ∈ M'++(F.kp++keptOf ms),(shut ms' w').heap[x.1]? = some x.2/\noC x.2/\w0.heap.size<=x.1:=hS3.defers.kept
    have hnd2:((M'++(F.kp++keptOf ms)).map (·.1)).Nodup:=hS2.nodup
    rw[<- List.append_assoc,List.map_append,keptOf_keys] at hnd2
    obtain⟨n1,n2,n3⟩:=List.nodup_append.1 hnd2
    refine⟨_,_,_,V',μ',ω',M',rfl,hk,oneD_rel hv',⟨hS.sim.tmps,⟨⟨ms,d1,d2,fun D hD=>?_⟩,fun x hx=>hkp x (by rw[<- List.append_assoc];exact List.mem_append_left _ hx)⟩,fun t=>?_,hS3.mem.fr rfl⟩,n1,hS.old⟩
    . obtain⟨k1,k2,k3⟩:=hkp (D,.deferred (some [])) (List.mem_append_right _ (List.mem_append_right _ (List.mem_map.2 ⟨D,hD,rfl⟩)))
      exact⟨k1,k3,fun x hx e=>n3 x.1 (List.mem_map.2 ⟨x,hx,rfl⟩) D hD e⟩
    have:=hS3.env (t+fn.ntmps)
    unfold slotV at this
    rw[if_neg (by show ¬ t+fn.ntmps<m;omega)] at this
    show RS _ _ _ _ (slotV F n a t) (look (unEF fn.ntmps env') t)
    rw[look_unEF]
    have e3:t+fn.ntmps - fn.ntmps=t:=by omega
    have this2:RS (szOf T) V' μ' ω' (slotV F n a (t+fn.ntmps - fn.ntmps)) (look env' (t+fn.ntmps)):=this
    rw[e3] at this2
    exact this2
 cases e<;>simp only[inlQM] at hq
 . exact fin hq
 . exact fin hq
def VokM(P:Program)(T:Tab)(w0:World)(F:Fr)(H:Objs)(a:Act)(w:World)(o:Oper)(K:D->St->Objs->Prop):Prop:=
 ∀ (next:Act->World->Prop) (Q:Exit->Act->World->Prop),
  (∀ d v s V' μ' ω' M' w',K d s M'->RS (szOf T) V' μ' ω' v d->SimM (szOf T) w0 F V' μ' ω' s a w' H M'->next (a.put o.dst v) w')->o.wp P a w next Q
theorem VokM.of_vop(hT:TOk P T)(hS:SimM (szOf T) w0 F V μ ω s a w H M){o:Oper}{K:D->St->Objs->Prop}(h:vop P T s o fun d s=>K d s M):VokM P T w0 F H a w o K:=by
 intro next Q hn
 exact vop_sound hT hS.sim h next Q fun d v s V' μ' ω' w' hk hr hS' _=>hn d v s V' μ' ω' M w' hk hr (hS.of hS')
theorem ground_val'{sz:TypeId->Nat}{v:Value}{d:D}(h:RS sz V μ ω v d)(hg:d.ground'=true):v=toV d:=
 (h.ri hg).uniq' (toV_ri (V:=V) hg) hg
theorem RS.mv_{sz:TypeId->Nat}{v:Value}{o:Option Nat}(h:RS sz V μ ω v (.mv o)):v = .map o:=by
 cases h with|imm _ _ h=>cases h;rfl
theorem toV_rs{sz:TypeId->Nat}{d:D}(hg:d.ground'=true):RS sz V μ ω (toV d) d:=.imm _ _ (toV_ri hg)
theorem VokM.value{o:Oper}{K:D->St->Objs->Prop}{v:Value}{d:D}{V':Vw}{μ':List Nat}{ω':List Value}{s':St}{M':Objs}(hr:(execOp a.eval o).run P w = .ok (.value v) w')
    (hk:K d s' M')(hv:RS (szOf T) V' μ' ω' v d)(hS:SimM (szOf T) w0 F V' μ' ω' s' a w' H M'):VokM P T w0 F H a w o K:=by
 intro next Q hn
 unfold Oper.wp
 rw[hr]
 exact hn d v s' V' μ' ω' M' w' hk hv hS
theorem VokM.unit{o:Oper}{K:D->St->Objs->Prop}{V':Vw}{μ':List Nat}{ω':List Value}{s':St}{M':Objs}(hr:(execOp a.eval o).run P w = .ok .skip w')
    (hk:K (.tup []) s' M')(hS:SimM (szOf T) w0 F V' μ' ω' s' a w' H M'):VokM P T w0 F H a w o K:=by
 intro next Q hn
 unfold Oper.wp
 rw[hr]
 exact hn (.tup []) undef s' V' μ' ω' M' w' hk (RS.tup [] #[] rfl (fun j v d h=>by simp at h)) hS
end
section
variable {P : Program} {T : Tab} {H M : Objs} {s : St} {w0 w : World} {F : Fr} {V : Vw} {μ : List Nat} {ω : List Value} {a : Act} {sz : TypeId → Nat}
theorem RS.itv_{sz:TypeId->Nat}{v:Value}{g:Nat}(h:RS sz V μ ω v (.itv g)):v = .pointer (some ⟨g,0,none⟩):=by
 cases h with|imm _ _ h=>cases h;rfl
theorem tup3_rs{v1 v2:Value}{d1 d2:D}(b:Bool)(h1:RS sz V μ ω v1 d1)(h2:RS sz V μ ω v2 d2):RS sz V μ ω (.tuple #[.bool b,v1,v2]) (.tup [if b then .tt else .ff,d1,d2]):=by
 refine .tup _ _ rfl fun j v d e1 e2=>?_
 match j with
 | 0=>simp at e1 e2;subst e1 e2;cases b<;>exact .imm _ _ (by constructor)
 | 1=>simp at e1 e2;subst e1 e2;exact h1
 | 2=>simp at e1 e2;subst e1 e2;exact h2
 | j+3=>simp at e1
theorem setBlock_put(w:World)(g:Nat)(o:Obj):ChangeMaps.setBlock w g o=w.putObj g o:=rfl
theorem SimM.ext{w':World}(h:SimM sz w0 F V μ ω s a w H M)(hx:Ext w w'):SimM sz w0 F V μ ω s a w' H M:=⟨h.sim.ext hx,h.nodup,h.old⟩
theorem left_mem{κ α:Type}{kd:κ->D}{f:Option α->D}{l:List (κ × α × Nat)}{seen:List Nat}{x:MapEntry}:x ∈ (leftOf (l.map (mEnt kd f)).toArray seen.toArray).toList ↔ ∃ e ∈ l,e.2.2 ∉ seen/\mEnt kd f e=x:=by
 simp only[leftOf,Array.toList_filter,List.mem_filter,List.mem_map]
 constructor
 . rintro⟨⟨e,he,rfl⟩,h2⟩
   exact⟨e,he,by simpa[mEnt] using h2,rfl⟩
 . rintro⟨e,he,h2,rfl⟩
   exact⟨⟨e,he,rfl⟩,by simpa[mEnt] using h2⟩
theorem rangM_sound(hS:SimM (szOf T) w0 F V μ ω s a w H M){dst:Option Nat}{type:TypeId}{pos:String}{after:Array Edge}{guard:Option (Nat × Bool)}{t:TypeId}{x:Operand}{K:D->St->Objs->Prop}
    (h:rangM P H M t (s.get x) fun d M=>K d s M):VokM P T w0 F H a w ⟨dst,.range t x,type,pos,after,guard⟩ K:=by
 unfold rangM at h
 split at h
 case h_2=>exact h.elim
 rename_i m hx
 obtain⟨κ,α,_,kd,f,l,c,hty,hg,hk⟩:=h
 have hxv:=hS.sim.get x
 rw[hx] at hxv
 obtain⟨kt,et,hu,_,_⟩:=hty.und
 have hno:noK M w.heap.size:=fun x hx=>by
  have:=(Array.getElem?_eq_some_iff.1 (hS.kept hx).1).1
  omega
 refine .value (v:=.pointer (some ⟨w.heap.size,0,none⟩)) ?_ (hk _ hno) (.imm _ _ (.itv _)) (hS.new (itObj m c []) (noC_iter _ _ _ _))
 have:=run_range_map w t kt et m _ c hu (hS.read hg)
 simp only[execOp,hxv.mv_,this,Sem.run_bind,Result.andThen_ok,Sem.run_pure]
 rfl
theorem nextM_sound(hS:SimM (szOf T) w0 F V μ ω s a w H M){dst:Option Nat}{type:TypeId}{pos:String}{after:Array Edge}{guard:Option (Nat × Bool)}{x:Operand}{K:D->St->Objs->Prop}
    (h:nextM H M (s.get x) fun d M=>K d s M):VokM P T w0 F H a w ⟨dst,.next x false,type,pos,after,guard⟩ K:=by
 unfold nextM at h
 split at h
 case h_2=>exact h.elim
 rename_i g hx
 obtain⟨κ,α,_,kd,f,l,c,n,m,seen,hkg,hvg,⟨_,hc⟩,hit,hm,h1,h2⟩:=h
 have hxv:=hS.sim.get x
 rw[hx] at hxv
 have hr:=(hS.kept (mOf0 hit)).1
 have hb:=hS.read hm
 have hold:∀ x ∈ (l.map (mEnt kd f)).toArray.toList,x.born<c:=by
  intro x hx
  simp only[List.mem_map] at hx
  obtain⟨e,he,rfl⟩:=hx
  exact hc e he
 rcases run_next_at (P:=P) w type g m c c seen.toArray (l.map (mEnt kd f)).toArray c hr hb hold (Nat.le_refl _) with⟨h0,hrun⟩|⟨x,hxl,w1,hw1,hrun⟩
 . refine .value (v:=.tuple #[.bool false]) (d:=.tup [.ff]) ?_ (h1 fun e he=>?_) (.tup _ _ rfl fun j v d e1 e2=>?_) hS
   . simp only[execOp,hxv.itv_,hrun,Sem.run_bind,Result.andThen_ok,Sem.run_pure]
   . refine Classical.byContradiction fun hns=>?_
     have:mEnt kd f e ∈ (leftOf (l.map (mEnt kd f)).toArray seen.toArray).toList:=left_mem.2 ⟨e,he,hns,rfl⟩
     have h00:(leftOf (l.map (mEnt kd f)).toArray seen.toArray).toList=[]:=by
      apply List.eq_nil_of_length_eq_zero
      rw[Array.length_toList]
      exact h0
     rw[h00] at this
     cases this
   . match j with
     | 0=>simp at e1 e2;subst e1 e2;exact .imm _ _ .ff
     | j+1=>simp at e1
 . obtain⟨e,he,hns,rfl⟩:=left_mem.1 hxl
   have hS1:SimM (szOf T) w0 F V μ ω s a w1 H M:=by
    rcases hw1 with rfl|rfl
    . exact hS
    . exact hS.ext ((Below.refl w.heap.size w).drew)
   have hS2:=hS1.put (itObj m c (seen++[e.2.2])) (noC_iter _ _ _ _) hit
   refine .value (v:=.tuple #[.bool true,toV (kd e.1),toV (f (some e.2.1))]) ?_ (by have:=h2 e he hns;rw[setM_eq] at this;exact this) (tup3_rs true (toV_rs (hkg _)) (toV_rs (hvg _))) hS2
   simp only[execOp,hxv.itv_,hrun,Sem.run_bind,Result.andThen_ok,Sem.run_pure]
   simp[mEnt,itObj,setBlock_put]
theorem entrM_sound(hS:SimM (szOf T) w0 F V μ ω s a w H M){dst:Option Nat}{type:TypeId}{pos:String}{after:Array Edge}{guard:Option (Nat × Bool)}{x:Operand}{K:D->St->Objs->Prop}
    (h:entrM H M (s.get x) fun d=>K d s M):VokM P T w0 F H a w ⟨dst,.entry x,type,pos,after,guard⟩ K:=by
 unfold entrM at h
 split at h
 case h_2=>exact h.elim
 rename_i g hx
 obtain⟨κ,α,_,kd,f,l,c,n,m,seen,e,hkg,hvg,⟨hnd,hc⟩,hit,hm,he,hk⟩:=h
 have hxv:=hS.sim.get x
 rw[hx] at hxv
 have hr:=(hS.kept (mOf0 hit)).1
 have hb:=hS.read hm
 have hr':w.heap[g]? = some (.mapIter (some m) c (seen.toArray.push e.2.2) c):=by rw[hr];simp[itObj]
 have:=run_entry_at (P:=P) w g m c seen.toArray (l.map (mEnt kd f)).toArray c (mEnt kd f e) hr' hb (by simp only[List.mem_map];exact⟨e,he,rfl⟩) (by simpa[List.map_map,Function.comp_def,mEnt] using hnd)
 refine .value (v:=.tuple #[toV (kd e.1),toV (f (some e.2.1))]) ?_ hk (.tup _ _ rfl fun j v d e1 e2=>?_) hS
 . simp only[execOp,hxv.itv_,this,Sem.run_bind,Result.andThen_ok,Sem.run_pure]
   rfl
 . match j with
   | 0=>simp at e1 e2;subst e1 e2;exact toV_rs (hkg _)
   | 1=>simp at e1 e2;subst e1 e2;exact toV_rs (hvg _)
   | j+2=>simp at e1
end
end Go.Vx
namespace Go.Vx
open Go.RowKit
section
variable {P : Program} {T : Tab} {H M : Objs} {s : St} {w0 w w' : World} {F : Fr} {V : Vw} {μ : List Nat} {ω : List Value} {a : Act}
theorem callH_sound(hS:SimM (szOf T) w0 F V μ ω s a w H M){dst:Option Nat}{type:TypeId}{pos:String}{after:Array Edge}{guard:Option (Nat × Bool)}{f:FuncId}{args:Array Operand}{argTypes:Array TypeId}{K:D->St->Objs->Prop}
    (h:callH P T H M s f argTypes.toList (s.gets args.toList) K):VokM P T w0 F H a w ⟨dst,.call ⟨.value (.func f),args,argTypes⟩,type,pos,after,guard⟩ K:=by
 obtain⟨V1,ds1,s1,h,hv1,hS1,_⟩:=pubsK_sound 8 hS.sim (hS.sim.gets _) h
 obtain⟨es,⟨R,hf,h⟩,hes,hri⟩:=exposN_sound argTypes.toList ds1 _ _ hv1 h
 obtain⟨env,box,row,n⟩:=s1
 intro next Q hn
 have hcalls:=hf.run V1 w (args.map a.eval) hS1.mem.vok (fun x hx=>hS.read hx) (by have:=hv1.1;simp at this ⊢;omega) (fun j v d h1 h2=>hri j v d (by simpa using h1) h2)
 unfold Oper.wp
 have hrun:(execOp a.eval ⟨dst,.call ⟨.value (.func f),args,argTypes⟩,type,pos,after,guard⟩).run P w = .ok (.enter f (args.map a.eval)) w:=by
  simp only[execOp,resolve,Act.eval,Deferred.ofValue,invoke,Sem.run_bind,Sem.run_pure,Result.andThen_ok]
  rw[show (#[]++args.map a.eval)++#[]=args.map a.eval by simp,hf.call]
 rw[hrun]
 show Calls P f (args.map a.eval) w _
 refine hcalls.mono ?_
 rintro e w'' ⟨V',ω0,row0,v,d,M',rfl,hR,hrs,hres,hM',hnd⟩
 have hMm:=hS1.mem.call hres
 have hk:=h d row0 M' hR
 have hl:row.length=ω.length:=hS1.mem.rl.symm
 dsimp only at hk
 rw[hl] at hk
 obtain⟨d',hk,hr⟩:=shiftD_sound (μ:=μ) (V':=V') (ω':=ω++ω0) (VLe.refl V') (fun r u hu=>by rw[List.getElem?_append_right (by omega),Nat.add_sub_cancel];exact hu) hrs hk
 rw[catK_eq,appM_eq] at hk
 have hx:Ext w w'':=hres.below
 obtain⟨ms,d1,d2,d3⟩:=hS1.defers.marks
 have hlt:∀ x ∈ M++F.kp,x.1<w.heap.size:=fun x hx=>(Array.getElem?_eq_some_iff.1 (hS.sim.defers.kept x hx).1).1
 have hbase:=hS.sim.mem.below.size
 refine hn d' v _ V' μ (ω++ω0) (M'++M) w'' hk hr ⟨⟨hS1.tmps,⟨⟨ms,d1,d2,fun D hD=>?_⟩,fun x hx'=>?_⟩,fun t=>(hS1.env t).mono hres.le (.refl μ) (.append _ _),hMm.fr rfl⟩,?_,hS.old⟩
 . obtain⟨f1,f2,f3⟩:=d3 D hD
   refine⟨hx.heap f1,f2,fun x hx'=>?_⟩
   have hx2:x ∈ M'++M++F.kp:=hx'
   rw[List.append_assoc] at hx2
   rcases mAp0.1 hx2 with hx2|hx2
   . have h1:=(hM' x hx2).2.2
     have h2:=(Array.getElem?_eq_some_iff.1 f1).1
     omega
   . exact f3 x hx2
 . have hx2:x ∈ M'++M++F.kp:=hx'
   rw[List.append_assoc] at hx2
   rcases mAp0.1 hx2 with hx2|hx2
   . obtain⟨h1,h2,h3⟩:=hM' x hx2
     exact⟨h1,h2,Nat.le_trans hbase h3⟩
   . obtain⟨h1,h2,h3⟩:=hS.sim.defers.kept x hx2
     exact⟨hx.heap h1,h2,h3⟩
 . rw[List.append_assoc,List.map_append]
   refine List.nodup_append.2 ⟨hnd,hS.nodup,fun x hx y hy e=>?_⟩
   obtain⟨z,hz,rfl⟩:=List.mem_map.1 hx
   obtain⟨z2,hz2,rfl⟩:=List.mem_map.1 hy
   have h1:=(hM' z hz).2.2
   have h2:=hlt z2 hz2
   omega
end
end Go.Vx
