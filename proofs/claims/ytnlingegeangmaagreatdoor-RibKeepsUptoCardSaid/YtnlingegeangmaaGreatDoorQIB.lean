/- The walks and the plain laws that a law of networks needs, part 2 of 7. -/
import Derived.Test.YtnlingegeangmaaGreatDoorQIA
import Derived.Laws.IdiomStrings
import Derived.RangeFuncLeaves
import Derived.RangeFuncOwn
import Derived.Test.YtnlingegeangmaaGreatDoorProg
import Derived.KernelRfl
import Derived.OrdersHeld
import Derived.Laws.StructEq
import Derived.ChangeKeysEq
set_option linter.unusedVariables false
set_option linter.unusedSimpArgs false
set_option linter.unusedSectionVars false
set_option maxRecDepth 100000
set_option maxHeartbeats 16000000
namespace Go.Vx
open Go.RowKit
section
variable {w0 w w' : World} {V0 : Fr} {V : Vw} {μ : List Nat} {ω : List Value} {box : List (List D)} {row : Rows} {s : St} {a : Act} {P : Program} {T : Tab}
theorem MV{t ty e:TypeId}(ht:P.underlying t=some (.slice e)){i:TypeInfo}(hi:P.info? e=some i)(v:Value){n c:Nat}{A:Option Addr}(hv:v = .slice A n c)(hnc:n<=c) :
    (Builtin.append_ #[t,t] ty #[v,.slice none 0 0]).run P w = .ok v w:=by
 subst hv;cases A<;>simp[Builtin.append_,run_underlying ht,sizeOf,typeInfo,hi,Builtin.lenOf,Builtin.firstCells,hnc,storeCells]
theorem MK{cs ds:List D}(h:ds.length=cs.length):setCells cs 0 ds=ds:=by
 unfold setCells;rw[Nat.zero_add,List.drop_of_length_le oA];simp
theorem U8{env:List (Nat × D)}{n:Nat}(hS:Sim (ah T) w0 V0 V μ ω ⟨env,box,row,n⟩ a w)(he:Ext w w'){q t1 g' c':Nat}{e:TypeId}{xs:List (List D)}{vals:List Value}{d:D}{K:D->St->Prop}(hq:JH row q e)
    (ho:w'.ownsRow w0.heap.size e (ah T e) (.slice (some ⟨g',0,none⟩) xs.length c') xs.length vals)(hR:fU (ah T) V e vals xs)(hg:w.heap.size<=g')
    (h:nS q (fun _=>.u) env fun env=>nT q (fun _=>.u) box fun box=>fH row q (some (e,xs)) fun row=>K d ⟨(t1,.tie q g' xs.length c') :: env,box,row,n⟩) :
    ∃ s' ω',K d s'/\Sim (ah T) w0 V0 V μ ω' s' a w'/\Pre μ μ:=by
 simp only[tX,tY] at h;obtain⟨hrl,hfin⟩:=gW _ _ _ _ h;unfold JH at hq;split at hq
 case h_2=>exact hq.elim
 rename_i e' xs0 hrow;obtain⟨hee,_⟩:=jJ hq;subst hee;have uO:q<ω.length:=by rw[hS.mem.rl];exact hrl
 have hω:ω[q]? = some ω[q]:=aC uO;have hset:∀ r v,r ≠ q->ω[r]? = some v->(ω.set q (.slice (some ⟨g',0,none⟩) xs.length c'))[r]? = some v:=fun r v hr h=>by rw[List.getElem?_set_ne (Ne.symm hr)];exact h
 have lD:∀ k v,RS (ah T) V μ ω v (.own q k)->RS (ah T) V μ (ω.set q (.slice (some ⟨g',0,none⟩) xs.length c')) v .u:=fun _ v _=>.imm _ _ (.u v)
 have hM:=hS.mem.Ap (e:=e) (ys:=xs) hω hrow ⟨he.os,he.tape,he.output,he.size,fun k hk _=>he.block k hk⟩ ho hR (v':=.slice (some ⟨g',0,none⟩) xs.length c') (.inr ⟨g',rfl,hg⟩) (eU:=box.map fun c=>c.map (gq q fun _=>.u)) sI (by
  intro i cs cs' h1 h2;simp only[aN,Option.map_eq_some_iff] at h2;obtain⟨c0,hc0,rfl⟩:=h2;rw[h1] at hc0;cases hc0;refine⟨sI,fun j u d d' e1 e2 hrs=>?_⟩;simp only[aN,Option.map_eq_some_iff] at e2;obtain⟨d0,hd0,rfl⟩:=e2;rw[e1] at hd0;cases hd0;exact hrs.lN (.refl V) hset lD) (fun i cs cs' h1 h2 t h=>by simp only[aN,h1,Option.map_some,Option.some.injEq] at h2;subst h2;exact tV (fun _=>rfl) h)
 refine⟨_,_,hfin,⟨hS.tmps,hS.defers.ext he,fun t=>?_,hM⟩,.refl μ⟩;show RS _ _ _ _ _ (look ((t1,_) :: env.map fun x=>(x.1,jM q (fun _=>.u) x.2)) t);unfold look;split
 . exact .tie _ _ _ _ _ (List.getElem?_set_self uO)
 . rw[tq]
   exact (hS.env t).sub (.refl V) hset lD
theorem G7(hT:TOk P T)(hS:Sim (ah T) w0 V0 V μ ω s a w){t ty:TypeId}{x y:D}{vx vy:Value}{K:D->St->Prop}(hx:RS (ah T) V μ ω vx x)(hy:RS (ah T) V μ ω vy y)(h:Bl T s t x y K) :
    ∃ d v s' ω' w',K d s'/\RS (ah T) V μ ω' v d/\Sim (ah T) w0 V0 V μ ω' s' a w'/\(Builtin.append_ #[t,t] ty #[vx,vy]).run P w = .ok v w'/\Step (zh x) V μ ω w V μ ω' w':=by
 obtain⟨env,box,row,n⟩:=s;unfold Bl at h;dsimp only at h;split at h
 . obtain⟨⟨e,ti,hu,hti⟩,h⟩:=Q9 hT h
   obtain⟨i,z,hi,_⟩:=(hT _ _ hti).info;refine⟨_,_,_,ω,w,h,.imm _ _ .aO,hS,?_,.ext (fun _ _ h=>h) (.refl _) (.refl _) (Ext.refl w)⟩;rw[hy.iY];exact MV hu hi vx (hx.iY) (Nat.le_refl _) |>.trans (by rw[hx.iY])
 . rename_i r m
   obtain⟨⟨e,ti,hu,hti⟩,h⟩:=Q9 hT h;obtain⟨i,z,hi,_⟩:=(hT _ _ hti).info;split at h
   case h_2=>exact h.elim
   rename_i y hrow;obtain⟨e2,xs⟩:=y;obtain⟨A,N,c,hω,hn,hv⟩:=hx.jd;obtain⟨A2,c2,vals,e1,hc,_⟩:=hS.mem.qL hω hrow;cases e1;refine⟨_,_,_,ω,w,h,hx,hS,?_,.ext (fun _ _ h=>h) (.refl _) (.refl _) (Ext.refl w)⟩;rw[hy.iY];exact MV hu hi vx hv oA
 . -- a first row
   obtain⟨e,ys,A,c,vals,h,hrd⟩:=zD hS hy h;obtain⟨hu,hz,_,h⟩:=qU hT h;obtain⟨⟨ti,hti,hs1,hby⟩,h⟩:=vF h;have hlen:ys.length<=2147483648:=h.1;obtain⟨i,z,hi,h2,h3,h4,h5,h6,h7⟩:=(hT _ _ hti).info;have hsz:=jI hti;obtain⟨v',w',hr,ho,hg,hb⟩:=G6 (P:=P) (w:=w) t ty e i z ti.size hu hi h4 h2 h6 hs1 (by rw[h3];exact hby) (base:=w0.heap.size) vx 0 [] (by rw[hx.iY];exact World.ownsRow_nil _ _ _ _) A ys.length c vals
    (fun h=>let ⟨p,q⟩:=hrd.nil h;⟨p,by rw[q];rfl⟩) (by rw[hrd.len,hsz]) hrd.cell hrd.rr.one oA hS.mem.below.size
   rw[hx.iY] at hg hb;have he:Ext w w':=⟨hg.os,hg.tape,hg.output,hg.size,fun k hk=>hg.block k hk (by simp[Value.ownBlock])⟩;have hshape:∃ A' c',v' = .slice A' ys.length c':=by
    rcases ho.2 with⟨q,q2⟩|⟨g,cap,cur,q,_⟩
    . exact⟨none,0,by rw[q];congr 1;omega⟩
    . exact⟨_,cap,by rw[q,Nat.zero_add]⟩
   have Rf:0<ys.length->∃ g' c',ys.length<=c'/\v' = .slice (some ⟨g',0,none⟩) ys.length c':=by
    intro h0;rcases ho.2 with⟨q,q2⟩|⟨g,cap,cur,q,_,_,q3,_⟩
    . omega
    . exact⟨_,cap,oA,by rw[q,Nat.zero_add]⟩
   obtain⟨A',c',hv'⟩:=hshape;rw[Nat.zero_add,List.nil_append] at ho;have hbl:∀ g,v'.ownBlock=some g->w.heap.size<=g:=by
    intro g hg';rcases hb with hb|⟨g2,h8,h9⟩
    . rw[hg'] at hb;simp[Value.ownBlock] at hb
    . rw[hg'] at h8;cases h8;exact h9
   obtain⟨_,zs,m,rfl,rfl,h⟩:=h;obtain⟨d,s',ω',hk,hr',hS',hpre⟩:=GU hS he hv' (by rw[hsz];exact ho) hrd.rr hbl rfl h;refine⟨d,v',s',ω',w',hk,hr',hS',?_,.ext (fun _ _ h=>h) (.refl _) hpre he⟩;rw[hrd.val];exact hr
 . -- a nil slice told as such
   obtain⟨t1,h⟩:=h;obtain⟨e,ys,A,c,vals,h,hrd⟩:=zD hS hy h;obtain⟨hu,hz,_,h⟩:=qU hT h;obtain⟨⟨ti,hti,hs1,hby⟩,h⟩:=vF h;have hlen:ys.length<=2147483648:=h.1;obtain⟨i,z,hi,h2,h3,h4,h5,h6,h7⟩:=(hT _ _ hti).info;have hsz:=jI hti;obtain⟨v',w',hr,ho,hg,hb⟩:=G6 (P:=P) (w:=w) t ty e i z ti.size hu hi h4 h2 h6 hs1 (by rw[h3];exact hby) (base:=w0.heap.size) vx 0 [] (by rw[hx.BQ];exact World.ownsRow_nil _ _ _ _) A ys.length c vals
    (fun h=>let ⟨p,q⟩:=hrd.nil h;⟨p,by rw[q];rfl⟩) (by rw[hrd.len,hsz]) hrd.cell hrd.rr.one oA hS.mem.below.size
   rw[hx.BQ] at hg hb;have he:Ext w w':=⟨hg.os,hg.tape,hg.output,hg.size,fun k hk=>hg.block k hk (by simp[Value.ownBlock])⟩;have hshape:∃ A' c',v' = .slice A' ys.length c':=by
    rcases ho.2 with⟨q,q2⟩|⟨g,cap,cur,q,_⟩
    . exact⟨none,0,by rw[q];congr 1;omega⟩
    . exact⟨_,cap,by rw[q,Nat.zero_add]⟩
   have Rf:0<ys.length->∃ g' c',ys.length<=c'/\v' = .slice (some ⟨g',0,none⟩) ys.length c':=by
    intro h0;rcases ho.2 with⟨q,q2⟩|⟨g,cap,cur,q,_,_,q3,_⟩
    . omega
    . exact⟨_,cap,oA,by rw[q,Nat.zero_add]⟩
   obtain⟨A',c',hv'⟩:=hshape;rw[Nat.zero_add,List.nil_append] at ho;have hbl:∀ g,v'.ownBlock=some g->w.heap.size<=g:=by
    intro g hg';rcases hb with hb|⟨g2,h8,h9⟩
    . rw[hg'] at hb;simp[Value.ownBlock] at hb
    . rw[hg'] at h8;cases h8;exact h9
   obtain⟨_,h0,zs,m,rfl,rfl,h⟩:=h;obtain⟨g',c',hc',rfl⟩:=Rf h0;have h:=h g' c' hc';simp only[kY,kW] at h;have hM:=hS.mem.newRow he (e:=e) (by rw[hsz];exact ho) hrd.rr hbl;have hl:row.length=ω.length:=hS.mem.rl.symm;refine⟨_,_,_,ω++[.slice (some ⟨g',0,none⟩) zs.length c'],w',h,.imm _ _ (.rsl _ _ _),⟨hS.tmps,hS.defers.ext he,fun t=>?_,hM⟩,?_,.ext (fun _ _ h=>h) (.refl _) (.append _ _) he⟩
   . show RS _ _ _ _ _ (look ((t1,_) :: env) t)
     unfold look;split
     . exact .tie _ _ _ _ _ (by rw[hl,List.getElem?_append_right (Nat.le_refl _),Nat.sub_self];rfl)
     . exact (hS.env t).mono (.refl V) (.refl μ) (.append _ _)
   . rw[hrd.val]
     exact hr
 . -- a row grows
   rename_i r m _;split at h
   case h_2=>exact h.elim
   rename_i e xs hrow;obtain⟨hu,hz,_,h⟩:=qU hT h;obtain⟨⟨ti,hti,hs1,hby⟩,h⟩:=vF h;rcases h with⟨hm,h10⟩|⟨hm,h10⟩
   . obtain⟨e',ys,A,c,vals,h11,hrd⟩:=zD hS hy h10
     obtain⟨hee,h12⟩:=jJ h11;subst hee;obtain⟨hlen,zs,k,rfl,rfl,h13⟩:=h12;simp only[tX,tY] at h13;obtain⟨hrl,hfin⟩:=gW _ _ _ _ h13;clear h10 h11 h13;obtain⟨i,z,hi,h2,h3,h4,h5,h6,h7⟩:=(hT _ _ hti).info;have hsz:=jI hti;obtain⟨Ax,N,cx,hω,hnN,rfl⟩:=hx.jd;obtain⟨A2,c2,vx,e1,hc,hmx,hA,hA2,hown,hR⟩:=hS.mem.vJ (hT _ _ hti).small hω hrow;cases e1;subst hm;obtain⟨v',w',hr,ho,hg,hb⟩:=G6 (P:=P) (w:=w) t ty e i z ti.size hu hi h4 h2 h6 hs1 (by rw[h3];exact hby) (base:=w0.heap.size) _ xs.length vx (by rw[hsz] at hown;exact hown) A ys.length c vals
      (fun h=>let ⟨p,q⟩:=hrd.nil h;⟨p,by rw[q];rfl⟩) (by rw[hrd.len,hsz]) hrd.cell hrd.rr.one oA hS.mem.below.size
     have uO:r<ω.length:=by rw[hS.mem.rl];exact hrl
     have hset:∀ q v,q ≠ r->ω[q]? = some v->(ω.set r v')[q]? = some v:=fun q v hq h=>by rw[List.getElem?_set_ne (Ne.symm hq)];exact h
     have lD:∀ m v,RS (ah T) V μ ω v (.own r m)->RS (ah T) V μ (ω.set r v') v .u:=fun _ v _=>.imm _ _ (.u v)
     have hM:=hS.mem.Ap (e:=e) (ys:=xs++ys) hω hrow hg (by rw[List.length_append,hsz];exact ho) (hR.append hrd.rr hown.1) hb (eU:=box.map fun c=>c.map (gq r fun _=>.u)) sI (by
      intro i cs cs' h1 h2;simp only[aN,Option.map_eq_some_iff] at h2;obtain⟨c0,hc0,rfl⟩:=h2;rw[h1] at hc0;cases hc0;refine⟨sI,fun j u d d' e1 e2 hrs=>?_⟩;simp only[aN,Option.map_eq_some_iff] at e2;obtain⟨d0,hd0,rfl⟩:=e2;rw[e1] at hd0;cases hd0;exact hrs.lN (.refl V) hset lD) (fun i cs cs' h1 h2 t h=>by simp only[aN,h1,Option.map_some,Option.some.injEq] at h2;subst h2;exact tV (fun _=>rfl) h)
     have hshape:∃ A' c',v' = .slice A' (xs++ys).length c':=by
      rw[List.length_append];rcases ho.2 with⟨q,q2⟩|⟨g,cap,cur,q,_⟩
      . exact⟨none,0,by rw[q];congr 1;omega⟩
      . exact⟨_,cap,q⟩
     obtain⟨A',c',hv'⟩:=hshape;refine⟨_,v',_,_,w',hfin,?_,⟨hS.tmps,hS.defers.DZ hS.mem hω hrow hg,fun t=>?_,hM⟩,?_,⟨fun _ _ h=>h,.refl _,fun q v hq _ h=>?_,fun q v hc hn=>hg.cell hc fun e=>hn ⟨_,hω,e.symm⟩⟩⟩
     . subst hv'
       exact .own r _ A' _ c' (List.getElem?_set_self uO) (Nat.le_refl _)
     . show RS _ _ _ _ _ (look (env.map fun x=>(x.1,jM r (fun _=>.u) x.2)) t)
       rw[tq];exact (hS.env t).sub (.refl V) hset lD
     . rw[hrd.val]
       exact hr
     . rw[List.getElem?_set_ne (fun e=>hq (by rw[e];rfl))];exact h
   . obtain⟨e',ys,A,c,vals,h11,hrd⟩:=zD hS hy h10
     obtain⟨hee,h12⟩:=jJ h11;subst hee;obtain⟨y0,rfl,zs,k,rfl,rfl,h13⟩:=h12;obtain⟨hrl,hfin⟩:=gW _ _ _ _ h13;clear h10 h11 h13;obtain⟨i,z,hi,h2,h3,h4,h5,h6,h7⟩:=(hT _ _ hti).info;have hsz:=jI hti;obtain⟨Ax,N,cx,hω,hnN,rfl⟩:=hx.jd;obtain⟨A2,c2,vx,e1,hc,hmx,hA,hA2,hown,hR⟩:=hS.mem.vJ (hT _ _ hti).small hω hrow;cases e1;obtain⟨rw_,hrw⟩:∃ rw_,xs[m]? = some rw_:=⟨_,aC hm⟩;have Un:=hR.len m rw_ hrw;have hy0:=hrd.rr.len 0 y0 rfl;obtain⟨ad,rfl⟩:∃ ad,A=some ad:=by
      cases A with
      | some ad=>exact⟨ad,rfl⟩
      | none=>exact absurd (hrd.nil rfl).2 sI
     obtain⟨g,hg⟩:∃ g,Ax=some ⟨g,0,none⟩:=by
      rcases hown.2 with⟨q,q2⟩|⟨g,cap,cur,q,_⟩
      . omega
      . cases q;exact⟨g,rfl⟩
     subst hg;have hvl:vals.length=ah T e:=by have:=hrd.len;simpa using this
     have hu0:rW (ah T) V vals y0:=⟨by rw[hvl,hy0],hrd.rr.one,fun j v d h1 h2=>by
      obtain⟨u,hu1,hu2⟩:=hrd.rr.rel 0 y0 j d rfl h2;rw[Nat.zero_mul,Nat.zero_add,h1] at hu1;cases hu1;exact hu2⟩
     obtain⟨p,w',hp,hst,hS',hstep⟩:=Gz (P:=P) (j:=m) (off:=0) hS (RS.op r e m 0 g _ _ hω) hu0 hrow hrw (by rw[hy0,Un];omega);cases hp;have hset:setCells rw_ 0 y0=y0:=by
      apply MK;rw[hy0,Un]
     rw[hset] at hS';have hval:=hrd.val;simp only[List.length_cons,List.length_nil,Nat.zero_add] at hval;refine⟨_,.slice (some ⟨g,0,none⟩) (m+1) cx,_,ω,w',hfin,.own r _ _ _ _ hω oA,hS',?_,?_⟩
     . have hroom:m+1<=cx:=oA
       have hfc:=run_firstCells_some (P:=P) w i.size 1 ad 1 c vals (by rw[hvl,hsz,<- h2];simp) (hrd.cell ad rfl);rw[hsz,<- h2,Nat.add_zero] at hst;rw[hval];simp[Builtin.append_,run_underlying hu,sizeOf,typeInfo,hi,Builtin.lenOf,hroom,hfc,Addr.add_lit,hst]
     . exact hstep
 . -- a raw slice whose row is known
   rename_i g m c0;obtain⟨t0,t1,r,ht,h⟩:=h;split at h
   case h_2=>exact h.elim
   rename_i e xs hrow;obtain⟨hu,hz,_,h⟩:=qU hT h;obtain⟨⟨ti,hti,hs1,hby⟩,h⟩:=vF h;obtain⟨hm,h10⟩:=h;obtain⟨e',ys,A,c,vals,h11,hrd⟩:=zD hS hy h10;obtain⟨hee,h12⟩:=jJ h11;subst hee;obtain⟨hlen,hy0,zs,k,rfl,rfl,hin,hmv⟩:=h12;clear h10 h11;obtain⟨i,z,hi,h2,h3,h4,h5,h6,h7⟩:=(hT _ _ hti).info;have hsz:=jI hti;have hv0:=hS.env t0;dsimp only at hv0;rw[ht] at hv0;have hω:=hv0.zi;rw[hx.BR];obtain⟨A2,c2,vx,e1,hc,hmx,hA,hA2,hown,hR⟩:=hS.mem.vJ (hT _ _ hti).small hω hrow;injection e1 with e1 e2 e3
   subst e1 e3;rw[<- hm] at hown;obtain⟨ad,rfl⟩:∃ ad,A=some ad:=by
    cases A with
    | some ad=>exact⟨ad,rfl⟩
    | none=>exact absurd (hrd.nil rfl).2 (by intro h0;rw[h0] at hy0;simp at hy0)
   obtain⟨v',w',hr,ho,hcs⟩:=U5 (P:=P) (w:=w) t ty e i z ti.size hu hi h4 h2 h6 hs1 (by rw[h3];exact hby) (base:=w0.heap.size) g c0 m vx (by rw[hsz] at hown;exact hown) ad ys.length c vals
    (by rw[hrd.len,hsz]) (hrd.cell ad rfl) hrd.rr.one oA hS.mem.below.size
   rw[hrd.val];rcases hcs with⟨hroom,rfl,hg⟩|⟨hover,c',rfl,he⟩
   . have hin:=hin (by rw[List.length_append];omega)
     simp only[tX,tY] at hin;obtain⟨hrl,hfin⟩:=gW _ _ _ _ hin;have uO:r<ω.length:=by rw[hS.mem.rl];exact hrl
     have hset:∀ q v,q ≠ r->ω[q]? = some v->(ω.set r (.slice (some ⟨g,0,none⟩) (m+ys.length) c0))[q]? = some v:=fun q v hq h=>by rw[List.getElem?_set_ne (Ne.symm hq)];exact h
     have lD:∀ k v,RS (ah T) V μ ω v (.own r k)->RS (ah T) V μ (ω.set r (.slice (some ⟨g,0,none⟩) (m+ys.length) c0)) v .u:=fun _ v _=>.imm _ _ (.u v)
     have hM:=hS.mem.Ap (e:=e) (ys:=xs++ys) hω hrow hg (by rw[List.length_append,hsz,<- hm];exact ho) (hR.append hrd.rr (by rw[<- hm];exact hown.1)) (v':=.slice (some ⟨g,0,none⟩) (m+ys.length) c0) (.inl rfl) (eU:=box.map fun c=>c.map (gq r fun _=>.u)) sI (by
      intro i cs cs' h1 h2;simp only[aN,Option.map_eq_some_iff] at h2;obtain⟨c0,hc0,rfl⟩:=h2;rw[h1] at hc0;cases hc0;refine⟨sI,fun j u d d' e1 e2 hrs=>?_⟩;simp only[aN,Option.map_eq_some_iff] at e2;obtain⟨d0,hd0,rfl⟩:=e2;rw[e1] at hd0;cases hd0;exact hrs.lN (.refl V) hset lD) (fun i cs cs' h1 h2 t h=>by simp only[aN,h1,Option.map_some,Option.some.injEq] at h2;subst h2;exact tV (fun _=>rfl) h)
     have hk:(xs++ys).length=m+ys.length:=by rw[List.length_append,hm]
     rw[hk] at hfin;refine⟨_,_,_,_,w',hfin,.imm _ _ (.rsl _ _ _),⟨hS.tmps,hS.defers.DZ hS.mem hω hrow hg,fun t=>?_,hM⟩,hr,⟨fun _ _ h=>h,.refl _,fun q v _ hq _=>absurd rfl hq,fun q v hc hn=>absurd trivial hn⟩⟩
     . show RS _ _ _ _ _ (look ((t0,_) :: env.map fun x=>(x.1,jM r (fun _=>.u) x.2)) t)
       unfold look;split
       . exact .tie _ _ _ _ _ (List.getElem?_set_self uO)
       . rw[tq]
         exact (hS.env t).sub (.refl V) hset lD
   . have hmv:=hmv (by rw[List.length_append];omega)
     have hk:(xs++ys).length=m+ys.length:=by rw[List.length_append,hm]
     have hcap:m+ys.length<=c':=by
      rcases ho.2 with⟨q,_⟩|⟨g2,cap,cur,q,_,_,q2,_⟩
      . cases q
      . cases q;exact q2
     obtain⟨q,hq,hmv⟩:=hmv;have hmv:=hmv w.heap.size c' (by rw[hk];exact hcap);obtain⟨s',ω',hk',hS',hpre⟩:=U8 (xs:=xs++ys) (g':=w.heap.size) (c':=c') hS he hq (by rw[List.length_append,hsz,<- hm];exact ho) (hR.append hrd.rr (by rw[<- hm];exact hown.1)) (Nat.le_refl _) hmv;rw[hk] at hk';refine⟨_,_,s',ω',w',hk',.imm _ _ (.rsl _ _ _),hS',hr,⟨fun _ _ h=>h,.refl _,fun q v _ hq _=>absurd rfl hq,fun q v hc hn=>absurd trivial hn⟩⟩
 . exact h.elim
theorem Wi(hT:TOk P T)(hS:Sim (ah T) w0 V0 V μ ω s a w){t ty:TypeId}{x y:D}{vx vy:Value}{K:D->St->Prop}(hx:RS (ah T) V μ ω vx x)(hy:RS (ah T) V μ ω vy y)(h:KR T s t x y K) :
    ∃ d v s' ω' w',K d s'/\RS (ah T) V μ ω' v d/\Sim (ah T) w0 V0 V μ ω' s' a w'/\(Builtin.append_ #[t,t] ty #[vx,vy]).run P w = .ok v w'/\Step (zh x) V μ ω w V μ ω' w':=by
 unfold KR at h;split at h
 . obtain⟨t0,r,N,ht,hm,h⟩:=h
   obtain⟨env,box,row,n⟩:=s;dsimp only at ht;have h0:=hS.env t0;dsimp only at h0;rw[ht] at h0;refine G7 hT hS hx ?_ h;rw[hy.BR];exact .own r _ _ N _ h0.zi hm
 . refine G7 hT hS hx ?_ h
   rw[hy.BQ];exact .imm _ _ .aO
 . exact G7 hT hS hx hy h
theorem Jm{e:TypeId}{p:Prop}(hT:TOk P T)(h:u8K T e p):P.underlying e=some (.int .u8)/\ah T e=1/\p:=by
 unfold u8K at h;split at h
 . rename_i h1
   exact⟨(hT _ _ h1).kind,jI h1,h⟩
 . exact h.elim
theorem Yy{e:TypeId}{p:Prop}(h:JY T e p):p:=by
 unfold JY at h;split at h
 . exact (vF h).2
 . split at h
   . exact h
   . exact h.elim
theorem Yz{e:TypeId}{p:Prop}(h:KN T e p):T e=none/\p:=by
 unfold KN at h;split at h
 . exact⟨aS,h⟩
 . exact h.elim
theorem PW(V:Vw)(l:List UInt8){sz:TypeId->Nat}{e:TypeId}(hs:sz e=1):fU sz V e (Lib.strCells (bK l)) (l.map bT):=by
 refine⟨Lib.strCells_oneCell _,fun i rw_ h=>?_,fun i rw_ j d h1 h2=>?_⟩
 . simp only[aN,Option.map_eq_some_iff] at h
   obtain⟨b,_,rfl⟩:=h;rw[hs];rfl
 . simp only[aN,Option.map_eq_some_iff] at h1
   obtain⟨b,hb,rfl⟩:=h1
   cases j with
   | succ j=>simp[bT] at h2
   | zero=>
    simp only[bT,List.getElem?_cons_zero,Option.some.injEq] at h2;subst h2;refine⟨.int .u8 b.toNat,?_,.i _ _⟩;rw[hs];simp[Lib.strCells,bK,hb]
theorem Wj(hT:TOk P T)(hS:Sim (ah T) w0 V0 V μ ω s a w){t u ty:TypeId}{x y:D}{vx vy:Value}{K:D->St->Prop}(hx:RS (ah T) V μ ω vx x)(hy:RS (ah T) V μ ω vy y)(h:KT T s t x y K) :
    ∃ d v s' w',K d s'/\RS (ah T) V μ ω v d/\Sim (ah T) w0 V0 V μ ω s' a w'/\(Builtin.copy_ #[t,u] ty #[vx,vy]).run P w = .ok v w'/\Step (zh x) V μ ω w V μ ω w':=by
 obtain⟨env,box,row,n⟩:=s;unfold KT at h;dsimp only at h;split at h
 case h_2=>exact h.elim
 rename_i r e lo m l;split at h
 case h_2=>exact h.elim
 rename_i e0 xs hrow;obtain⟨he,h20⟩:=jJ h;subst he;obtain⟨e',hu,hz,h21⟩:=Em hT h20;obtain⟨hs1,hlm,xs',rfl,k,rfl,h22⟩:=Q7 h21;obtain⟨_,hk⟩:=gW _ _ _ _ h22;obtain⟨g,N,c,c',hω,hn,rfl⟩:=hx.Uk;rw[hy.nP];obtain⟨A2,c2,vals,e1,_⟩:=hS.mem.qL hω hrow;cases e1;have hag:rW (ah T) V (l.map fun b=>Value.int IntKind.u8 (b.toNat:Int)) (l.map fun b=>D.i .u8 (b.toNat:Int)):=by
  refine⟨sI,fun v hv=>?_,fun j v d h1 h2=>?_⟩
  . obtain⟨b,_,rfl⟩:=List.mem_map.1 hv
    rfl
  . simp only[aN,Option.map_eq_some_iff] at h1 h2
    obtain⟨b,hb,rfl⟩:=h1;obtain⟨b',hb',rfl⟩:=h2;rw[hb] at hb';cases hb';exact .i _ _
 obtain⟨w',hst,hS',hstep⟩:=L8 (P:=P) (lo:=lo) hs1 hω _ _ 0 hS hag hrow (by rw[bV];omega);rw[List.map_map,bV,Nat.add_zero] at hS';refine⟨_,goInt l.length,_,w',hk,.imm _ _ (.i _ _),hS',?_,hstep⟩;have hmin:Nat.min (bK l).size m=l.length:=by rw[mZ];exact Nat.min_eq_left hlm
 have htk:List.take l.length (List.map (fun b:UInt8=>Value.int IntKind.u8 (b.toNat:Int)) l)=List.map (fun b:UInt8=>Value.int IntKind.u8 (b.toNat:Int)) l:=au sI;rw[hs1];simp[Builtin.copy_,dF hu,Builtin.lenOf,Builtin.firstCells,hz,hs1,bK];rw[show ({ data:=l.toArray }:ByteArray).size.min m=l.length from hmin,htk,hst];rfl
theorem Wn(hT:TOk P T)(hS:Sim (ah T) w0 V0 V μ ω s a w){t u ty:TypeId}(hus:P.underlying u=some .string){x y:D}{vx vy:Value}{K:D->St->Prop}(hx:RS (ah T) V μ ω vx x)(hy:RS (ah T) V μ ω vy y)(h:KQ P T s t x y K) :
    ∃ d v s' ω' w',K d s'/\RS (ah T) V μ ω' v d/\Sim (ah T) w0 V0 V μ ω' s' a w'/\(Builtin.append_ #[t,u] ty #[vx,vy]).run P w = .ok v w'/\Step (zh x) V μ ω w V μ ω' w':=by
 obtain⟨env,box,row,n⟩:=s;unfold KQ at h;dsimp only at h;split at h
 case h_2=>exact h.elim
 rename_i r m l;split at h
 case h_2=>exact h.elim
 rename_i e xs hrow;obtain⟨hu,hz,⟨ti,hti⟩,h⟩:=qU hT h;obtain⟨he8,_,hB,hm,hlen,zs,k,rfl,rfl,h13⟩:=Jm hT h;simp only[tX,tY] at h13;obtain⟨hrl,hfin⟩:=gW _ _ _ _ h13;clear h h13;obtain⟨i,z,hi,h2,h3,h4,h5,h6,h7⟩:=(hT _ _ hti).info;unfold TR at hB;rw[hi] at hB;simp only[Option.map_some,Option.some.injEq,Prod.mk.injEq] at hB;obtain⟨hB1,hB2,hB3⟩:=hB;have hsz:=jI hti;have hsz1:ah T e=1:=by rw[hsz,<- h2,hB2]
 obtain⟨Ax,N,cx,hω,hnN,rfl⟩:=hx.jd;obtain⟨A2,c2,vx,e1,hc,hmx,hA,hA2,hown,hR⟩:=hS.mem.vJ (hT _ _ hti).small hω hrow;cases e1;subst hm;rw[hy.nP];obtain⟨v',w',hr,ho,hg,hb⟩:=U6 (P:=P) (w:=w) t u ty e i hu hus hi hB1 hB2 hB3 (base:=w0.heap.size) _ xs.length vx (by rw[hsz1] at hown;exact hown) (bK l) (by rw[mZ];exact hlen) hS.mem.below.size;rw[mZ] at ho;have uO:r<ω.length:=by rw[hS.mem.rl];exact hrl
 have hset:∀ q v,q ≠ r->ω[q]? = some v->(ω.set r v')[q]? = some v:=fun q v hq h=>by rw[List.getElem?_set_ne (Ne.symm hq)];exact h
 have lD:∀ m v,RS (ah T) V μ ω v (.own r m)->RS (ah T) V μ (ω.set r v') v .u:=fun _ v _=>.imm _ _ (.u v)
 have hM:=hS.mem.Ap (e:=e) (ys:=xs++l.map bT) hω hrow hg (by rw[List.length_append,bV,hsz1];exact ho) (hR.append (PW V l hsz1) hown.1) hb (eU:=box.map fun c=>c.map (gq r fun _=>.u)) sI (by
  intro i cs cs' h1 h2;simp only[aN,Option.map_eq_some_iff] at h2;obtain⟨c0,hc0,rfl⟩:=h2;rw[h1] at hc0;cases hc0;refine⟨sI,fun j u d d' e1 e2 hrs=>?_⟩;simp only[aN,Option.map_eq_some_iff] at e2;obtain⟨d0,hd0,rfl⟩:=e2;rw[e1] at hd0;cases hd0;exact hrs.lN (.refl V) hset lD) (fun i cs cs' h1 h2 t h=>by simp only[aN,h1,Option.map_some,Option.some.injEq] at h2;subst h2;exact tV (fun _=>rfl) h)
 have hshape:∃ A' c',v' = .slice A' (xs++l.map bT).length c':=by
  rw[List.length_append,bV];rcases ho.2 with⟨q,q2⟩|⟨g,cap,cur,q,_⟩
  . exact⟨none,0,by rw[q];congr 1;omega⟩
  . exact⟨_,cap,q⟩
 obtain⟨A',c',hv'⟩:=hshape;refine⟨_,v',_,_,w',hfin,?_,⟨hS.tmps,hS.defers.DZ hS.mem hω hrow hg,fun t=>?_,hM⟩,hr,⟨fun _ _ h=>h,.refl _,fun q v hq _ h=>?_,fun q v hc hn=>hg.cell hc fun e=>hn ⟨_,hω,e.symm⟩⟩⟩
 . subst hv'
   exact .own r _ A' _ c' (List.getElem?_set_self uO) (Nat.le_refl _)
 . show RS _ _ _ _ _ (look (env.map fun x=>(x.1,jM r (fun _=>.u) x.2)) t)
   rw[tq];exact (hS.env t).sub (.refl V) hset lD
 . rw[List.getElem?_set_ne (fun e=>hq (by rw[e];rfl))];exact h
theorem Vz(hS:Sim (ah T) w0 V0 V μ ω s a w){t1 t2 e:TypeId}(hu:P.underlying t1=some (.slice e))(hd:P.underlying t2=some .string)(he8:P.underlying e=some (.int .u8)){v:Value}{r m:Nat}
    {xs:List (List D)}{l:List UInt8}{e':TypeId}(h1:ah T e'=1)(hv:RS (ah T) V μ ω v (.own r m))(hr:s.row[r]? = some (some (e',xs)))(hm:m<=xs.length)(hl:xs.take m=l.map bT):(convert t1 t2 v).run P w = .ok (.string (bK l)) w:=by
 obtain⟨A,N,c,hω,hn,rfl⟩:=hv.jd;obtain⟨A2,c2,vals,e1,hc,hmx,hA,hA2,hown,hR⟩:=hS.mem.qL hω hr;cases e1;rw[run_convert_bytes_string w t1 t2 e A m c hu he8 hd];have hml:m=l.length:=by have:=congrArg List.length hl;rw[List.length_take,bV] at this;omega
 cases A with
 | none=>
  obtain⟨_,rfl⟩:=hA rfl;have:m=0:=by simpa using hm
  subst this;have:l=[]:=List.eq_nil_of_length_eq_zero hml.symm;subst this;rfl
 | some ad=>
  obtain⟨h2,h3⟩:=hA2 ad rfl;obtain⟨b,o,sp⟩:=ad;dsimp only at h2 h3;subst h2 h3;have hval:∀ (j:Nat) c,l[j]? = some c->vals[j]? = some (.int .u8 c.toNat):=by
   intro j c hj;have hx:xs[j]? = some (bT c):=by
    have:=congrArg (fun q=>q[j]?) hl;simp only[aN,hj,Option.map_some] at this;rw[List.getElem?_take] at this;split at this
    . exact this
    . cases this
   obtain⟨u,hu1,hu2⟩:=hR.rel j (bT c) 0 _ hx rfl;rw[h1,Nat.mul_one,Nat.add_zero] at hu1;rw[hu1];cases hu2;rfl
  subst hml;rw[<- run_convert_bytes_string w t1 t2 e (some ⟨b,0,none⟩) l.length c hu he8 hd];refine run_convert_bytes_back w t1 t2 e ⟨b,0,none⟩ c l hu he8 hd fun j hj=>?_
  have:=hown.cells (g:=b) rfl j _ (hval j _ (aC hj));exact this
def Ew(k:Nat):D->D|.own r m=>.own (r+k) m|d=>d
theorem Nu{k:Nat}{d:D}{K:D->Prop}(h:wu k d K):K (Ew k d)/\(∀ r e j o,d ≠ .op r e j o)/\(∀ i o,d ≠ .bp i o)/\(∀ cs,d ≠ .agg cs)/\(∀ cs,d ≠ .tup cs)/\(∀ f x y,d ≠ .fnh f x y)/\(∀ r e a m,d ≠ .osl r e a m)/\∀ r g n c,d ≠ .tie r g n c:=by
 cases d<;>simp only[wu,kW,D.force_eq] at h<;>first|exact h.elim|exact⟨h,sI,sI,sI,sI,sI,sI,sI⟩
theorem RS.wu{sz:TypeId->Nat}{V':Vw}{ω0 ω':List Value}{v:Value}{d:D}(hV:VLe V V')(hω:∀ (r:Nat) u,ω0[r]? = some u->ω'[r+ω.length]? = some u)(h:RS sz V [] ω0 v d)
    (hn:(∀ r e j o,d ≠ .op r e j o)/\(∀ i o,d ≠ .bp i o)/\(∀ cs,d ≠ .agg cs)/\(∀ cs,d ≠ .tup cs)/\(∀ f x y,d ≠ .fnh f x y)/\(∀ r e a m,d ≠ .osl r e a m)/\∀ r g n c,d ≠ .tie r g n c):RS sz V' μ ω' v (Ew ω.length d):=by
 cases h with
 | imm _ _ hi=>
  have:Ew ω.length d=d:=by cases d<;>first|rfl|cases hi
  rw[this];exact .imm _ _ (hi.mono hV)
 | own r m A N c hq hm=>exact .own _ m A N c (hω r _ hq) hm
 | op r e j o=>exact absurd rfl (hn.1 _ _ _ _)
 | bp i o=>exact absurd rfl (hn.2.1 _ _)
 | agg cs=>exact absurd rfl (hn.2.2.1 _)
 | tup cs=>exact absurd rfl (hn.2.2.2.1 _)
 | fnh=>exact absurd rfl (hn.2.2.2.2.1 _ _ _)
 | osl=>exact absurd rfl (hn.2.2.2.2.2.1 _ _ _ _)
 | tie=>exact absurd rfl (hn.2.2.2.2.2.2 _ _ _ _)
theorem Nv{k:Nat}:∀ {l:List D} {K:List D->Prop},E8 k l K->K (l.map (Ew k))/\∀ d ∈ l,(∀ r e j o,d ≠ .op r e j o)/\(∀ i o,d ≠ .bp i o)/\(∀ cs,d ≠ .agg cs)/\(∀ cs,d ≠ .tup cs)/\(∀ f x y,d ≠ .fnh f x y)/\(∀ r e a m,d ≠ .osl r e a m)/\∀ r g n c,d ≠ .tie r g n c
 | [],K,h=>⟨h,sI⟩
 | d :: l,K,h=>by
  simp only[E8] at h;obtain⟨h1,h2⟩:=Nu h;obtain⟨h3,h4⟩:=Nv h1;refine⟨h3,fun x hx=>?_⟩;rcases List.mem_cons.1 hx with rfl|hx
  . exact h2
  . exact h4 x hx
theorem ML{sz:TypeId->Nat}{V':Vw}{ω0 ω':List Value}{v:Value}{d:D}{K:D->Prop}(hV:VLe V V')(hω:∀ (r:Nat) u,ω0[r]? = some u->ω'[r+ω.length]? = some u)(hr:RS sz V [] ω0 v d)
    (h:Fa ω.length d K):∃ d',K d'/\RS sz V' μ ω' v d':=by
 unfold Fa at h;split at h
 . obtain⟨h1,h2⟩:=Nv h
   obtain⟨vs,rfl,hs,ho,hR⟩:=hr.jU;refine⟨_,h1,.agg _ vs (by simpa using hs) ho fun j v d e1 e2=>?_⟩;simp only[aN,Option.map_eq_some_iff] at e2;obtain⟨d0,hd0,rfl⟩:=e2;exact (hR j v d0 e1 hd0).wu hV hω (h2 d0 (aU hd0))
 . obtain⟨h1,h2⟩:=Nu h
   exact⟨_,h1,hr.wu hV hω h2⟩
theorem MN{sz:TypeId->Nat}{V':Vw}{ω0 ω':List Value}(hV:VLe V V')(hω:∀ (r:Nat) u,ω0[r]? = some u->ω'[r+ω.length]? = some u):∀ (ds:List D) (vs:List Value) (K:List D->Prop),vs.length=ds.length ->
    (∀ (j:Nat) v d,vs[j]? = some v->ds[j]? = some d->RS sz V [] ω0 v d)->Fb ω.length ds K->∃ es,K es/\es.length=ds.length/\∀ (j:Nat) v d,vs[j]? = some v->es[j]? = some d->RS sz V' μ ω' v d
 | [],vs,K,hl,hR,h=>⟨[],h,rfl,sI⟩
 | d :: ds,[],K,hl,hR,h=>by simp at hl
 | d :: ds,v :: vs,K,hl,hR,h=>by
  simp only[Fb] at h;obtain⟨d',h1,hr⟩:=ML (μ:=μ) hV hω (hR 0 v d rfl rfl) h;obtain⟨es,h2,h3,h4⟩:=MN hV hω ds vs _ (by simpa using hl) (fun j v d e1 e2=>hR (j+1) v d (by simpa using e1) (by simpa using e2)) h1;refine⟨d' :: es,h2,by simp[h3],fun j u x e1 e2=>?_⟩
  cases j with
  | zero=>simp at e1 e2;subst e1 e2;exact hr
  | succ j=>exact h4 j u x (by simpa using e1) (by simpa using e2)
theorem sJ{sz:TypeId->Nat}{V':Vw}{ω0 ω':List Value}{v:Value}{d:D}{K:D->Prop}(hV:VLe V V')(hω:∀ (r:Nat) u,ω0[r]? = some u->ω'[r+ω.length]? = some u)(hr:RS sz V [] ω0 v d)
    (h:uq ω.length d K):∃ d',K d'/\RS sz V' μ ω' v d':=by
 unfold uq at h;split at h
 . obtain⟨vs,rfl,hs,hR⟩:=hr.xk
   obtain⟨es,h1,h2,h3⟩:=MN (μ:=μ) hV hω _ vs.toList _ (by simpa using hs) (fun j v d e1 e2=>hR j v d (by simpa using e1) e2) h;exact⟨_,h1,.tup _ vs (by rw[hs,h2]) fun j v d e1 e2=>h3 j v d (by simpa using e1) e2⟩
 . exact ML hV hω hr h
theorem MW{t:TypeId}{d:D}{v:Value}{K:D->Prop}(hv:RS (ah T) V μ ω v d)(h:FC T t d K):∃ d',K d'/\RI (ah T) V v d':=by
 unfold FC at h;split at h
 . obtain⟨vs,rfl,hs,ho,hR⟩:=hv.jU
   obtain⟨ds,hk,hds⟩:=zG _ 0 vs.toList _ (by simpa using hs) ho (fun j v d h1 h2=>hR j v d (by simpa using h1) h2) h;exact⟨_,hk,.agg _ _ (by rw[<- hds.size];simp) ho fun j v d h1 h2=>hds.rel j v d (by simpa using h1) h2⟩
 . exact G5 hv h
theorem oW:∀ (ts:List TypeId) (ds:List D) (vs:List Value) (K:List D->Prop),iU (ah T) V μ ω vs ds->pK T ts ds K ->
    ∃ es,K es/\es.length=ds.length/\∀ (j:Nat) v d,vs[j]? = some v->es[j]? = some d->RI (ah T) V v d
 | [],[],vs,K,hv,h=>⟨[],h,rfl,fun j v d _ hd=>by simp at hd⟩
 | t :: ts,[],vs,K,hv,h=>h.elim
 | [],d :: ds,vs,K,hv,h=>h.elim
 | t :: ts,d :: ds,[],K,hv,h=>by have:=hv.1;simp at this
 | t :: ts,d :: ds,v :: vs,K,hv,h=>by
  simp only[pK] at h;obtain⟨d',h,hd⟩:=MW (hv.2 0 v d rfl rfl) h;obtain⟨es,h,hes,hr⟩:=oW ts ds vs _ ⟨by simpa using hv.1,fun j v d h1 h2=>hv.2 (j+1) v d (by simpa using h1) (by simpa using h2)⟩ h;refine⟨d' :: es,h,by simp[hes],fun j v' e' h1 h2=>?_⟩
  cases j with
  | zero=>simp at h1 h2;subst h1 h2;exact hd
  | succ j=>exact hr j v' e' (by simpa using h1) (by simpa using h2)
theorem Mem.call(h:Mem (ah T) w0 V0 V μ ω box row w){V':Vw}{ω0:List Value}{row0:Rows}(hres:Res (ah T) V V' ω0 row0 w w') :
    Mem (ah T) w0 V0 V' μ (ω++ω0) box (row++row0) w':=by
 have he:Ext w w':=hres.below;have h':=h.ext he;have hpre:Pre ω (ω++ω0):=.append _ _;have own:∀ l g,Own μ (ω++ω0) (row++row0) l g->Own μ ω row l g\/∃ (r:Nat) (v:Value) (x:TypeId × List (List D)),l = .inr (r+ω.length)/\ω0[r]? = some v/\row0[r]? = some (some x)/\v.ownBlock=some g:=by
  intro l g hl
  cases l with
  | inl i=>exact .inl hl
  | inr q=>
   obtain⟨u,y,h1,h2,h3⟩:=hl;rcases Nat.lt_or_ge q ω.length with hq|hq
   . rw[List.getElem?_append_left hq] at h1
     rw[List.getElem?_append_left (by rw[<- h.rl];exact hq)] at h2;exact .inl ⟨u,y,h1,h2,h3⟩
   . rw[List.getElem?_append_right hq] at h1
     rw[List.getElem?_append_right (by rw[<- h.rl];exact hq),<- h.rl] at h2;exact .inr ⟨q - ω.length,u,y,by congr 1;omega,h1,h2,h3⟩
 have newer:∀ (r:Nat) v (x:TypeId × List (List D)) g,ω0[r]? = some v->row0[r]? = some (some x)->v.ownBlock=some g->w.heap.size<=g/\g<w'.heap.size:=by
  rintro r v ⟨e,xs⟩ g h1 h2 h3;obtain⟨vals,hown,_⟩:=hres.rows r v e xs h1 h2;exact hown.lt g h3
 refine⟨h'.below,hres.vok,fun p u hp=>hres.le _ _ (h.vle p u hp),fun p hp=>?_,h.bl,?_,by simp[h.rl,hres.rl],?_,?_,?_,?_,fun x hx=>?away⟩
 case away=>
  obtain⟨a,b,c,d,e1⟩:=h'.away x hx;have hlt:=(Array.getElem?_eq_some_iff.1 (h.away x hx).1).1;refine⟨a,b,fun l hl=>?_,fun p u hp hb=>?_,e1⟩
  . rcases own l _ hl with hl|⟨r,v,y,rfl,e2,e3,e4⟩
    . exact c l hl
    . have:=(newer r v y _ e2 e3 e4).1;omega
  . rw[hres.gu p (by rw[hb];exact hlt)] at hp
    exact d p u hp hb
 . rw[hres.gu p (Nat.lt_of_lt_of_le hp h.below.size)]
   exact h.gu p hp
 . intro i g cs h1 h2
   obtain⟨us,t',a,b,c',d,ty⟩:=h'.hbox i g cs h1 h2;exact⟨us,t',a,b,c',fun j v d' e f=>(d j v d' e f).mono hres.le (.refl μ) hpre,ty⟩
 . intro q u e ys h1 h2
   rcases Nat.lt_or_ge q ω.length with hq|hq
   . rw[List.getElem?_append_left hq] at h1
     rw[List.getElem?_append_left (by rw[<- h.rl];exact hq)] at h2;obtain⟨vals,a,b,c',d⟩:=h'.hrow q u e ys h1 h2;exact⟨vals,a,b,c',fun i rw_ j d' e1 e2=>let ⟨x,y,z⟩:=d i rw_ j d' e1 e2;⟨x,y,z.mono hres.le⟩⟩
   . rw[List.getElem?_append_right hq] at h1
     rw[List.getElem?_append_right (by rw[<- h.rl];exact hq),<- h.rl] at h2;obtain⟨vals,a,b⟩:=hres.rows _ u e ys h1 h2;exact⟨vals,ownsRow_base a h.below.size,b⟩
 . intro l l' g h1 h2
   rcases own l g h1 with h3|⟨r,v,x,rfl,e2,e3,e4⟩<;>rcases own l' g h2 with h5|⟨r',v',x',rfl,f2,f3,f4⟩
   . exact h.uniq l l' g h3 h5
   . have:=(h.new _ _ h3).2;have:=(newer r' v' x' g f2 f3 f4).1;omega
   . have:=(h.new _ _ h5).2;have:=(newer r v x g e2 e3 e4).1;omega
   . rw[hres.uniq r r' v v' x x' g e2 e3 f2 f3 e4 f4]
 . intro l g h1
   rcases own l g h1 with h3|⟨r,v,x,rfl,e2,e3,e4⟩
   . exact h'.new l g h3
   . obtain⟨a,b⟩:=newer r v x g e2 e3 e4
     exact⟨Nat.le_trans h.below.size a,b⟩
 . intro p u l hp h1
   rcases own l _ h1 with h3|⟨r,v,x,rfl,e2,e3,e4⟩
   . rw[hres.gu p (h.new _ _ h3).2] at hp
     exact h.eF p u l hp h3
   . exact hres.eF p u r v x hp e2 e3 e4
theorem run_buildSlice{t e:TypeId}{z:Value}{size len:Nat}(hu:P.underlying t=some (.slice e))(hzs:(sizeOf e).run P w = .ok size w)(hz:(zeroValue e).run P w = .ok z w)(hb:len*size<=16777216)
    {parts:Array (Nat × Value)}{us:Array Value}
    (hf:Instr.fill (fun i=>some (i*size,size)) ((Array.range (len*size)).map (fun k=>(if len*size=0 then #[] else z.cells)[k % (if len*size=0 then #[] else z.cells).size]!)) parts.toList=some us) :
    (Instr.buildSlice t len parts).run P w = .ok (.slice (some ⟨w.heap.size,0,none⟩) len len) (w.alloc (.cells us e)):=by
 have hnb:¬ len*size > 2 ^ 24:=oA;have hnb':¬ 16777216<len*size:=oA;by_cases h0:len*size=0
 . rw[if_pos h0] at hf
   simp only[Instr.buildSlice,Sem.run_bind,dF hu,Result.andThen_ok,hzs,if_neg hnb,if_pos h0,Sem.run_pure,hf,newRow,run_newObj];rfl
 . rw[if_neg h0] at hf
   simp only[Instr.buildSlice,Sem.run_bind,dF hu,Result.andThen_ok,hzs,if_neg hnb,if_neg h0,Sem.run_pure,hz,hf,newRow,run_newObj];rfl
def FD(tmps:Array Value):ResultVar->Sem Value
 | .tmp t=>pure (tmps.getD t undef)
 | .cell a t=>do loadVar t (<- asAddr (tmps.getD a undef))
theorem yc(fn:Func)(tmps:Array Value):results fn tmps=(do
    let vs <- fn.results.mapM (FD tmps)
    pure (if h:vs.size=1 then vs[0] else .tuple vs)):=rfl
theorem sW(hT:TOk P T)(hS:Sim (ah T) w0 V0 V μ ω s a w):∀ (rs:List ResultVar) (K:List D->Prop),uM T s rs K ->
    ∃ vs ds,K ds/\iU (ah T) V μ ω vs ds/\(rs.mapM (FD a.tmps)).run P w = .ok vs w
 | [],K,h=>⟨[],[],h,⟨rfl,sI⟩,sI⟩
 | .tmp t :: rs,K,h=>by
  simp only[uM,D.force_eq] at h;obtain⟨vs,ds,hk,hv,hr⟩:=sW hT hS rs _ h;refine⟨a.tmps.getD t undef :: vs,_,hk,⟨by simp[hv.1],fun j v d h1 h2=>?_⟩,by simp only[List.mapM_cons,FD,Sem.run_bind,Sem.run_pure,Result.andThen_ok,hr]⟩
  cases j with
  | zero=>simp only[List.getElem?_cons_zero,Option.some.injEq] at h1 h2;subst h1 h2;exact hS.get (.tmp t)
  | succ j=>exact hv.2 j v d (by simpa using h1) (by simpa using h2)
 | .cell p t :: rs,K,h=>by
  simp only[uM] at h;obtain⟨ad,_,d,u,hp,hk,hr,_,hl⟩:=Nq hT hS.mem (hS.get (.tmp p)) h;obtain⟨vs,ds,hk,hv,hrs⟩:=sW hT hS rs _ hk;refine⟨u :: vs,_,hk,⟨by simp[hv.1],fun j v d h1 h2=>?_⟩,?_⟩
  . cases j with
    | zero=>simp only[List.getElem?_cons_zero,Option.some.injEq] at h1 h2;subst h1 h2;exact hr
    | succ j=>exact hv.2 j v d (by simpa using h1) (by simpa using h2)
  . rw[show a.eval (.tmp p)=a.tmps.getD p undef from rfl] at hp
    simp only[List.mapM_cons,FD,Sem.run_bind,hp,asAddr,Sem.run_pure,Result.andThen_ok,hl w ((Ext.refl w).TP _ _),hrs]
theorem pz{sz:TypeId->Nat}{vs:List Value}{ds:List D}(h:iU sz V μ ω vs ds):RS sz V μ ω (if h:vs.toArray.size=1 then vs.toArray[0] else .tuple vs.toArray) (iE ds):=by
 obtain⟨hl,hR⟩:=h
 match vs,ds,hl with
 | [v],[d],_=>simpa[iE] using hR 0 v d rfl rfl
 | [],[],_=>exact .tup _ _ sI sI
 | v :: v' :: vs,d :: d' :: ds,hl=>
  rw[dif_neg sI];exact .tup _ _ (by simpa using hl) fun j v d h1 h2=>hR j v d (by simpa using h1) h2
theorem yg:∀ (ds:List D) (k t:Nat),look (fO k ds) t=if k<=t then ds.getD (t - k) .u else .u
 | [],k,t=>by simp[fO,look]
 | d :: ds,k,t=>by
  simp only[fO,look];split
  . rename_i h
    have:=dO h;subst this;simp
  . rename_i h
    have hne:k ≠ t:=by rintro rfl;rw[Nat.beq_refl] at h;cases h
    rw[yg ds (k+1) t];by_cases hk:k+1<=t
    . rw[if_pos hk,if_pos oA,show t - k=(t - (k+1))+1 by omega]
      simp
    . rw[if_neg hk,if_neg oA]
theorem Hu(k:Nat)(env:List (Nat × D))(t:Nat):look (env.map fun x=>(x.1+k,x.2)) (t+k)=look env t:=by
 induction env with
 | nil=>rfl
 | cons x env ih=>
  obtain⟨q,d⟩:=x;have hb:Nat.beq (q+k) (t+k)=Nat.beq q t:=by
   by_cases h:q=t
   . subst h;simp[Nat.beq_refl]
   . have h1:Nat.beq q t=false:=by
       cases hq:Nat.beq q t with
       | false=>rfl
       | true=>exact absurd (dO hq) h
     have h2:Nat.beq (q+k) (t+k)=false:=by
      cases hq:Nat.beq (q+k) (t+k) with
      | false=>rfl
      | true=>exact absurd (Nat.add_right_cancel (dO hq)) h
     rw[h1,h2]
  simp only[List.map_cons,look,hb,ih]
theorem GN(k:Nat)(env:List (Nat × D))(t:Nat)(ht:t<k):look (env.map fun x=>(x.1+k,x.2)) t = .u:=by
 induction env with
 | nil=>rfl
 | cons x env ih=>
  obtain⟨q,d⟩:=x;have hb:Nat.beq (q+k) t=false:=by
   cases hq:Nat.beq (q+k) t with
   | false=>rfl
   | true=>have:=dO hq;omega
  simp only[List.map_cons,look,hb,ih]
theorem xZ(l m:List (Nat × D))(t:Nat)(h:∀ x ∈ l,x.1 ≠ t):look (l++m) t=look m t:=by
 induction l with
 | nil=>rfl
 | cons x l ih=>
  obtain⟨q,d⟩:=x;have hb:Nat.beq q t=false:=by
   cases hq:Nat.beq q t with
   | false=>rfl
   | true=>exact absurd (dO hq) (h (q,d) sI)
  simp only[List.cons_append,look,hb];exact ih fun x hx=>h x (by simp[hx])
theorem GH(l m:List (Nat × D))(t:Nat)(h:∃ x ∈ l,x.1=t):look (l++m) t=look l t:=by
 induction l with
 | nil=>obtain⟨x,hx,_⟩:=h;cases hx
 | cons x l ih=>
  obtain⟨q,d⟩:=x;simp only[List.cons_append,look];split
  . rfl
  . rename_i hb
    refine ih ?_;obtain⟨y,hy,e⟩:=h;rcases List.mem_cons.1 hy with rfl|hy
    . simp only at e;subst e;rw[Nat.beq_refl] at hb;cases hb
    . exact⟨y,hy,e⟩
theorem vG:∀ (ds:List D) (k:Nat) (x:Nat × D),x ∈ fO k ds->k<=x.1/\x.1<k+ds.length
 | [],k,x,h=>by cases h
 | d :: ds,k,x,h=>by
  rcases List.mem_cons.1 h with rfl|h
  . simp
  . have:=vG ds (k+1) x h
    simp only[List.length_cons];omega
theorem Dy:∀ (ds:List D) (k t:Nat),k<=t->t<k+ds.length->∃ x ∈ fO k ds,x.1=t
 | [],k,t,h1,h2=>by simp at h2;omega
 | d :: ds,k,t,h1,h2=>by
  by_cases h:t=k
  . subst h;exact⟨(t,d),by simp[fO],rfl⟩
  . obtain⟨x,hx,e⟩:=Dy ds (k+1) t oA (by simp only[List.length_cons] at h2;omega)
    exact⟨x,by simp[fO,hx],e⟩
theorem JK(k:Nat)(env:List (Nat × D)):∀ K:List (Nat × D)->Prop,shE k env K=K (env.map fun x=>(x.1+k,x.2)):=by
 induction env with
 | nil=>intro K;rfl
 | cons x env ih=>intro K;obtain⟨t,d⟩:=x;simp only[shE,OD,ih,List.map_cons]
def rX(k:Nat):List (Nat × D)->List (Nat × D)
 | []=>[]
 | (t,d) :: r=>match Nat.ble k t with|true=>(t - k,d) :: rX k r|false=>rX k r
theorem JL(k:Nat)(env:List (Nat × D)):∀ K:List (Nat × D)->Prop,unE k env K=K (rX k env):=by
 induction env with
 | nil=>intro K;rfl
 | cons x env ih=>
  intro K;obtain⟨t,d⟩:=x;simp only[unE,rX]
  cases Nat.ble k t with
  | true=>simp only[OD,ih]
  | false=>simp only[ih]
theorem Ig(k:Nat)(env:List (Nat × D))(t:Nat):look (rX k env) t=look env (t+k):=by
 induction env with
 | nil=>rfl
 | cons x env ih=>
  obtain⟨q,d⟩:=x;simp only[rX]
  cases hb:Nat.ble k q with
  | true=>
   rw[Nat.ble_eq] at hb;have e:Nat.beq (q - k) t=Nat.beq q (t+k):=by
    by_cases h:q=t+k
    . have h1:q - k=t:=oA
      rw[h1,h];simp[Nat.beq_refl]
    . have h1:Nat.beq (q - k) t=false:=by
        cases hq:Nat.beq (q - k) t with
        | false=>rfl
        | true=>have:=dO hq;omega
      have h2:Nat.beq q (t+k)=false:=by
       cases hq:Nat.beq q (t+k) with
       | false=>rfl
       | true=>exact absurd (dO hq) h
      rw[h1,h2]
   simp only[look,e,ih]
  | false=>
   have hne:¬ k<=q:=fun h=>by rw[<- Nat.ble_eq] at h;rw[h] at hb;cases hb
   have h2:Nat.beq q (t+k)=false:=by
    cases hq:Nat.beq q (t+k) with
    | false=>rfl
    | true=>have:=dO hq;omega
   simp only[look,h2,ih]
theorem Mem.fr{sz:TypeId->Nat}{F F':Fr}(h:Mem sz w0 F V μ ω box row w)(hF:F'.V=F.V)(hc:∀ x ∈ F'.kc,x ∈ F.kc:=by exact fun _ h=>h):Mem sz w0 F' V μ ω box row w:=
 ⟨h.below,h.vok,by rw[hF];exact h.vle,by rw[hF];exact h.gu,h.bl,h.hbox,h.rl,h.hrow,h.uniq,h.new,h.eF,fun x hx=>h.away x (hc x hx)⟩
theorem Mem.PX{sz:TypeId->Nat}{F:Fr}(h:Mem sz w0 F V μ ω box row w){l:Nat}{o:Obj}(o':Obj)(hl:w.heap[l]? = some o)(hn:noC o)(hb:w0.heap.size<=l):Mem sz w0 F V μ ω box row (w.putObj l o') where
 below:=h.below.trans ⟨rfl,rfl,rfl,sI,fun k hk=>World.putObj_heap_other (by have:=h.below.size;omega)⟩
 vok:=⟨⟨h.vok.1.1,h.vok.gt fun g v hv=>World.putObj_heap_other fun e=>by
  obtain⟨o2,ho2,hc2⟩:=cells_of_cell (h.vok.2 _ _ hv);dsimp only at ho2;rw[e,hl] at ho2;cases ho2;cases o<;>simp_all[Obj.isCells]
  exact hn _ _ _ rfl⟩,fun p v hp=>by
  have hc:=h.vok.2 p v hp;refine (World.cell?_of_block (World.putObj_heap_other fun e=>?_)).trans hc;obtain⟨o2,ho2,hc2⟩:=cells_of_cell hc;rw[e,hl] at ho2;cases ho2;cases o<;>simp_all[Obj.isCells]
  exact hn _ _ _ rfl⟩
 vle:=h.vle
 gu:=h.gu
 bl:=h.bl
 hbox:=fun i g cs h1 h2=>by
  obtain⟨vs,t,a,b⟩:=h.hbox i g cs h1 h2;refine⟨vs,t,(World.putObj_heap_other fun e=>?_).trans a,b⟩;rw[e,hl] at a;exact hn _ _ _ (Option.some.inj a)
 rl:=h.rl
 hrow:=fun r v e xs h1 h2=>by
  obtain⟨vals,a,b⟩:=h.hrow r v e xs h1 h2;refine⟨vals,⟨a.1,?_⟩,b⟩;rcases a.2 with a|⟨g,cap,cur,e',fz,a1,a2,a3,a4⟩
  . exact .inl a
  . refine .inr ⟨g,cap,cur,e',fz,a1,a2,(World.putObj_heap_other fun e=>?_).trans a3,a4⟩
    rw[e,hl] at a3;exact hn _ _ _ (Option.some.inj a3)
 uniq:=h.uniq
 new:=fun l' g hg=>⟨(h.new l' g hg).1,by rw[World.putObj_size];exact (h.new l' g hg).2⟩
 eF:=h.eF
 away:=fun x hx=>by
  obtain⟨a,b,c,d,e⟩:=h.away x hx;refine⟨(World.putObj_heap_other fun e1=>?_).trans a,b,c,d,e⟩;rw[e1,hl] at a;exact e (Option.some.inj a ▸ hn)
def shut:List Nat->World->World
 | [],w=>w
 | D :: r,w=>shut r (w.putObj D (.deferred none))
theorem Mem.shut{sz:TypeId->Nat}{F:Fr}:∀ (ms:List Nat) (w:World),ms.Nodup->(∀ D ∈ ms,w.heap[D]? = some (.deferred (some []))/\w0.heap.size<=D)->Mem sz w0 F V μ ω box row w ->
    Mem sz w0 F V μ ω box row (Go.Vx.shut ms w)/\(∀ k,k ∉ ms->(Go.Vx.shut ms w).heap[k]? = w.heap[k]?)
 | [],w,_,_,h=>⟨h,fun _ _=>rfl⟩
 | D :: ms,w,hn,hd,h=>by
  obtain⟨h1,h2⟩:=List.nodup_cons.1 hn;have hD:=hd D sI;have hM:=h.PX (.deferred none) hD.1 (fun _ _ _ e=>by cases e) hD.2;obtain⟨a,b⟩:=Mem.shut ms _ h2 (fun E hE=>⟨(World.putObj_heap_other (r:=D) (k:=E) fun e=>h1 (e ▸ hE)).trans (hd E (by simp[hE])).1,(hd E (by simp[hE])).2⟩) hM;refine⟨a,fun k hk=>(b k fun q=>hk (by simp[q])).trans (World.putObj_heap_other fun e=>hk (by simp[e]))⟩
theorem Sim.shut{sz:TypeId->Nat}{F:Fr}{s:St}{a:Act}(hS:Sim sz w0 F V μ ω s a w):∃ ms:List Nat,a.defers=ms.map mkD++F.df/\ms.Nodup/\(∀ D ∈ ms,w.heap[D]? = some (.deferred (some []))) /\
    Sim sz w0 F V μ ω s { a with defers:=F.df } (Go.Vx.shut ms w):=by
 obtain⟨ms,h1,h2,h3⟩:=hS.defers.marks;obtain⟨hM,ho⟩:=Mem.shut ms w h2 (fun D hD=>⟨(h3 D hD).1,(h3 D hD).2.1⟩) hS.mem;refine⟨ms,h1,h2,fun D hD=>(h3 D hD).1,hS.tmps,⟨⟨[],rfl,List.nodup_nil,sI⟩,fun x hx=>⟨?_,(hS.defers.kept x hx).2⟩⟩,hS.env,hM⟩;rw[ho x.1 fun hD=>(h3 _ hD).2.2 x hx rfl];exact (hS.defers.kept x hx).1
theorem tZ{fn:Func}{tmps:Array Value}{R:Ending->World->Prop}{u:FrameMode}(hu:u ≠ .run):∀ (ms:List Nat) (w:World),ms.Nodup->(∀ D ∈ ms,w.heap[D]? = some (.deferred (some []))) ->
    LeavesIn Fence.wide 0 P fn tmps R [] u (shut ms w)->LeavesInM Fence.wide 0 P fn tmps R (ms.map mkD) u w
 | [],w,_,_,h=>h
 | D :: ms,w,hn,hd,h=>by
  obtain⟨h1,h2⟩:=List.nodup_cons.1 hn;exact⟨hu,.inl ⟨D,_,rfl,run_takeDeferred (hd D sI),tZ hu ms _ h2 (fun E hE=>(World.putObj_heap_other (r:=D) (k:=E) fun e=>h1 (e ▸ hE)).trans (hd E (by simp[hE]))) h⟩⟩
theorem uZ{f:FuncId}{fn:Func}{c:Code}{args:Array Value}{w:World}{R:Ending->World->Prop}(hf:P.funcs[f]? = some fn)(hb:fn.body=some c)
    (h:c.wp P (bodyPostM Fence.wide 0 P fn R) { tmps:=args++Array.replicate (fn.ntmps - args.size) undef,defers:=[] } w):Calls P f args w R:=
 callsIn_wide.1 (callsIn_of_wp_marks (F:=Fence.wide) (n:=0) hf hb trivial (wpIn_wide.2 h))
def kE(ms:List Nat):List (Nat × Obj):=ms.map fun D=>(D,.deferred (some []))
theorem gY.behind{F:Fr}{ds:List Deferred}(h:gY w0 F ds w):∃ ms,(∀ w',(∀ x ∈ F.kp++kE ms,w'.heap[x.1]? = some x.2)->gY w0 F ds w')/\(∀ F':Fr,F'.df=[]->F'.kp=F.kp++kE ms->gY w0 F' [] w):=by
 obtain⟨ms,h1,h2,h3⟩:=h.marks;refine⟨ms,fun w' hw=>⟨⟨ms,h1,h2,fun D hD=>⟨hw (D,_) (List.mem_append_right _ (List.mem_map.2 ⟨D,hD,rfl⟩)),(h3 D hD).2⟩⟩,fun x hx=>⟨hw x (List.mem_append_left _ hx),(h.kept x hx).2⟩⟩,fun F' e1 e2=>⟨⟨[],by rw[e1];rfl,List.nodup_nil,sI⟩,fun x hx=>?_⟩⟩;rw[e2] at hx;rcases bQ.1 hx with hx|hx
 . exact h.kept x hx
 . obtain⟨D,hD,rfl⟩:=List.mem_map.1 hx
   exact⟨(h3 D hD).1,(fun _ _ _ e=>by cases e),(h3 D hD).2.1⟩
theorem Nw(hT:TOk P T)(hS:Sim (ah T) w0 V0 V μ ω s a w){f:FuncId}{ds:List D}{vs:List Value}{K:D->St->Prop}(hv:iU (ah T) V μ ω vs ds)(h:KU P T s f ds K) :
    (∀ args w,(callFunc f args).run P w = .ok (.enter f args) w)/\Calls P f vs.toArray w fun e w'=>∃ v d s' V' μ' ω',e = .returned v/\K d s'/\RS (ah T) V' μ' ω' v d/\Sim (ah T) w0 V0 V' μ' ω' s' a w':=by
 obtain⟨fn,c,hf,hb,hcall,h⟩:=h;refine⟨hcall,uZ hf hb ?_⟩;obtain⟨hn,h⟩:=ou.1 h;obtain⟨env,box,row,n⟩:=s;simp only[JK,oz] at h;obtain⟨ms,back,start⟩:=hS.defers.behind;have hS':Sim (ah T) w0 ⟨V0.V,fun t=>fB V0 n a (t - fn.ntmps),[],V0.kp++kE ms,V0.kc⟩ V μ ω ⟨fO 0 ds++env.map (fun x=>(x.1+fn.ntmps,x.2)),box,row,fn.ntmps⟩
     { tmps:=vs.toArray++Array.replicate (fn.ntmps - vs.toArray.size) undef,defers:=[] } w:=by
  refine⟨by have:=hv.1;simp;omega,start _ rfl rfl,fun t=>?_,hS.mem.fr rfl⟩;show RS _ _ _ _ (fB _ fn.ntmps _ t) (look (fO 0 ds++env.map (fun x=>(x.1+fn.ntmps,x.2))) t);unfold fB;split
  . rename_i htn
    show RS _ _ _ _ ((vs.toArray++Array.replicate (fn.ntmps - vs.toArray.size) undef).getD t undef) _;by_cases ht:t<ds.length
    . rw[GH _ _ _ (Dy ds 0 t oA oA),yg,if_pos (Nat.zero_le _),Nat.sub_zero]
      have hta:t<vs.length:=by rw[hv.1];exact ht
      have hd:=aC ht;have ha:=aC hta;have:=hv.2 t _ _ ha hd;have e1:(vs.toArray++Array.replicate (fn.ntmps - vs.toArray.size) undef).getD t undef=vs[t]:=by
       have hv1:=hv.1;simp[Array.getD,hta];omega
      rw[e1];simp only[List.getD,hd,Option.getD_some];exact this
    . rw[xZ _ _ _ (fun x hx=>by have:=vG ds 0 x hx;omega),GN _ _ _ htn]
      exact .imm _ _ (.u _)
  . rename_i htn
    rw[xZ _ _ _ (fun x hx=>by have:=vG ds 0 x hx;omega)];have e2:t=(t - fn.ntmps)+fn.ntmps:=oA;rw[e2,Hu,<- e2];exact hS.env (t - fn.ntmps)
 refine wp_mono (h.run w0 _ V μ ω _ w hS') ?_;rintro e a' w' ⟨s',V',μ',ω',hq,hS2⟩;have fin:rV T fn n K s'->LeavesInM Fence.wide 0 P fn a'.tmps (fun e w'=>∃ v d s' V' μ' ω',e = .returned v/\K d s'/\RS (ah T) V' μ' ω' v d/\Sim (ah T) w0 V0 V' μ' ω' s' a w') a'.defers .returning w':=by
  intro hr;obtain⟨ms',e1,e2,e3,hS2⟩:=hS2.shut;rw[e1];have e4:ms'.map mkD++[]=ms'.map mkD:=List.append_nil _;show LeavesInM _ _ _ _ _ _ (ms'.map mkD++[]) _ _;rw[e4];refine tZ sI ms' w' e2 e3 ?_;obtain⟨env',eU,row',m⟩:=s';obtain⟨hm,hr⟩:=jJ hr;obtain⟨us,ds',hk,hv',hrun⟩:=sW hT hS2 _ _ hr;refine⟨if h:us.toArray.size=1 then us.toArray[0] else .tuple us.toArray,?_,?_⟩
  . rw[yc,Array.mapM_eq_mapM_toList]
    dsimp only at hrun;simp only[Sem.run_bind,Sem.run_map,hrun,Result.andThen_ok,Sem.run_pure]
  . rw[JL] at hk
    refine⟨_,_,_,V',μ',ω',rfl,hk,pz hv',hS.tmps,back _ fun x hx=>(hS2.defers.kept x hx).1,fun t=>?_,hS2.mem.fr rfl⟩;have:=hS2.env (t+fn.ntmps);unfold fB at this;rw[if_neg (by show ¬ t+fn.ntmps<m;omega)] at this;show RS _ _ _ _ (fB V0 n a t) (look (rX fn.ntmps env') t);rw[Ig];have e3:t+fn.ntmps - fn.ntmps=t:=oA;simp only[e3] at this;exact this
 cases e<;>simp only[Um] at hq
 . exact fin hq
 . exact fin hq
theorem RI.ground{sz:TypeId->Nat}{V V':Vw}{v:Value}{d:D}(h:RI sz V v d)(hg:d.ground=true):RI sz V' v d:=by
 have h2:=Am (sz:=sz) (V:=V') hg;rwa [<- h.uniq (Am (sz:=sz) (V:=V') hg) hg] at h2
theorem RS.wz{sz:TypeId->Nat}{V V':Vw}{μ:List Nat}{ω:List Value}{v:Value}{d:D}(h:RS sz V μ ω v d)(hg:d.wz=true):RS sz V' μ ω v d:=by
 cases h with
 | imm _ _ hi=>cases d<;>first|exact .imm _ _ (hi.ground hg)|cases hi
 | own r n A N c h1 h2=>exact .own r n A N c h1 h2
 | op=>cases hg
 | bp=>cases hg
 | osl=>cases hg
 | tie=>cases hg
 | agg=>cases hg
 | tup=>cases hg
 | fnh=>cases hg
theorem Ny:∀ {l:List D},Ep l=true->∀ (j:Nat) d,l[j]? = some d->d.wz=true
 | [],_,j,d,h=>by simp at h
 | c :: l,hf,j,d,h=>by
  simp only[Ep,Bool.and_eq_true] at hf
  cases j with
  | zero=>simp at h;subst h;exact hf.1
  | succ j=>exact Ny hf.2 j d (by simpa using h)
theorem Nz:∀ {l:List D},Es l=true->∀ (j:Nat) d,l[j]? = some d->d.vS=true
 | [],_,j,d,h=>by simp at h
 | c :: l,hf,j,d,h=>by
  simp only[Es,Bool.and_eq_true] at hf
  cases j with
  | zero=>simp at h;subst h;exact hf.1
  | succ j=>exact Nz hf.2 j d (by simpa using h)
theorem RS.vS{sz:TypeId->Nat}{V V':Vw}{μ:List Nat}{ω:List Value}{v:Value}{d:D}(h:RS sz V μ ω v d)(hg:d.vS=true):RS sz V' μ ω v d:=by
 by_cases hd:∃ cs,d = .agg cs
 . obtain⟨cs,rfl⟩:=hd
   obtain⟨vs,rfl,hs,ho,hR⟩:=h.jU;exact .agg _ vs hs ho fun j v d h1 h2=>(hR j v d h1 h2).wz (Ny hg j d h2)
 . refine h.wz ?_
   cases d<;>first|exact hg|exact absurd ⟨_,rfl⟩ hd
theorem RS.vT{sz:TypeId->Nat}{V V':Vw}{μ:List Nat}{ω:List Value}{v:Value}{d:D}(h:RS sz V μ ω v d)(hg:d.vT=true):RS sz V' μ ω v d:=by
 by_cases hd:∃ cs,d = .tup cs
 . obtain⟨cs,rfl⟩:=hd
   obtain⟨vs,rfl,hs,hR⟩:=h.xk;exact .tup _ vs hs fun j v d h1 h2=>(hR j v d h1 h2).vS (Nz hg j d h2)
 . refine h.vS ?_
   cases d<;>first|exact hg|exact absurd ⟨_,rfl⟩ hd
theorem Ih:∀ {rows:Rows},iy rows->∀ (r:Nat) (e:TypeId) (xs:List (List D)),rows[r]? = some (some (e,xs))->∀ x ∈ xs,grounds x=true
 | [],_,r,e,xs,h=>by simp at h
 | none :: l,hf,r,e,xs,h=>by
  cases r with
  | zero=>simp at h
  | succ r=>exact Ih (rows:=l) hf r e xs (by simpa using h)
 | some (e',xs') :: l,hf,r,e,xs,h=>by
  cases r with
  | zero=>simp at h;obtain⟨_,rfl⟩:=h;exact hf.1
  | succ r=>exact Ih (rows:=l) hf.2 r e xs (by simpa using h)
theorem Res.less{sz:TypeId->Nat}{V V':Vw}{ω0:List Value}{row0:Rows}(hV:VOk V w)(h:Res sz (fD w) V' ω0 row0 w w')(hg:iy row0) :
    Res sz V (fun p=>if p.block<w.heap.size then V p else V' p) ω0 row0 w w':=by
 have hin:∀ p u,V p=some u->p.block<w.heap.size:=fun p u hp=>by
  have hc:=hV.2 p u hp;apply Classical.byContradiction;intro hn;have:w.heap[p.block]? = none:=by simp;omega
  simp[World.cell?,this] at hc
 refine⟨h.below,fun p u hp=>by simp only[if_pos (hin p u hp)];exact hp,⟨⟨fun p u hp=>(by have h1:=hV.1.1 p u hp;simp only[if_pos (hin p u h1)];exact h1),h.vok.1.2⟩,fun p u hp=>?_⟩,fun p hp=>by simp only[if_pos hp],h.rl,fun r v e xs h1 h2=>?_,h.uniq,fun p u r v x hp h1 h2=>?_⟩
 . by_cases hb:p.block<w.heap.size
   . simp only[if_pos hb] at hp
     exact (show Ext w w' from h.below).cell (hV.2 p u hp)
   . simp only[if_neg hb] at hp
     exact h.vok.2 p u hp
 . obtain⟨vals,a,b,c,d⟩:=h.rows r v e xs h1 h2
   refine⟨vals,a,b,c,fun i rw_ j d' e1 e2=>?_⟩;obtain⟨u,hu,hr⟩:=d i rw_ j d' e1 e2;exact⟨u,hu,hr.ground (o7 (Ih hg r e xs h2 rw_ (aU e1)) j d' e2)⟩
 . by_cases hb:p.block<w.heap.size
   . intro he
     obtain⟨e,xs⟩:=x;obtain⟨vals,hown,_⟩:=h.rows r v e xs h1 h2;have:=(hown.lt _ he).1;omega
   . simp only[if_neg hb] at hp
     exact h.eF p u r v x hp h1 h2
theorem MB{s:St}(hS:Sim (ah T) w0 V0 V μ ω s a w){dst:Option Nat}{type:TypeId}{pos:String}{after:Array Edge}{guard:Option (Nat × Bool)}{f:FuncId}{args:Array Operand}{argTypes:Array TypeId}{K:D->St->Prop}
    (h:Et P T s f argTypes.toList (s.gets args.toList) K) :
    (execOp a.eval ⟨dst,.call ⟨.value (.func f),args,argTypes⟩,type,pos,after,guard⟩).run P w = .ok (.enter f (args.map a.eval)) w /\
    Calls P f (args.map a.eval) w fun e w'=>∃ v d s' V' ω',e = .returned v/\K d s'/\RS (ah T) V' μ ω' v d/\Sim (ah T) w0 V0 V' μ ω' s' a w'/\VLe V V'/\Pre ω ω'/\Ext w w':=by
 obtain⟨es,⟨R,hf,h⟩,hes,hri⟩:=xY hS.mem argTypes.toList (s.gets args.toList) (args.toList.map a.eval) _ (by simp[St.gets]) (hS.gets args.toList).2 h;refine⟨?_,?_⟩
 . simp only[execOp,resolve,Act.eval,Deferred.ofValue,invoke,Sem.run_bind,Sem.run_pure,Result.andThen_ok]
   rw[show (#[]++args.map a.eval)++#[]=args.map a.eval by simp,hf.call]
 have eH:=hf.run (fD w) w (args.map a.eval) (.heap hS.mem.vok.gl (Ext.refl w)) (by simp[hes,St.gets]) (fun j v d h1 h2=>hri j v d (by simpa using h1) h2);refine eH.mono ?_;rintro e w'' ⟨V',ω0,row0,v,d,rfl,hR,hrs,hres⟩;obtain⟨hg,hk⟩:=h d row0 hR;obtain⟨hd,hk⟩:=jv.1 hk;have hres2:=hres.less hS.mem.vok hg;have BZ:=hrs.vT (V':=fun p=>if p.block<w.heap.size then V p else V' p) hd;obtain⟨env,box,row,n⟩:=s;have hM:=hS.mem.call hres2;have hl:row.length=ω.length:=hS.mem.rl.symm;dsimp only at hk;rw[hl] at hk;obtain⟨d',hk,hr⟩:=sJ (μ:=μ) (ω':=ω++ω0) (VLe.refl _) (fun r u hu=>by rw[List.getElem?_append_right oA,Nat.add_sub_cancel];exact hu) BZ hk;rw[oz] at hk;exact⟨v,d',_,_,ω++ω0,rfl,hk,hr,⟨hS.tmps,hS.defers.ext hres2.below,fun t=>(hS.env t).mono hres2.le (.refl μ) (.append _ _),hM⟩,hres2.le,.append _ _,hres2.below⟩
theorem Ii(hT:TOk P T)(hS:Sim (ah T) w0 V0 V μ ω s a w){o:Oper}{K:D->St->Prop}(h:vop P T s o K):Vok P T w0 V0 (nH s o) V μ ω a w o K:=by
 obtain⟨dst,op,type,pos,after,guard⟩:=o;cases op
 case alloc t=>
  simp only[vop,iQ] at h;split at h
  case h_2=>exact h.elim
  rename_i ti hti;rw[jv] at h;obtain⟨hnz,h⟩:=h;obtain⟨i,z,h1,h2,h3,h4,h5,h6,h7⟩:=(hT _ _ hti).info;obtain⟨d,s',μ',hk,hr,hS',hpre⟩:=MJ (t:=t) hS (gJ.zero h5 h7).vZ (Xc hnz) h;refine .value (v:=.pointer (some ⟨w.heap.size,0,none⟩)) (w':=w.alloc (.cells z.cells t)) ?_ hk hr hS' (.ext (fun _ _ h=>h) hpre (.refl _) (Ext.alloc _ _));simp[execOp,Instr.alloc,zeroValue,typeInfo,h1,h4,newVar,newRow]
 case box t x=>
  simp only[vop,iQ] at h;obtain⟨cs,hag,h⟩:=CX (hS.get x) h;rw[jv] at h;obtain⟨hnz,h⟩:=h;obtain⟨d,s',μ',hk,hr,hS',hpre⟩:=MJ (t:=t) hS hag (E5 hnz t) h;refine .value (v:=.pointer (some ⟨w.heap.size,0,none⟩)) (w':=w.alloc (.cells (a.eval x).cells t)) ?_ hk hr hS' (.ext (fun _ _ h=>h) hpre (.refl _) (Ext.alloc _ _));simp[execOp,Instr.box,newVar,newRow]
 case store t x y=>
  simp only[vop] at h;obtain⟨ds,hag,h⟩:=CX (hS.get y) h;split at h
  . exact h.elim
  rename_i ti hti;obtain⟨hsz,h⟩:=jJ h;have hrun:∀ p w',a.eval x = .pointer (some p)->(storeCells p (a.eval y).cells.toList).run P w = .ok () w'->(execOp a.eval ⟨dst,.store t x y,type,pos,after,guard⟩).run P w = .ok .skip w':=by
   intro p w' hp hst;have hz:¬ (a.eval y).cells.size ≠ ti.size:=by rw[hag.size,hsz];simp
   simp[execOp,Instr.storeAt,hp,Instr.sureAddr,storeVar,(hT _ _ hti).size,hag.size,<- hsz,hst]
  split at h
  . rename_i i off hx
    obtain⟨env,box,row,n⟩:=s;dsimp only at h;split at h
    case h_2=>exact h.elim
    rename_i cs hcs;simp only[ou,iQ,jv] at h;obtain⟨hle,hnb,h⟩:=h;obtain⟨_,h⟩:=gW _ _ _ _ h;have hxv:=hS.get x;rw[hx] at hxv;obtain⟨p,w',hp,hst,hS',hstep⟩:=U7 (P:=P) hS hxv hag hcs hle hnb;exact .skip (hrun p w' hp hst) h hS' (by simp only[nH,hx,Bd];exact hstep)
  . rename_i r e j off hx
    have hxv:=hS.get x;rw[hx] at hxv;split at h
    case h_2=>exact h.elim
    rename_i e' xs0 hr0;obtain⟨he,h20⟩:=jJ h;subst he;have h21:=Yy h20;obtain⟨V1,ds1,s1,h22,hv1,hS1,hle1⟩:=lW 8 hS (vs:=(a.eval y).cells.toList) ⟨by rw[Array.length_toList];exact hag.size,fun j v d h1 h2=>hag.rel j v d (by simpa using h1) h2⟩ h21;obtain⟨env,box,row,n⟩:=s1;obtain⟨ds2,h23,hds⟩:=zG ds1 off _ _ hv1.1 hag.one hv1.2 h22;split at h23
    case h_2=>exact h23.elim
    rename_i e2 xs hr;obtain⟨he,h24⟩:=jJ h23;subst he;obtain⟨rw_,hj,hle,xs',rfl,h1⟩:=h24;obtain⟨_,hk⟩:=gW _ _ _ _ h1;have acp:RS (ah T) V1 μ ω (a.eval x) (.op r e j off):=by
     obtain⟨g,N,c,h5,h6⟩:=hxv.op_;rw[h6];exact .op r e j off g N c h5
    obtain⟨p,w',hp,hst,hS',hstep⟩:=Gz (P:=P) hS1 acp hds hr hj hle;exact .skip (hrun p w' hp hst) hk hS' (by simp only[nH,hx,Bd];exact⟨hle1,hstep.pre,hstep.row,hstep.foot⟩)
  . exact h.elim
 case buildSlice t len ps=>
  simp only[vop] at h;split at h
  case h_3=>exact h.elim
  case h_2=>
   rename_i e zz hti;obtain⟨⟨ti,hte,hs1,hby⟩,h⟩:=vF h;obtain⟨hseq,h⟩:=IJ h;obtain⟨hlen,h⟩:=jJ h;rw[ou] at h;obtain⟨hbig,h⟩:=h;obtain⟨t1,h⟩:=h;obtain⟨V1,ds1,s1,h,hv1,hS1,hle1⟩:=lW 8 hS (hS.gets _) h;obtain⟨env,box,row,n⟩:=s1;dsimp only at h;obtain⟨rows,h,h1,h2,h3⟩:=GV ds1 0 _ _ hv1.1 hv1.2 h;have hu:P.underlying t=some (.slice e):=(hT _ _ hti).kind;obtain⟨i,z,g1,g2,g3,g4,g5,g6,g7⟩:=(hT _ _ hte).info;have hsz:=jI hte;have hl:len=ps.toList.length:=by simpa using hlen
   have KW:(ps.map fun x=>(x.1,a.eval x.2)).toList=(List.range' 0 (ps.toList.map fun x=>a.eval x.2).length).zip (ps.toList.map fun x=>a.eval x.2):=by
    have hq:ps.toList.map (·.1)=List.range' 0 ps.toList.length:=by simpa using hseq
    rw[Array.toList_map,bV,<- hq];apply List.ext_getElem?;intro j;simp only[aN,List.zip_map']
   obtain⟨us,f1,f2,_,f4⟩:=Ie (size:=ah T e) (len:=len) (ps.toList.map fun x=>a.eval x.2) 0 ((Array.range (len*ah T e)).map (fun k=>(if len*ah T e=0 then #[] else z.cells)[k % (if len*ah T e=0 then #[] else z.cells).size]!)) sI (by simp[hl]) (by simpa using h2);have hrr:=Ns (T:=T) (V:=V1) (e:=e) (us:=us) (vs:=ps.toList.map fun x=>a.eval x.2) (rows:=rows) rfl (by rw[f2,hl];simp) (by simpa using h1) (by simpa using h2) f4 (by simpa using h3);have hrl:rows.length=len:=by rw[h1,hl];simp
   have hm:len<=maxLen:=by
    have:len*1<=len*ah T e:=Nat.mul_le_mul_left _ (by rw[hsz];exact hs1);unfold maxLen;omega
   have hown:=World.ownsRow_lit (e:=e) (size:=ah T e) w us len (base:=w0.heap.size) hS1.mem.below.size hm f2;simp only[kY,kW] at h;have hM:=hS1.mem.newRow (w':=w.alloc (.cells us e)) (e:=e) (xs:=rows) (v:=.slice (some ⟨w.heap.size,0,none⟩) len len) (Ext.alloc _ _) (by rw[hrl];exact hown) hrr (fun g hg=>by simp[Value.ownBlock] at hg;omega);have hlr:row.length=ω.length:=hS1.mem.rl.symm;refine .value (v:=.slice (some ⟨w.heap.size,0,none⟩) len len) (w':=w.alloc (.cells us e)) (V':=V1) (μ':=μ) (ω':=ω++[.slice (some ⟨w.heap.size,0,none⟩) len len]) ?_ (h w.heap.size) (.imm _ _ (.rsl _ _ _)) ⟨hS1.tmps,hS1.defers.ext (Ext.alloc _ _),fun t=>?_,hM⟩ (.ext hle1 (.refl _) (.append _ _) (Ext.alloc _ _));rotate_left
   . show RS _ _ _ _ _ (look ((t1,_) :: env) t)
     unfold look;split
     . exact .tie _ _ _ _ _ (by rw[hlr,List.getElem?_append_right (Nat.le_refl _),Nat.sub_self];rfl)
     . exact (hS1.env t).mono (.refl V1) (.refl μ) (.append _ _)
   have hzs:(sizeOf e).run P w = .ok (ah T e) w:=by rw[(hT _ _ hte).size,hsz]
   have hz:(zeroValue e).run P w = .ok z w:=by simp[zeroValue,typeInfo,g1,g4]
   have hb:=run_buildSlice (t:=t) (parts:=ps.map fun x=>(x.1,a.eval x.2)) hu hzs hz hbig (by rw[KW];exact f1);simp[execOp,hb]
  rename_i e zz hti;obtain⟨⟨ti,hte,hs1,hby⟩,h⟩:=vF h;obtain⟨hseq,h⟩:=IJ h;obtain⟨hlen,h⟩:=jJ h;rw[ou] at h;obtain⟨hbig,h⟩:=h;obtain⟨V1,ds1,s1,h,hv1,hS1,hle1⟩:=lW 8 hS (hS.gets _) h;obtain⟨env,box,row,n⟩:=s1;dsimp only at h;obtain⟨rows,h,h1,h2,h3⟩:=GV ds1 0 _ _ hv1.1 hv1.2 h;have hu:P.underlying t=some (.slice e):=(hT _ _ hti).kind;obtain⟨i,z,g1,g2,g3,g4,g5,g6,g7⟩:=(hT _ _ hte).info;have hsz:=jI hte;have hl:len=ps.toList.length:=by simpa using hlen
  have KW:(ps.map fun x=>(x.1,a.eval x.2)).toList=(List.range' 0 (ps.toList.map fun x=>a.eval x.2).length).zip (ps.toList.map fun x=>a.eval x.2):=by
   have hq:ps.toList.map (·.1)=List.range' 0 ps.toList.length:=by simpa using hseq
   rw[Array.toList_map,bV,<- hq];apply List.ext_getElem?;intro j;simp only[aN,List.zip_map']
  obtain⟨us,f1,f2,_,f4⟩:=Ie (size:=ah T e) (len:=len) (ps.toList.map fun x=>a.eval x.2) 0 ((Array.range (len*ah T e)).map (fun k=>(if len*ah T e=0 then #[] else z.cells)[k % (if len*ah T e=0 then #[] else z.cells).size]!)) sI (by simp[hl]) (by simpa using h2);have hrr:=Ns (T:=T) (V:=V1) (e:=e) (us:=us) (vs:=ps.toList.map fun x=>a.eval x.2) (rows:=rows) rfl (by rw[f2,hl];simp) (by simpa using h1) (by simpa using h2) f4 (by simpa using h3);have hrl:rows.length=len:=by rw[h1,hl];simp
  have hm:len<=maxLen:=by
   have:len*1<=len*ah T e:=Nat.mul_le_mul_left _ (by rw[hsz];exact hs1);unfold maxLen;omega
  have hown:=World.ownsRow_lit (e:=e) (size:=ah T e) w us len (base:=w0.heap.size) hS1.mem.below.size hm f2;obtain⟨d,s',ω',hk,hr',hS',hpre⟩:=GU (e:=e) (xs:=rows) (vals:=us.toList) (m:=len) (c:=len) (A:=some ⟨w.heap.size,0,none⟩) (v:=.slice (some ⟨w.heap.size,0,none⟩) len len) (w':=w.alloc (.cells us e)) hS1 (Ext.alloc _ _) (by rw[hrl]) (by rw[hrl];exact hown) hrr
   (fun g hg=>by simp[Value.ownBlock] at hg;omega) hrl.symm h
  refine .value (v:=.slice (some ⟨w.heap.size,0,none⟩) len len) (w':=w.alloc (.cells us e)) ?_ hk hr' hS' (.ext hle1 (.refl _) hpre (Ext.alloc _ _));have hzs:(sizeOf e).run P w = .ok (ah T e) w:=by rw[(hT _ _ hte).size,hsz]
  have hz:(zeroValue e).run P w = .ok z w:=by simp[zeroValue,typeInfo,g1,g4]
  have hb:=run_buildSlice (t:=t) (parts:=ps.map fun x=>(x.1,a.eval x.2)) hu hzs hz hbig (by rw[KW];exact f1);simp[execOp,hb]
 case makeSlice t x y=>
  simp only[vop] at h;split at h
  case h_2=>exact h.elim
  rename_i k1 l0 k2 c0 _ _ e zz e1 e2 hti;split at h
  case h_2=>exact h.elim
  rename_i ti hte;simp only[ou] at h;obtain⟨hs1,hby,l,c,rfl,rfl,hlc,hc,h⟩:=h;have hx:=hS.get x;have hy:=hS.get y;rw[e1] at hx;rw[e2] at hy;have hu:=(hT _ _ hti).kind;obtain⟨i,z,g1,g2,g3,g4,g5,g6,g7⟩:=(hT _ _ hte).info;have hsz:=jI hte;have haz:=gJ.zero (sz:=ah T) (V:=V) (μ:=μ) (ω:=ω) g5 g7;obtain⟨zd,h,hzd⟩:=zG (T:=T) (e:=e) ti.zero 0 z.cells.toList _ (by rw[Array.length_toList];exact haz.size) g7 (fun j v d h1 h2=>haz.rel j v d (by simpa using h1) h2) h;obtain⟨zs,rfl,h⟩:=h;have hzl:z.cells.toList.length=ah T e:=by rw[hsz,<- g6];simp
  have hm:c<=maxLen:=by unfold maxLen;omega
  have hbytes:(i.bytes:Int)*(c:Int)<=281474976710656:=by
   have h1:i.bytes*c<=65536*2147483648:=Nat.mul_le_mul (by rw[g3];exact hby) hc;have h2:((i.bytes*c:Nat):Int)=(i.bytes:Int)*(c:Int):=Int.natCast_mul _ _;omega
  have hrun:=run_make (P:=P) w t e i z hu g1 g4 k1 k2 (l:Int) (c:Int) oA oA hbytes oA;simp only[Int.toNat_natCast] at hrun;have ac7:l*ah T e<=c*ah T e:=Nat.mul_le_mul_right _ hlc;have hcell:∀ k,k<c*ah T e->(madeCells z.cells (c*i.size))[k]? = z.cells.toList[k % ah T e]?:=by
   intro k hk;have hz0:0<ah T e:=oA;have hkm:k % ah T e<z.cells.size:=by rw[g6,<- hsz];exact Nat.mod_lt _ hz0
   have hzz:z.cells.size=ah T e:=by rw[g6,hsz]
   rw[Array.getElem?_toList];simp only[madeCells,Array.getElem?_map,Array.getElem?_range];rw[if_pos (by rw[g2,<- hsz];exact hk)];simp only[Option.map_some,hzz];rw[Array.getElem?_eq_getElem hkm,getElem!_pos z.cells _ hkm]
  have TS:(madeCells z.cells (c*i.size)).size=c*ah T e:=by rw[size_madeCells,g2,hsz]
  have hown:(w.alloc (.cells (madeCells z.cells (c*i.size)) e)).ownsRow w0.heap.size e (ah T e) (.slice (some ⟨w.heap.size,0,none⟩) l c) l ((madeCells z.cells (c*i.size)).toList.take (l*ah T e)):=
   ⟨by rw[List.length_take,Array.length_toList,TS];omega,.inr ⟨w.heap.size,c,_,rfl,hS.mem.below.size,heap_alloc_new w _,hlc,hm,TS,rfl⟩⟩
  have hrr:fU (ah T) V e ((madeCells z.cells (c*i.size)).toList.take (l*ah T e)) (List.replicate l zd):=by
   have Uo:zd.length=ah T e:=by rw[<- hzd.size];exact hzl
   refine⟨fun u hu'=>?_,fun q rw_ hq=>?_,fun q rw_ j d hq hj=>?_⟩
   . obtain⟨k,hk⟩:=List.getElem?_of_mem hu'
     have hkl:k<l*ah T e:=by
      have:=(aK.1 hk).1;rw[List.length_take] at this;omega
     rw[List.getElem?_take_of_lt hkl,Array.getElem?_toList,hcell k oA] at hk;exact g7 u (aU hk)
   . rw[List.getElem?_replicate] at hq
     split at hq
     . cases hq;exact Uo
     . cases hq
   . rw[List.getElem?_replicate] at hq
     split at hq
     case isFalse=>cases hq
     rename_i hql;cases hq;have hjl:j<ah T e:=by rw[<- Uo];exact (aK.1 hj).1
     have hlt:q*ah T e+j<l*ah T e:=by
      have:(q+1)*ah T e<=l*ah T e:=Nat.mul_le_mul_right _ hql;rw[Nat.add_mul] at this;omega
     have hjz:j<z.cells.toList.length:=oA;refine⟨z.cells.toList[j],?_,hzd.rel j _ d (aC hjz) hj⟩;rw[List.getElem?_take_of_lt hlt,Array.getElem?_toList,hcell _ oA,show (q*ah T e+j) % ah T e=j by rw[Nat.mul_comm,Nat.mul_add_mod];exact Nat.mod_eq_of_lt hjl];exact aC hjz
  have hrl:(List.replicate l zd).length=l:=List.length_replicate;obtain⟨d,s',ω',hk,hr',hS',hpre⟩:=GU (e:=e) (xs:=List.replicate l zd) (m:=l) (c:=c) (A:=some ⟨w.heap.size,0,none⟩) (v:=.slice (some ⟨w.heap.size,0,none⟩) l c) hS (Ext.alloc _ _) (by rw[hrl]) (by rw[hrl];exact hown) hrr
   (fun g hg=>by simp[Value.ownBlock] at hg;omega) hrl.symm h
  refine .value (v:=.slice (some ⟨w.heap.size,0,none⟩) l c) (w':=w.alloc (.cells (madeCells z.cells (c*i.size)) e)) ?_ hk hr' hS' (.ext (fun _ _ h=>h) (.refl _) hpre (Ext.alloc _ _));simp[execOp,hx.fQ,hy.fQ,hrun]
 case convert t b x=>
  simp only[vop] at h;split at h
  case h_3=>exact .ng hT hS h
  case h_2=>
   rename_i hx h1 h2;obtain⟨he8,hsz,hlen,h⟩:=Jm hT h;have hnT:=Yz h;rename_i l _ _ _ _ _ e _ _;have hRx:=hS.get x;rw[hx] at hRx;have hrun:=run_bytes_of_string (P:=P) w t b e (bK l) (hT _ _ h1).kind (hT _ _ h2).kind he8;rw[mZ] at hrun;have hge:=grownCap_ge w l.length 0 e;have hle:=grownCap_le_maxLen w l.length 0 e (by unfold maxLen;omega);generalize grownCap w l.length 0 e=cap at hrun hge hle;have hsz1:ah T (Nat.add e BIG)=1:=PO hnT.1 (by simp[BIG]);have hcs:(bytesRow (bK l) cap).size=cap:=by have hb:=mZ l;simp[bytesRow];omega
   have hown:iD (w.drew.alloc (.cells (bytesRow (bK l) cap) e ((bytesRow (bK l) cap).size,(bytesRow (bK l) cap).size+1))) w0.heap.size (Nat.add e BIG) (ah T (Nat.add e BIG)) (.slice (some ⟨w.heap.size,0,none⟩) l.length cap) l.length (Lib.strCells (bK l)):=by
    rw[hsz1];refine⟨by simp[Lib.strCells,bK],.inr ⟨w.heap.size,cap,bytesRow (bK l) cap,e,((bytesRow (bK l) cap).size,(bytesRow (bK l) cap).size+1),rfl,hS.mem.below.size,by show (w.heap.push _)[w.heap.size]? = _;simp,hge,hle,by rw[hcs];omega,?_,.inr ⟨by simp[BIG],Nat.le_refl _⟩⟩⟩;simp[bytesRow,Lib.strCells,bK]
   have hext:Ext w (w.drew.alloc (.cells (bytesRow (bK l) cap) e ((bytesRow (bK l) cap).size,(bytesRow (bK l) cap).size+1))):=(Below.refl w.heap.size w).drew.alloc (Nat.le_refl _) _;obtain⟨d,s',ω',hk,hr',hS',hpre⟩:=Me (e:=Nat.add e BIG) (xs:=l.map bT) (vals:=Lib.strCells (bK l)) (m:=l.length) (c:=cap) (A:=some ⟨w.heap.size,0,none⟩) (v:=.slice (some ⟨w.heap.size,0,none⟩) l.length cap) hS hext sI (by rw[bV];exact hown) (PW V l hsz1)
    (fun g hg=>by simp[Value.ownBlock] at hg;omega) sI hnT.2
   refine .value (v:=.slice (some ⟨w.heap.size,0,none⟩) l.length cap) ?_ hk hr' hS' (.ext (fun _ _ h=>h) (.refl _) hpre hext);simp only[execOp,hRx.nP,Sem.run_bind,hrun,Result.andThen_ok,Sem.run_pure]
  rename_i hx h1 h2;obtain⟨he8,hsz,h⟩:=Jm hT h;split at h
  case h_2=>exact h.elim
  rename_i e' xs hrow;obtain⟨hee,hm,l,hl,hk⟩:=ZQ h;have hRx:=hS.get x;rw[hx] at hRx;obtain⟨hsz',hk⟩:=Q7 hk;have hc:=Vz hS (hT _ _ h1).kind (hT _ _ h2).kind he8 hsz' hRx hrow hm hl;refine .value (v:=.string (bK l)) ?_ hk (.imm _ _ (.s l)) hS (.ext (fun _ _ h=>h) (.refl _) (.refl _) (Ext.refl w));simp[execOp,hc]
 case makeInterface t x=>
  simp only[vop] at h;obtain⟨d',⟨hc,hk⟩,hr⟩:=MW (hS.get x) h;refine .value (v:=.iface t (a.eval x)) ?_ hk (.imm _ _ (.ifc t _ _ hr)) hS (.ext (fun _ _ h=>h) (.refl _) (.refl _) (Ext.refl w));simp[execOp,run_makeInterface w t _ hc.ok]
 case call c=>
  obtain⟨callee,args,argTypes⟩:=c
  cases callee with
  | invoke r m=>
   simp only[vop] at h;rcases h with h|h
   . exact .ng hT hS h
   split at h
   case h_2=>exact h.elim
   rename_i t d hd;have hr:=hS.get r;rw[hd] at hr;obtain⟨x,hx,hxr⟩:=hr.KJ;obtain⟨f,hm,h⟩:=h;obtain⟨V1,ds1,s1,h,hv1,hS1,hVV⟩:=lW 8 hS (hS.gets _) h;obtain⟨es,⟨R,hf,h⟩,hes,hri⟩:=oW argTypes.toList ds1 _ _ hv1 h;obtain⟨env,box,row,n⟩:=s1;intro next Q hn
   have eH:=hf.run V1 w (#[x]++args.map a.eval) hS1.mem.vok (by have:=hv1.1;simp at this ⊢;omega) (fun j v d h1 h2=>by
    cases j with
    | zero=>
     rw[Array.getElem?_append_left sI] at h1;simp at h1 h2;subst h1 h2;exact hxr.mono hVV
    | succ j=>
     rw[Array.getElem?_append_right sI] at h1;exact hri j v d (by simpa using h1) (by simpa using h2))
   unfold Oper.wp;have hrun:(execOp a.eval ⟨dst,.call ⟨.invoke r m,args,argTypes⟩,type,pos,after,guard⟩).run P w = .ok (.enter f (#[x]++args.map a.eval)) w:=by
    simp only[execOp,resolve,hx,Sem.run_bind,Sem.run_pure,Result.andThen_ok];rw[hm.enter]
   rw[hrun];show Calls P f (#[x]++args.map a.eval) w _;refine eH.mono ?_;rintro e w'' ⟨V',ω0,row0,v,d,rfl,hR,hrs,hres⟩;have hM:=hS1.mem.call hres;have hk:=h d row0 hR;have hl:row.length=ω.length:=hS1.mem.rl.symm;dsimp only at hk;rw[hl] at hk;obtain⟨d',hk,hr⟩:=sJ (μ:=μ) (V':=V') (ω':=ω++ω0) (VLe.refl V') (fun r u hu=>by rw[List.getElem?_append_right oA,Nat.add_sub_cancel];exact hu) hrs hk;rw[oz] at hk;exact hn d' v _ V' μ (ω++ω0) w'' hk hr ⟨hS1.tmps,hS1.defers.ext hres.below,fun t=>(hS1.env t).mono hres.le (.refl μ) (.append _ _),hM⟩ (fun h=>by cases h)
  | builtin b=>
   cases b<;>first|exact .ng hT hS h|skip
   case copy=>
    simp only[vop] at h;split at h
    case h_2=>exact h.elim
    rename_i x y t t' ha ht;obtain⟨args⟩:=args;obtain⟨argTypes⟩:=argTypes;dsimp only at ha ht;subst ha ht;obtain⟨d,v,s',w',hk,hr,hS',hrun,hstep⟩:=Wj (P:=P) (u:=t') (ty:=type) hT hS (hS.get x) (hS.get y) h;refine .value (v:=v) (w':=w') ?_ hk hr hS' hstep;simp[execOp,resolve,invoke,builtin,hrun]
   simp only[vop] at h;split at h
   case h_2=>exact h.elim
   rename_i x y t t' ha ht;obtain⟨args⟩:=args;obtain⟨argTypes⟩:=argTypes;dsimp only at ha ht;subst ha ht;split at h
   . rename_i h31
     obtain⟨d,v,s',ω',w',hk,hr,hS',hrun,hstep⟩:=Wn (P:=P) (ty:=type) hT hS (hT _ _ h31).kind (hS.get x) (hS.get y) h;refine .value ?_ hk hr hS' hstep;simp only[execOp,resolve,invoke,builtin,Sem.run_bind,Sem.run_pure,Result.andThen_ok,List.map_toArray,List.map_cons,List.map_nil,hrun]
   obtain⟨htt,h30⟩:=jJ h;subst htt;obtain⟨d,v,s',ω',w',hk,hr,hS',hrun,hstep⟩:=Wi (P:=P) (ty:=type) hT hS (hS.get x) (hS.get y) h30;refine .value (v:=v) (w':=w') ?_ hk hr hS' hstep;simp[execOp,resolve,invoke,builtin,hrun]
  | value f=>
   cases f<;>first|exact .ng hT hS h|skip
   . rename_i t
     simp only[vop] at h;rcases h with h|h
     . exact .ng hT hS h
     obtain⟨f,first,cap,vs,us,hv,hs1,hs2,hr1,hr2,h⟩:=Dx (hS.get (.tmp t)) h;rw[iQ] at h;have hg:=hS.gets args.toList;have JZ:iU (ah T) V μ ω (vs.toList++args.toList.map a.eval++us.toList) (first++s.gets args.toList++cap):=
      ⟨by have:=hg.1;simp at this ⊢;omega,Gf (fun j v d h1 h2=>hr1 j v d (by simpa using h1) h2) hg.2 (fun j v d h1 h2=>hr2 j v d (by simpa using h1) h2) (by simpa using hs1) hg.1⟩
     obtain⟨hcall,eH⟩:=Nw hT hS JZ h;intro next Q hn
     unfold Oper.wp;have hrun:(execOp a.eval ⟨dst,.call ⟨.value (.tmp t),args,argTypes⟩,type,pos,after,guard⟩).run P w = .ok (.enter f (vs.toList++args.toList.map a.eval++us.toList).toArray) w:=by
      simp only[execOp,resolve,hv,Deferred.ofValue,invoke,Sem.run_bind,Sem.run_pure,Result.andThen_ok];rw[hcall];congr 2;apply Array.ext';simp
     rw[hrun];show Calls P f _ w _;refine eH.mono ?_;rintro e w'' ⟨v,d,s',V',μ',ω',rfl,hk,hr,hS'⟩;exact hn d v s' V' μ' ω' w'' hk hr hS' (fun h=>by cases h)
   rename_i f;simp only[vop] at h;rcases h with h|h|h|h|h
   . exact .ng hT hS h
   case inr.inr.inr.inr=>
    rw[iQ] at h;intro next Q hn
    have hg:=hS.gets args.toList;have eH:=h.run w0 V0 V μ ω a w _ hS hg.1 hg.2;unfold Oper.wp;have hrun:(execOp a.eval ⟨dst,.call ⟨.value (.func f),args,argTypes⟩,type,pos,after,guard⟩).run P w = .ok (.enter f (args.toList.map a.eval).toArray) w:=by
     simp only[execOp,resolve,Act.eval,Deferred.ofValue,invoke,Sem.run_bind,Sem.run_pure,Result.andThen_ok];rw[h.call];congr 2;apply Array.ext';simp
    rw[hrun];show Calls P f _ w _;refine eH.mono ?_;rintro e w'' ⟨v,d,s',V',μ',ω',rfl,hk,hr,hS'⟩;exact hn d v s' V' μ' ω' w'' hk hr hS' (fun h=>by cases h)
   case inr.inr.inr.inl=>
    obtain⟨hrun,h⟩:=MB (dst:=dst) (type:=type) (pos:=pos) (after:=after) (guard:=guard) hS h;intro next Q hn
    unfold Oper.wp;rw[hrun];show Calls P f (args.map a.eval) w _;refine h.mono ?_;rintro e w'' ⟨v,d,s',V',ω',rfl,hk,hr,hS',_⟩;exact hn d v s' V' μ ω' w'' hk hr hS' (fun h=>by cases h)
   case inr.inr.inl=>
    rw[iQ] at h;obtain⟨hcall,eH⟩:=Nw hT hS (hS.gets args.toList) h;intro next Q hn
    unfold Oper.wp;have hrun:(execOp a.eval ⟨dst,.call ⟨.value (.func f),args,argTypes⟩,type,pos,after,guard⟩).run P w = .ok (.enter f (args.toList.map a.eval).toArray) w:=by
     simp only[execOp,resolve,Act.eval,Deferred.ofValue,invoke,Sem.run_bind,Sem.run_pure,Result.andThen_ok];rw[hcall];congr 2;apply Array.ext';simp
    rw[hrun];show Calls P f _ w _;refine eH.mono ?_;rintro e w'' ⟨v,d,s',V',μ',ω',rfl,hk,hr,hS'⟩;exact hn d v s' V' μ' ω' w'' hk hr hS' (fun h=>by cases h)
   obtain⟨V1,ds1,s1,h,hv1,hS1,_⟩:=lW 8 hS (hS.gets _) h;obtain⟨es,⟨R,hf,h⟩,hes,hri⟩:=oW argTypes.toList ds1 _ _ hv1 h;obtain⟨env,box,row,n⟩:=s1;intro next Q hn
   have eH:=hf.run V1 w (args.map a.eval) hS1.mem.vok (by have:=hv1.1;simp at this ⊢;omega) (fun j v d h1 h2=>hri j v d (by simpa using h1) h2);unfold Oper.wp;have hrun:(execOp a.eval ⟨dst,.call ⟨.value (.func f),args,argTypes⟩,type,pos,after,guard⟩).run P w = .ok (.enter f (args.map a.eval)) w:=by
    simp only[execOp,resolve,Act.eval,Deferred.ofValue,invoke,Sem.run_bind,Sem.run_pure,Result.andThen_ok];rw[show (#[]++args.map a.eval)++#[]=args.map a.eval by simp,hf.call]
   rw[hrun];show Calls P f (args.map a.eval) w _;refine eH.mono ?_;rintro e w'' ⟨V',ω0,row0,v,d,rfl,hR,hrs,hres⟩;have hM:=hS1.mem.call hres;have hk:=h d row0 hR;have hl:row.length=ω.length:=hS1.mem.rl.symm;dsimp only at hk;rw[hl] at hk;obtain⟨d',hk,hr⟩:=sJ (μ:=μ) (V':=V') (ω':=ω++ω0) (VLe.refl V') (fun r u hu=>by rw[List.getElem?_append_right oA,Nat.add_sub_cancel];exact hu) hrs hk;rw[oz] at hk;exact hn d' v _ V' μ (ω++ω0) w'' hk hr ⟨hS1.tmps,hS1.defers.ext hres.below,fun t=>(hS1.env t).mono hres.le (.refl μ) (.append _ _),hM⟩ (fun h=>by cases h)
 all_goals exact .ng hT hS h
theorem Hw(hT:TOk P T){ops:List Oper}{Q:Exit->Act->World->Prop}:∀ (rest:List Oper) (s:St) (V:Vw) (μ:List Nat) (ω:List Value) (a:Act) (w:World) (K:St->Prop),Sim (ah T) w0 V0 V μ ω s a w ->
    BX P T ops rest s K->(∀ s V μ ω a w,K s->Sim (ah T) w0 V0 V μ ω s a w->Q .normal a w)->wpList P ops.toArray Q rest a w
 | [],s,V,μ,ω,a,w,K,hS,h,hq=>hq s V μ ω a w h hS
 | o :: rest,s,V,μ,ω,a,w,K,hS,h,hq=>by
  simp only[BX] at h;unfold wpList;rcases mY hS h with⟨hw,s1,h,hS⟩|⟨hw,s1,h,hS⟩
  . rw[if_pos hw]
    refine .inl (Ii hT hS h _ _ fun d v s2 V2 μ2 ω2 w2 hk hr hS2 _=>?_);obtain⟨s3,h,hS3⟩:=gV hS2 hr hk;exact Hw hT rest s3 _ _ _ _ _ K hS3 h hq
  . rw[if_neg (by rw[hw];simp)]
    obtain⟨s3,h,hS3⟩:=gV hS (v:=undef) (d:=.tup []) (RS.tup [] #[] rfl (fun j v d h=>by simp at h)) h;exact Hw hT rest s3 _ _ _ _ _ K hS3 h hq
theorem Ok.region(hT:TOk P T){s:St}{Q:Exit->St->Prop}{id:Nat}{l:List Oper}(h:BX P T l l s (Q .normal)):Ok P T (.region id l.toArray false) Q s:=by
 refine⟨fun w0 V0 V μ ω a w hS=>?_⟩;refine wp_region_lit ?_;exact Hw hT l s V μ ω a w _ hS h fun s' V' μ' ω' a' w' hk hS'=>⟨s',V',μ',ω',hk,hS'⟩
end
end Go.Vx
namespace Go.Vx
open Go.RowKit
def FH(ti:Option TI)(row acc:Rows)(d:D)(K:Rows->Rows->D->Prop):Prop:=
 match d with
 | .own r m=>match row[r]? with
  | some (some x)=>fH row r none fun row=>gZ acc (some x) fun acc'=>natLit acc.length fun k=>K row acc' (.own k m)
  | _=>False
 | d=>Bj ti d fun d=>K row acc d
def FI(T:Tab)(e:TypeId):Nat->Rows->Rows->List D->(Rows->Rows->List D->Prop)->Prop
 | _,row,acc,[],K=>K row acc []
 | j,row,acc,d :: r,K=>FH (SL T e j) row acc d fun row acc d=>FI T e (j+1) row acc r fun row acc r=>K row acc (d :: r)
def KX(T:Tab)(t:TypeId)(row acc:Rows)(d:D)(K:Rows->Rows->D->Prop):Prop:=
 match d with
 | .agg cs=>FI T t 0 row acc cs fun row acc cs=>K row acc (.agg cs)
 | d=>FH (T t) row acc d K
def Bq(T:Tab):Rows->Rows->List TypeId->List D->(Rows->List D->Prop)->Prop
 | row,acc,t :: ts,d :: ds,K=>KX T t row acc d fun row acc d=>Bq T row acc ts ds fun acc ds=>K acc (d :: ds)
 | _,acc,[],[],K=>K acc []
 | _,_,_,_,_=>False
def AO(T:Tab):List TypeId->List D->Rows->(Rows->List D->Prop)->Prop
 | t :: ts,d :: ds,row,K=>match d,T t with
  | .aO,some ⟨_,_,.slice e,_⟩=>gZ row (some (e,[])) fun row'=>natLit row.length fun r=>AO T ts ds row' fun row ds=>K row (.own r 0 :: ds)
  | d,_=>d.force fun d=>AO T ts ds row fun row ds=>K row (d :: ds)
 | _,[],row,K=>K row []
 | [],_ :: _,_,_=>False
def qo(T:Tab)(fn:Func)(R:D->Rows->Prop)(s:St):Prop:=
 uM T s fn.results.toList fun ds=>
  (mJ 8 s ds fun ds _=>pK T fn.resultTypes.toList ds fun es=>R (iE es) []) \/
  (Bq T s.row [] fn.resultTypes.toList ds fun acc es=>R (iE es) acc) \/
  (AO T fn.resultTypes.toList ds s.row fun row ds=>Bq T row [] fn.resultTypes.toList ds fun acc es=>R (iE es) acc)
def Cb(T:Tab)(fn:Func)(R:D->Rows->Prop):Exit->St->Prop
 | .normal,s=>qo T fn R s
 | .ret,s=>qo T fn R s
 | _,_=>False
section
variable {w0 w w' : World} {V0 : Fr} {V : Vw} {μ : List Nat} {ω : List Value} {box : List (List D)} {row : Rows} {s : St} {a : Act} {P : Program} {T : Tab}
structure Pick(ω:List Value)(row0 row:Rows)(ω0:List Value)(acc:Rows)(f:Nat->Nat):Prop where
 len:ω0.length=acc.length
 val:∀ k,k<acc.length->ω0[k]? = ω[f k]?/\acc[k]? = row0[f k]?/\row[f k]? = some none
 inj:∀ k k',k<acc.length->k' < acc.length->f k=f k'->k=k'
 keep:∀ (r:Nat) x,row[r]? = some (some x)->row0[r]? = some (some x)
theorem Pick.more{row0 row:Rows}{ω0:List Value}{acc:Rows}{f:Nat->Nat}(h:Pick ω row0 row ω0 acc f){r:Nat}{x:TypeId × List (List D)}{v:Value}(hr:row[r]? = some (some x))(hv:ω[r]? = some v) :
    Pick ω row0 (row.set r none) (ω0++[v]) (acc++[some x]) (fun k=>if k=acc.length then r else f k):=by
 have hrl:r<row.length:=(aK.1 hr).1;refine⟨by simp[h.len],fun k hk=>?_,fun k k' hk hk' he=>?_,fun q y hq=>?_⟩
 . by_cases hk2:k=acc.length
   . subst hk2
     simp only[if_true];refine⟨?_,?_,List.getElem?_set_self hrl⟩
     . rw[<- h.len,List.getElem?_append_right (Nat.le_refl _)];simp[hv]
     . rw[List.getElem?_append_right (Nat.le_refl _)];simp[h.keep r x hr]
   . have hk3:k<acc.length:=by simp at hk;omega
     simp only[if_neg hk2];obtain⟨h1,h2,h3⟩:=h.val k hk3;refine⟨by rw[List.getElem?_append_left (by rw[h.len];exact hk3)];exact h1,by rw[List.getElem?_append_left hk3];exact h2,?_⟩;by_cases hfr:f k=r
     . rw[hfr];exact List.getElem?_set_self hrl
     . rw[List.getElem?_set_ne (Ne.symm hfr)];exact h3
 . have hne:∀ k,k<acc.length->f k ≠ r:=fun k hk e=>by
     have:=(h.val k hk).2.2;rw[e,hr] at this;cases this
   simp at hk hk';by_cases h1:k=acc.length<;>by_cases h2:k'=acc.length
   . omega
   . rw[if_pos h1,if_neg h2] at he;exact absurd he.symm (hne k' oA)
   . rw[if_neg h1,if_pos h2] at he;exact absurd he (hne k oA)
   . rw[if_neg h1,if_neg h2] at he;exact h.inj k k' oA oA he
 . by_cases hqr:q=r
   . subst hqr;rw[List.getElem?_set_self hrl] at hq;cases hq
   . rw[List.getElem?_set_ne (Ne.symm hqr)] at hq;exact h.keep q y hq
theorem MX{ti:Option TI}{row0 row:Rows}{ω0:List Value}{acc:Rows}{f:Nat->Nat}(hp:Pick ω row0 row ω0 acc f){d:D}{v:Value}{K:Rows->Rows->D->Prop}
    (hv:RS (ah T) V μ ω v d)(h:FH ti row acc d K) :
    ∃ row' acc' d' ω0' f',K row' acc' d'/\Pick ω row0 row' ω0' acc' f'/\Pre ω0 ω0'/\RS (ah T) V [] ω0' v d':=by
 unfold FH at h;split at h
 . rename_i r m
   split at h
   case h_2=>exact h.elim
   rename_i x hr;obtain⟨_,h⟩:=gW _ _ _ _ h;simp only[kY,kW] at h;obtain⟨A,N,c,hω,hn,rfl⟩:=hv.jd;refine⟨_,_,_,_,_,h,hp.more hr hω,.append _ _,.own _ m A N c ?_ hn⟩;rw[<- hp.len,List.getElem?_append_right (Nat.le_refl _)];simp
 . obtain⟨d',hk,hd⟩:=G5 hv h
   exact⟨row,acc,d',ω0,f,hk,hp,.refl _,.imm _ _ hd⟩
theorem Pre.trans{α:Type}{l m n:List α}(h:Pre l m)(h':Pre m n):Pre l n:=fun i x hx=>h' i x (h i x hx)
theorem MZ{e:TypeId}{row0:Rows}:∀ (cs:List D) (j:Nat) (row acc:Rows) (ω0:List Value) (f:Nat->Nat) (vs:List Value) (K:Rows->Rows->List D->Prop),Pick ω row0 row ω0 acc f ->
    iU (ah T) V μ ω vs cs->FI T e j row acc cs K->∃ row' acc' ds ω0' f',K row' acc' ds/\Pick ω row0 row' ω0' acc' f'/\Pre ω0 ω0'/\iU (ah T) V [] ω0' vs ds
 | [],j,row,acc,ω0,f,vs,K,hp,hv,h=>⟨row,acc,[],ω0,f,h,hp,.refl _,by simpa using hv.1,sI⟩
 | c :: cs,j,row,acc,ω0,f,[],K,hp,hv,h=>by have:=hv.1;simp at this
 | c :: cs,j,row,acc,ω0,f,v :: vs,K,hp,hv,h=>by
  simp only[FI] at h;obtain⟨oO,KY,d,ω1,f1,h,hp1,hpre,hd⟩:=MX hp (hv.2 0 v c rfl rfl) h;obtain⟨Cc,Ce,ds,ω2,f2,h,hp2,wQ,hds⟩:=MZ cs (j+1) oO KY ω1 f1 vs _ hp1 ⟨by simpa using hv.1,fun j v d h1 h2=>hv.2 (j+1) v d (by simpa using h1) (by simpa using h2)⟩ h;refine⟨Cc,Ce,d :: ds,ω2,f2,h,hp2,hpre.trans wQ,by simp[hds.1],fun j u x h1 h2=>?_⟩
  cases j with
  | zero=>simp only[List.getElem?_cons_zero,Option.some.injEq] at h1 h2;subst h1 h2;exact hd.mono (.refl V) (.refl _) wQ
  | succ j=>exact hds.2 j u x (by simpa using h1) (by simpa using h2)
theorem Wp{t:TypeId}{row0 row:Rows}{ω0:List Value}{acc:Rows}{f:Nat->Nat}(hp:Pick ω row0 row ω0 acc f){d:D}{v:Value}{K:Rows->Rows->D->Prop}
    (hv:RS (ah T) V μ ω v d)(h:KX T t row acc d K) :
    ∃ row' acc' d' ω0' f',K row' acc' d'/\Pick ω row0 row' ω0' acc' f'/\Pre ω0 ω0'/\RS (ah T) V [] ω0' v d':=by
 unfold KX at h;split at h
 . obtain⟨vs,rfl,hs,ho,hR⟩:=hv.jU
   obtain⟨Cc,Ce,ds,ω2,f2,h,hp2,wQ,hds⟩:=MZ _ 0 row acc ω0 f vs.toList _ hp ⟨by simpa using hs,fun j v d h1 h2=>hR j v d (by simpa using h1) h2⟩ h;exact⟨Cc,Ce,_,ω2,f2,h,hp2,wQ,.agg _ _ (by have:=hds.1;simpa using this) ho fun j v d h1 h2=>hds.2 j v d (by simpa using h1) h2⟩
 . exact MX hp hv h
theorem zH{row0:Rows}:∀ (ts:List TypeId) (ds:List D) (row acc:Rows) (ω0:List Value) (f:Nat->Nat) (vs:List Value) (K:Rows->List D->Prop),Pick ω row0 row ω0 acc f ->
    iU (ah T) V μ ω vs ds->Bq T row acc ts ds K->∃ row' acc' es ω0' f',K acc' es/\Pick ω row0 row' ω0' acc' f'/\Pre ω0 ω0'/\iU (ah T) V [] ω0' vs es
 | [],[],row,acc,ω0,f,vs,K,hp,hv,h=>⟨row,acc,[],ω0,f,h,hp,.refl _,by simpa using hv.1,sI⟩
 | t :: ts,[],row,acc,ω0,f,vs,K,hp,hv,h=>h.elim
 | [],d :: ds,row,acc,ω0,f,vs,K,hp,hv,h=>h.elim
 | t :: ts,d :: ds,row,acc,ω0,f,[],K,hp,hv,h=>by have:=hv.1;simp at this
 | t :: ts,c :: cs,row,acc,ω0,f,v :: vs,K,hp,hv,h=>by
  simp only[Bq] at h;obtain⟨oO,KY,d,ω1,f1,h,hp1,hpre,hd⟩:=Wp hp (hv.2 0 v c rfl rfl) h;obtain⟨Cc,Ce,ds,ω2,f2,h,hp2,wQ,hds⟩:=zH ts cs oO KY ω1 f1 vs _ hp1 ⟨by simpa using hv.1,fun j v d h1 h2=>hv.2 (j+1) v d (by simpa using h1) (by simpa using h2)⟩ h;refine⟨Cc,Ce,d :: ds,ω2,f2,h,hp2,hpre.trans wQ,by simp[hds.1],fun j u x h1 h2=>?_⟩
  cases j with
  | zero=>simp only[List.getElem?_cons_zero,Option.some.injEq] at h1 h2;subst h1 h2;exact hd.mono (.refl V) (.refl _) wQ
  | succ j=>exact hds.2 j u x (by simpa using h1) (by simpa using h2)
theorem Pick.start(ω:List Value)(row:Rows):Pick ω row row [] [] id:=⟨rfl,sI,sI,fun _ _ h=>h⟩
theorem Res.wB{V':Vw}(h:Mem (ah T) w V0 V' μ ω box row w'){ω0:List Value}{acc oO:Rows}{f:Nat->Nat}(hp:Pick ω row oO ω0 acc f):Res (ah T) V0.V V' ω0 acc w w':=by
 have back:∀ (k:Nat) v x,ω0[k]? = some v->acc[k]? = some (some x)->ω[f k]? = some v/\row[f k]? = some (some x)/\k<acc.length:=by
  intro k v x h1 h2;have hk:k<acc.length:=(aK.1 h2).1;obtain⟨a1,a2,_⟩:=hp.val k hk;exact⟨by rw[<- a1];exact h1,by rw[<- a2];exact h2,hk⟩
 refine⟨h.below,h.vle,h.vok,h.gu,hp.len,?_,?_,?_⟩
 . intro r v e xs h1 h2
   obtain⟨b1,b2,_⟩:=back r v _ h1 h2;exact h.hrow _ v e xs b1 b2
 . intro r r' v v' x x' g h1 h2 h3 h4 h5 h6
   obtain⟨b1,b2,b3⟩:=back r v x h1 h2;obtain⟨c1,c2,c3⟩:=back r' v' x' h3 h4;have:=h.uniq (.inr (f r)) (.inr (f r')) g ⟨v,x,b1,b2,h5⟩ ⟨v',x',c1,c2,h6⟩;simp at this;exact hp.inj r r' b3 c3 this
 . intro p u r v x h1 h2 h3 h4
   obtain⟨b1,b2,_⟩:=back r v x h2 h3;exact h.eF p u (.inr (f r)) h1 ⟨v,x,b1,b2,h4⟩
theorem Mem.start(hV:VOk V w):Mem (ah T) w ⟨V,fun _=>undef,[],[],[]⟩ V [] [] [] [] w:=
 ⟨Below.refl _ _,hV,VLe.refl V,fun _ _=>rfl,rfl,sI,rfl,sI,
  fun l l' g h1 _=>by cases l<;>simp[Own] at h1,fun l g h1=>by cases l<;>simp[Own] at h1,fun p u l _ h1=>by cases l<;>simp[Own] at h1,fun x hx=>by cases hx⟩
theorem CY{F:Fr}:∀ (ts:List TypeId) (ds:List D) (vs:List Value) (ω:List Value) (row:Rows) (K:Rows->List D->Prop),Mem (ah T) w0 F V μ ω box row w->iU (ah T) V μ ω vs ds->AO T ts ds row K ->
    ∃ ω' row' ds',K row' ds'/\Pre ω ω'/\Mem (ah T) w0 F V μ ω' box row' w/\iU (ah T) V μ ω' vs ds'
 | ts,[],vs,ω,row,K,hM,hv,h=>⟨ω,row,[],by cases ts<;>exact h,.refl _,hM,hv⟩
 | [],d :: ds,vs,ω,row,K,hM,hv,h=>h.elim
 | t :: ts,d :: ds,[],ω,row,K,hM,hv,h=>by have:=hv.1;simp at this
 | t :: ts,d :: ds,v :: vs,ω,row,K,hM,hv,h=>by
  have htl:iU (ah T) V μ ω vs ds:=⟨by simpa using hv.1,fun j v d h1 h2=>hv.2 (j+1) v d (by simpa using h1) (by simpa using h2)⟩;have hd:=hv.2 0 v d rfl rfl;simp only[AO] at h;split at h
  . simp only[kY,kW] at h
    rename_i e _ _;have hM2:=hM.newRow (w':=w) (Ext.refl w) (v:=.slice none 0 0) (e:=e) (xs:=[]) (vals:=[]) ⟨sI,.inl ⟨rfl,rfl⟩⟩ ⟨sI,sI,sI⟩ (by simp[Value.ownBlock]);obtain⟨ω',row',ds',hk,hp,hM',hv'⟩:=CY ts ds vs _ _ _ hM2 ⟨htl.1,fun j v d a b=>(htl.2 j v d a b).mono (.refl V) (.refl μ) (.append _ _)⟩ h;refine⟨ω',row',_,hk,(Pre.append _ _).trans hp,hM',by simp[hv'.1],fun j u x h1 h2=>?_⟩
    cases j with
    | zero=>
     simp only[List.getElem?_cons_zero,Option.some.injEq] at h1 h2;subst h1 h2;rw[hd.iY];refine .own _ 0 none 0 0 (hp _ _ ?_) (Nat.le_refl _);rw[hM.rl.symm,List.getElem?_append_right (Nat.le_refl _)];simp
    | succ j=>exact hv'.2 j u x (by simpa using h1) (by simpa using h2)
  . rw[D.force_eq] at h
    obtain⟨ω',row',ds',hk,hp,hM',hv'⟩:=CY ts ds vs _ _ _ hM htl h;refine⟨ω',row',_,hk,hp,hM',by simp[hv'.1],fun j u x h1 h2=>?_⟩
    cases j with
    | zero=>
     simp only[List.getElem?_cons_zero,Option.some.injEq] at h1 h2;subst h1 h2;exact hd.mono (.refl V) (.refl μ) hp
    | succ j=>exact hv'.2 j u x (by simpa using h1) (by simpa using h2)
theorem aF.of_run(hT:TOk P T){f:FuncId}{fn:Func}{c:Code}(hf:P.funcs[f]? = some fn)(hb:fn.body=some c)(hcall:∀ args w,(callFunc f args).run P w = .ok (.enter f args) w){ds:List D}{R:D->Rows->Prop}(hn:ds.length<=fn.ntmps)
    (h:∀ (w:World) (V:Vw) (a:Act),Sim (ah T) w ⟨V,fun _=>undef,[],[],[]⟩ V [] [] ⟨fO 0 ds,[],[],fn.ntmps⟩ a w ->
     c.wp P (fun e a' w'=>∃ s' V' μ' ω',Cb T fn R e s'/\Sim (ah T) w ⟨V,fun _=>undef,[],[],[]⟩ V' μ' ω' s' a' w') a w):aF P T f ds R:=by
 refine⟨hcall,fun V w args hV hl hR=>uZ hf hb ?_⟩;have hS:Sim (ah T) w ⟨V,fun _=>undef,[],[],[]⟩ V [] [] ⟨fO 0 ds,[],[],fn.ntmps⟩ { tmps:=args++Array.replicate (fn.ntmps - args.size) undef,defers:=[] } w:=by
  refine⟨by simp;omega,.start,fun t=>?_,Mem.start hV⟩;show RS _ _ _ _ (fB _ fn.ntmps _ t) (look (fO 0 ds) t);rw[yg,if_pos (Nat.zero_le _),Nat.sub_zero];unfold fB;split
  case isFalse hge=>
   rw[List.getD,List.getElem?_eq_none oA];exact .imm _ _ (.u _)
  show RS _ _ _ _ ((args++Array.replicate (fn.ntmps - args.size) undef).getD t undef) _;by_cases ht:t<ds.length
  . have hta:t<args.size:=oA
    have hd:=aC ht;have ha:=Array.getElem?_eq_getElem hta;have:=hR t _ _ ha hd;have e1:(args++Array.replicate (fn.ntmps - args.size) undef).getD t undef=args[t]:=by
     simp[Array.getD,hta];omega
    rw[e1];simp only[List.getD,hd,Option.getD_some];exact .imm _ _ this
  . rw[List.getD,List.getElem?_eq_none oA]
    exact .imm _ _ (.u _)
 refine wp_mono (h w V _ hS) ?_;rintro e a' w' ⟨s',V',μ',ω',hq,hS'⟩;have fin:qo T fn R s'->LeavesInM Fence.wide 0 P fn a'.tmps (fun e w'=>∃ V' ω row v' d,e = .returned v'/\R d row/\RS (ah T) V' [] ω v' d/\Res (ah T) V V' ω row w w') a'.defers .returning w':=by
  intro hr;obtain⟨ms',e1,e2,e3,hS'⟩:=hS'.shut;rw[e1];have e4:ms'.map mkD++[]=ms'.map mkD:=List.append_nil _;show LeavesInM _ _ _ _ _ _ (ms'.map mkD++[]) _ _;rw[e4];refine tZ sI ms' w' e2 e3 ?_;obtain⟨vs,ds',hk,hv,hrun⟩:=sW hT hS' _ _ hr;refine⟨if h:vs.toArray.size=1 then vs.toArray[0] else .tuple vs.toArray,?_,?_⟩
  . rw[yc,Array.mapM_eq_mapM_toList]
    dsimp only at hrun;simp only[Sem.run_bind,Sem.run_map,hrun,Result.andThen_ok,Sem.run_pure]
  . rcases hk with hk|hk|hk
    . obtain⟨V1,ds1,s1,hk,hv1,hS1,_⟩:=lW 8 hS' hv hk
      obtain⟨es,hk,hes,hri⟩:=oW _ _ _ _ hv1 hk;refine⟨V1,[],[],_,_,rfl,hk,pz ⟨by rw[hv1.1,hes],fun j v d h1 h2=>.imm _ _ (hri j v d h1 h2)⟩,?_⟩;exact Res.wB hS1.mem (Pick.start _ _)
    . obtain⟨oO,acc,es,ω0,f0,hk,hp,_,hes⟩:=zH _ _ _ _ _ _ _ _ (Pick.start _ _) hv hk
      exact⟨V',ω0,acc,_,_,rfl,hk,pz hes,Res.wB hS'.mem hp⟩
    . obtain⟨ω1,row0,ds1,hk,_,hM1,hv1⟩:=CY _ _ _ _ _ _ hS'.mem hv hk
      obtain⟨oO,acc,es,ω0,f0,hk,hp,_,hes⟩:=zH _ _ _ _ _ _ _ _ (Pick.start _ _) hv1 hk;exact⟨V',ω0,acc,_,_,rfl,hk,pz hes,Res.wB hM1 hp⟩
 cases e<;>simp only[Cb] at hq
 . exact fin hq
 . exact fin hq
theorem aF.aB(hT:TOk P T){f:FuncId}{fn:Func}{c:Code}(hf:P.funcs[f]? = some fn)(hb:fn.body=some c)(hcall:∀ args w,(callFunc f args).run P w = .ok (.enter f args) w){ds:List D}{R:D->Rows->Prop}(hn:ds.length<=fn.ntmps)
    (h:Ok P T c (Cb T fn R) ⟨fO 0 ds,[],[],fn.ntmps⟩):aF P T f ds R:=
 .of_run hT hf hb hcall hn fun w V a hS=>h.run w _ V [] [] a w hS
end
end Go.Vx
namespace Go.Proofs.YtnlingegeangmaaGreatDoor
open Go Go.Vx
def T:Tab:=fun t=>match t with
 | 3=>some ⟨1,8,.int .i64,[.i .i64 0]⟩
 | 4=>some ⟨1,1,.bool,[.ff]⟩
 | 5=>some ⟨1,1,.int .u8,[.i .u8 0]⟩
 | 9=>some ⟨1,16,.str,[.s []]⟩
 | 20=>some ⟨1,16,.other,[.fG]⟩
 | 22=>some ⟨1,24,.slice 93,[.aO]⟩
 | 23=>some ⟨1,24,.slice 47,[.aO]⟩
 | 24=>some ⟨1,24,.slice 41,[.aO]⟩
 | 25=>some ⟨1,24,.slice 89,[.aO]⟩
 | 27=>some ⟨7,136,.struct [(0,9),(1,22),(2,9),(3,4),(4,23),(5,24),(6,25)],[.s [],.aO,.s [],.ff,.aO,.aO,.aO]⟩
 | 31=>some ⟨1,24,.slice 55,[.aO]⟩
 | 32=>some ⟨1,8,.int .i64,[.i .i64 0]⟩
 | 41=>some ⟨3,40,.struct [(0,9),(1,9),(2,3)],[.s [],.s [],.i .i64 0]⟩
 | 42=>some ⟨1,24,.slice 9,[.aO]⟩
 | 43=>some ⟨1,24,.slice 84,[.aO]⟩
 | 44=>some ⟨1,24,.slice 87,[.aO]⟩
 | 45=>some ⟨1,24,.slice 49,[.aO]⟩
 | 47=>some ⟨7,160,.struct [(0,9),(1,42),(2,42),(3,43),(4,44),(5,45),(6,45)],[.s [],.aO,.aO,.aO,.aO,.aO,.aO]⟩
 | 49=>some ⟨3,32,.struct [(0,3),(1,3),(2,9)],[.i .i64 0,.i .i64 0,.s []]⟩
 | 55=>some ⟨1,24,.slice 57,[.aO]⟩
 | 57=>some ⟨4,32,.struct [(0,3),(1,3),(2,3),(3,3)],[.i .i64 0,.i .i64 0,.i .i64 0,.i .i64 0]⟩
 | 63=>some ⟨1,8,.ptr 68,[.iq]⟩
 | 64=>some ⟨1,24,.slice 72,[.aO]⟩
 | 65=>some ⟨1,24,.slice 76,[.aO]⟩
 | 66=>some ⟨1,24,.slice 136,[.aO]⟩
 | 68=>some ⟨3,72,.struct [(0,64),(1,65),(2,66)],[.aO,.aO,.aO]⟩
 | 72=>some ⟨4,80,.struct [(0,55),(1,55),(2,55),(3,3)],[.aO,.aO,.aO,.i .i64 0]⟩
 | 74=>some ⟨1,24,.slice 3,[.aO]⟩
 | 76=>some ⟨4,80,.struct [(0,74),(1,74),(2,74),(3,3)],[.aO,.aO,.aO,.i .i64 0]⟩
 | 82=>some ⟨1,24,.slice 174,[.aO]⟩
 | 84=>some ⟨3,48,.struct [(0,9),(1,4),(2,82)],[.s [],.ff,.aO]⟩
 | 85=>some ⟨1,24,.slice 234,[.aO]⟩
 | 87=>some ⟨5,104,.struct [(0,3),(1,42),(2,82),(3,85),(4,42)],[.i .i64 0,.aO,.aO,.aO,.aO]⟩
 | 89=>some ⟨3,64,.struct [(0,9),(1,42),(2,82)],[.s [],.aO,.aO]⟩
 | 91=>some ⟨1,8,.other,[.iT]⟩
 | 93=>some ⟨2,24,.struct [(0,9),(1,3)],[.s [],.i .i64 0]⟩
 | 99=>some ⟨1,24,.slice 147,[.aO]⟩
 | 102=>some ⟨1,24,.slice 122,[.aO]⟩
 | 122=>some ⟨4,32,.struct [(0,3),(1,3),(2,3),(3,3)],[.i .i64 0,.i .i64 0,.i .i64 0,.i .i64 0]⟩
 | 127=>some ⟨1,24,.slice 130,[.aO]⟩
 | 130=>some ⟨5,40,.struct [(0,57),(4,3)],[.i .i64 0,.i .i64 0,.i .i64 0,.i .i64 0,.i .i64 0]⟩
 | 136=>some ⟨3,56,.struct [(0,31),(1,31),(2,3)],[.aO,.aO,.i .i64 0]⟩
 | 142=>some ⟨1,24,.slice 91,[.aO]⟩
 | 145=>some ⟨1,8,.other,[.u]⟩
 | 147=>some ⟨4,40,.struct [(0,9),(1,3),(2,4),(3,3)],[.s [],.i .i64 0,.ff,.i .i64 0]⟩
 | 150=>some ⟨1,8,.other,[.u]⟩
 | 151=>some ⟨1,24,.slice 155,[.aO]⟩
 | 155=>some ⟨2,16,.struct [(0,3),(1,3)],[.i .i64 0,.i .i64 0]⟩
 | 172=>some ⟨7,72,.struct [(0,9),(1,3),(2,3),(3,3),(4,3),(5,3),(6,9)],[.s [],.i .i64 0,.i .i64 0,.i .i64 0,.i .i64 0,.i .i64 0,.s []]⟩
 | 174=>some ⟨8,80,.struct [(0,3),(1,172)],[.i .i64 0,.s [],.i .i64 0,.i .i64 0,.i .i64 0,.i .i64 0,.i .i64 0,.s []]⟩
 | 178=>some ⟨1,24,.slice 3,[.aO]⟩
 | 179=>some ⟨1,8,.other,[.iT]⟩
 | 180=>some ⟨1,24,.slice 185,[.aO]⟩
 | 182=>some ⟨2,32,.struct [(0,180),(1,179)],[.aO,.iT]⟩
 | 185=>some ⟨2,16,.struct [(0,3),(1,3)],[.i .i64 0,.i .i64 0]⟩
 | 187=>some ⟨1,8,.other,[.iT]⟩
 | 189=>some ⟨0,0,.struct [],[]⟩
 | 191=>some ⟨2,32,.struct [(0,127),(1,187)],[.aO,.iT]⟩
 | 199=>some ⟨3,32,.struct [(0,3),(1,3),(2,9)],[.i .i64 0,.i .i64 0,.s []]⟩
 | 200=>some ⟨1,24,.slice 199,[.aO]⟩
 | 203=>some ⟨1,8,.ptr 27,[.iq]⟩
 | 205=>some ⟨9,176,.struct [(0,203),(1,47),(8,145)],[.iq,.s [],.aO,.aO,.aO,.aO,.aO,.aO,.u]⟩
 | 207=>some ⟨1,24,.slice 211,[.aO]⟩
 | 211=>some ⟨2,16,.struct [(0,3),(1,4)],[.i .i64 0,.ff]⟩
 | 214=>some ⟨1,8,.other,[.u]⟩
 | 217=>some ⟨1,8,.other,[.iT]⟩
 | 234=>some ⟨2,24,.struct [(0,9),(1,3)],[.s [],.i .i64 0]⟩
 | 235=>some ⟨1,8,.ptr 182,[.iq]⟩
 | 236=>some ⟨1,8,.ptr 191,[.iq]⟩
 | 241=>some ⟨1,16,.other,[.fG]⟩
 | 285=>some ⟨1,8,.int .u64,[.i .u64 0]⟩
 | 302=>some ⟨1,24,.slice 5,[.aO]⟩
 | 309=>some ⟨1,24,.slice 241,[.aO]⟩
 | 311=>some ⟨1,1,.struct [(0,4)],[.ff]⟩
 | 313=>some ⟨7,72,.struct [(0,172)],[.s [],.i .i64 0,.i .i64 0,.i .i64 0,.i .i64 0,.i .i64 0,.s []]⟩
 | 315=>some ⟨1,16,.struct [(0,241)],[.fG]⟩
 | 317=>some ⟨2,32,.struct [(0,241),(1,241)],[.fG,.fG]⟩
 | 319=>some ⟨2,32,.struct [(0,317)],[.fG,.fG]⟩
 | 320=>some ⟨2,32,.struct [(0,317)],[.fG,.fG]⟩
 | 351=>some ⟨4,4,.struct [(0,4),(1,4),(2,4),(3,4)],[.ff,.ff,.ff,.ff]⟩
 | 352=>some ⟨20,20,.array 5 351,[.ff,.ff,.ff,.ff,.ff,.ff,.ff,.ff,.ff,.ff,.ff,.ff,.ff,.ff,.ff,.ff,.ff,.ff,.ff,.ff]⟩
 | 375=>some ⟨4,32,.array 4 285,[.i .u64 0,.i .u64 0,.i .u64 0,.i .u64 0]⟩
 | 377=>some ⟨9,72,.struct [(0,3),(1,375),(5,375)],[.i .i64 0,.i .u64 0,.i .u64 0,.i .u64 0,.i .u64 0,.i .u64 0,.i .u64 0,.i .u64 0,.i .u64 0]⟩
 | 380=>some ⟨1,24,.slice 377,[.aO]⟩
 | 395=>some ⟨1,8,.ptr 375,[.iq]⟩
 | _=>none
theorem gd{P:Program}{t:TypeId}{ti:TI}(i:TypeInfo){z:Value}(h2:i.zero=some z)(k:match ti.kind with
    | .bool=>P.underlying t=some .bool
    | .int k=>P.underlying t=some (.int k)
    | .str=>P.underlying t=some .string
    | .slice e=>P.underlying t=some (.slice e)
    | .array n e=>P.underlying t=some (.array n e)
    | .struct fs=>∃ fa,P.underlying t=some (.struct fa)/\fa.toList.map (fun f=>(f.offset,f.type))=fs
    | .ptr e=>P.underlying t=some (.pointer e)
    | .wo e=>P.underlying t=some (.slice e)
    | .other=>True)(a:∀ w,(isAgg t).run P w = .ok ti.agg w)(h1:P.info? t=some i:=by kernel_rfl)(e1:i.size=ti.size:=by rfl)(e2:i.bytes=ti.bytes:=by rfl)(e3:z.cells.toList.map wM=ti.zero:=by rfl)(e4:z.cells.size=ti.size:=by rfl)(e5:∀ v ∈ z.cells.toList,v.oneCell'=true:=by simp[Value.cells,Value.oneCell'])(e6:t<BIG:=by decide):Vx.Good P t ti:=⟨⟨i,z,h1,e1,e2,h2,e3,e4,e5⟩,k,a,e6⟩
theorem tok:TOk Tryz.prog T:=by
 intro t ti h;unfold T at h;split at h
 . cases h;exact gd Tryz.t3 rfl Tryz.underlying3 Tryz.isAgg3
 . cases h;exact gd Tryz.t4 rfl Tryz.underlying4 Tryz.isAgg4
 . cases h;exact gd Tryz.t5 rfl Tryz.underlying5 Tryz.isAgg5
 . cases h;exact gd Tryz.t9 rfl Tryz.underlying9 Tryz.isAgg9
 . cases h;exact gd Tryz.t20 rfl trivial Tryz.isAgg20
 . cases h;exact gd Tryz.t22 rfl Tryz.underlying22 Tryz.isAgg22
 . cases h;exact gd Tryz.t23 rfl Tryz.underlying23 Tryz.isAgg23
 . cases h;exact gd Tryz.t24 rfl Tryz.underlying24 Tryz.isAgg24
 . cases h;exact gd Tryz.t25 rfl Tryz.underlying25 Tryz.isAgg25
 . cases h;exact gd Tryz.t27 rfl ⟨_,Tryz.underlying27,rfl⟩ Tryz.isAgg27
 . cases h;exact gd Tryz.t31 rfl Tryz.underlying31 Tryz.isAgg31
 . cases h;exact gd Tryz.t32 rfl Tryz.underlying32 Tryz.isAgg32
 . cases h;exact gd Tryz.t41 rfl ⟨_,Tryz.underlying41,rfl⟩ Tryz.isAgg41
 . cases h;exact gd Tryz.t42 rfl Tryz.underlying42 Tryz.isAgg42
 . cases h;exact gd Tryz.t43 rfl Tryz.underlying43 Tryz.isAgg43
 . cases h;exact gd Tryz.t44 rfl Tryz.underlying44 Tryz.isAgg44
 . cases h;exact gd Tryz.t45 rfl Tryz.underlying45 Tryz.isAgg45
 . cases h;exact gd Tryz.t47 rfl ⟨_,Tryz.underlying47,rfl⟩ Tryz.isAgg47
 . cases h;exact gd Tryz.t49 rfl ⟨_,Tryz.underlying49,rfl⟩ Tryz.isAgg49
 . cases h;exact gd Tryz.t55 rfl Tryz.underlying55 Tryz.isAgg55
 . cases h;exact gd Tryz.t57 rfl ⟨_,Tryz.underlying57,rfl⟩ Tryz.isAgg57
 . cases h;exact gd Tryz.t63 rfl Tryz.underlying63 Tryz.isAgg63
 . cases h;exact gd Tryz.t64 rfl Tryz.underlying64 Tryz.isAgg64
 . cases h;exact gd Tryz.t65 rfl Tryz.underlying65 Tryz.isAgg65
 . cases h;exact gd Tryz.t66 rfl Tryz.underlying66 Tryz.isAgg66
 . cases h;exact gd Tryz.t68 rfl ⟨_,Tryz.underlying68,rfl⟩ Tryz.isAgg68
 . cases h;exact gd Tryz.t72 rfl ⟨_,Tryz.underlying72,rfl⟩ Tryz.isAgg72
 . cases h;exact gd Tryz.t74 rfl Tryz.underlying74 Tryz.isAgg74
 . cases h;exact gd Tryz.t76 rfl ⟨_,Tryz.underlying76,rfl⟩ Tryz.isAgg76
 . cases h;exact gd Tryz.t82 rfl Tryz.underlying82 Tryz.isAgg82
 . cases h;exact gd Tryz.t84 rfl ⟨_,Tryz.underlying84,rfl⟩ Tryz.isAgg84
 . cases h;exact gd Tryz.t85 rfl Tryz.underlying85 Tryz.isAgg85
 . cases h;exact gd Tryz.t87 rfl ⟨_,Tryz.underlying87,rfl⟩ Tryz.isAgg87
 . cases h;exact gd Tryz.t89 rfl ⟨_,Tryz.underlying89,rfl⟩ Tryz.isAgg89
 . cases h;exact gd Tryz.t91 rfl trivial Tryz.isAgg91
 . cases h;exact gd Tryz.t93 rfl ⟨_,Tryz.underlying93,rfl⟩ Tryz.isAgg93
 . cases h;exact gd Tryz.t99 rfl Tryz.underlying99 Tryz.isAgg99
 . cases h;exact gd Tryz.t102 rfl Tryz.underlying102 Tryz.isAgg102
 . cases h;exact gd Tryz.t122 rfl ⟨_,Tryz.underlying122,rfl⟩ Tryz.isAgg122
 . cases h;exact gd Tryz.t127 rfl Tryz.underlying127 Tryz.isAgg127
 . cases h;exact gd Tryz.t130 rfl ⟨_,Tryz.underlying130,rfl⟩ Tryz.isAgg130
 . cases h;exact gd Tryz.t136 rfl ⟨_,Tryz.underlying136,rfl⟩ Tryz.isAgg136
 . cases h;exact gd Tryz.t142 rfl Tryz.underlying142 Tryz.isAgg142
 . cases h;exact gd Tryz.t145 rfl trivial Tryz.isAgg145
 . cases h;exact gd Tryz.t147 rfl ⟨_,Tryz.underlying147,rfl⟩ Tryz.isAgg147
 . cases h;exact gd Tryz.t150 rfl trivial Tryz.isAgg150
 . cases h;exact gd Tryz.t151 rfl Tryz.underlying151 Tryz.isAgg151
 . cases h;exact gd Tryz.t155 rfl ⟨_,Tryz.underlying155,rfl⟩ Tryz.isAgg155
 . cases h;exact gd Tryz.t172 rfl ⟨_,Tryz.underlying172,rfl⟩ Tryz.isAgg172
 . cases h;exact gd Tryz.t174 rfl ⟨_,Tryz.underlying174,rfl⟩ Tryz.isAgg174
 . cases h;exact gd Tryz.t178 rfl Tryz.underlying178 Tryz.isAgg178
 . cases h;exact gd Tryz.t179 rfl trivial Tryz.isAgg179
 . cases h;exact gd Tryz.t180 rfl Tryz.underlying180 Tryz.isAgg180
 . cases h;exact gd Tryz.t182 rfl ⟨_,Tryz.underlying182,rfl⟩ Tryz.isAgg182
 . cases h;exact gd Tryz.t185 rfl ⟨_,Tryz.underlying185,rfl⟩ Tryz.isAgg185
 . cases h;exact gd Tryz.t187 rfl trivial Tryz.isAgg187
 . cases h;exact gd Tryz.t189 rfl ⟨_,Tryz.underlying189,rfl⟩ Tryz.isAgg189
 . cases h;exact gd Tryz.t191 rfl ⟨_,Tryz.underlying191,rfl⟩ Tryz.isAgg191
 . cases h;exact gd Tryz.t199 rfl ⟨_,Tryz.underlying199,rfl⟩ Tryz.isAgg199
 . cases h;exact gd Tryz.t200 rfl Tryz.underlying200 Tryz.isAgg200
 . cases h;exact gd Tryz.t203 rfl Tryz.underlying203 Tryz.isAgg203
 . cases h;exact gd Tryz.t205 rfl ⟨_,Tryz.underlying205,rfl⟩ Tryz.isAgg205
 . cases h;exact gd Tryz.t207 rfl Tryz.underlying207 Tryz.isAgg207
 . cases h;exact gd Tryz.t211 rfl ⟨_,Tryz.underlying211,rfl⟩ Tryz.isAgg211
 . cases h;exact gd Tryz.t214 rfl trivial Tryz.isAgg214
 . cases h;exact gd Tryz.t217 rfl trivial Tryz.isAgg217
 . cases h;exact gd Tryz.t234 rfl ⟨_,Tryz.underlying234,rfl⟩ Tryz.isAgg234
 . cases h;exact gd Tryz.t235 rfl Tryz.underlying235 Tryz.isAgg235
 . cases h;exact gd Tryz.t236 rfl Tryz.underlying236 Tryz.isAgg236
 . cases h;exact gd Tryz.t241 rfl trivial Tryz.isAgg241
 . cases h;exact gd Tryz.t285 rfl Tryz.underlying285 Tryz.isAgg285
 . cases h;exact gd Tryz.t302 rfl Tryz.underlying302 Tryz.isAgg302
 . cases h;exact gd Tryz.t309 rfl Tryz.underlying309 Tryz.isAgg309
 . cases h;exact gd Tryz.t311 rfl ⟨_,Tryz.underlying311,rfl⟩ Tryz.isAgg311
 . cases h;exact gd Tryz.t313 rfl ⟨_,Tryz.underlying313,rfl⟩ Tryz.isAgg313
 . cases h;exact gd Tryz.t315 rfl ⟨_,Tryz.underlying315,rfl⟩ Tryz.isAgg315
 . cases h;exact gd Tryz.t317 rfl ⟨_,Tryz.underlying317,rfl⟩ Tryz.isAgg317
 . cases h;exact gd Tryz.t319 rfl ⟨_,Tryz.underlying319,rfl⟩ Tryz.isAgg319
 . cases h;exact gd Tryz.t320 rfl ⟨_,Tryz.underlying320,rfl⟩ Tryz.isAgg320
 . cases h;exact gd Tryz.t351 rfl ⟨_,Tryz.underlying351,rfl⟩ Tryz.isAgg351
 . cases h;exact gd Tryz.t352 rfl Tryz.underlying352 Tryz.isAgg352
 . cases h;exact gd Tryz.t375 rfl Tryz.underlying375 Tryz.isAgg375
 . cases h;exact gd Tryz.t377 rfl ⟨_,Tryz.underlying377,rfl⟩ Tryz.isAgg377
 . cases h;exact gd Tryz.t380 rfl Tryz.underlying380 Tryz.isAgg380
 . cases h;exact gd Tryz.t395 rfl Tryz.underlying395 Tryz.isAgg395
 . cases h
theorem follows:Tryz.prog.follows .mixedOrders=true:=kR
end Go.Proofs.YtnlingegeangmaaGreatDoor
namespace Go.Vx
open Go.RowKit
def nV(k kb:Nat):D->Bool
 | .own r _=>Nat.blt r k
 | .op r _ _ _=>Nat.blt r k
 | .bp i _=>Nat.blt i kb
 | .agg _=>false
 | .tup _=>false
 | .fnh ..=>false
 | .osl ..=>false
 | .tie r _ _ _=>Nat.blt r k
 | _=>true
def Bv(k kb:Nat):List D->Bool
 | []=>true
 | d :: r=>match nV k kb d with|true=>Bv k kb r|false=>false
def qp(k kb:Nat):D->Bool
 | .fnh _ x y=>Bv k kb x && Bv k kb y
 | d=>nV k kb d
def xA(k kb:Nat):List D->Bool
 | []=>true
 | d :: r=>match qp k kb d with|true=>xA k kb r|false=>false
def Ur(k kb:Nat):D->Bool
 | .agg cs=>xA k kb cs
 | .tup cs=>xA k kb cs
 | d=>qp k kb d
def rJ(k kb:Nat)(env:List (Nat × D)):List Nat->(List (Nat × D)->Prop)->Prop
 | [],K=>K []
 | t :: ts,K=>(look env t).force fun d=>jC (Ur k kb d) <| rJ k kb env ts fun r=>K ((t,d) :: r)
def xB(k kb:Nat):List (List D)->Bool
 | []=>true
 | c :: r=>match xA k kb c with|true=>xB k kb r|false=>false
def lF{α:Type}:Nat->List α->(List α->Prop)->Prop
 | 0,_,K=>K []
 | k+1,x :: l,K=>lF k l fun r=>K (x :: r)
 | _+1,[],K=>K []
theorem qM{α:Type}:∀ {k:Nat} {l:List α} {K:List α->Prop},lF k l K->K (l.take k)/\True
 | 0,l,K,h=>⟨by simpa[lF] using h,trivial⟩
 | k+1,[],K,h=>⟨h,trivial⟩
 | k+1,x :: l,K,h=>by
  obtain⟨h1,h2⟩:=qM (k:=k) (l:=l) h;exact⟨h1,trivial⟩
def dN(L:List Nat)(k kb:Nat)(s:St)(K:St->Prop):Prop:=
 match s with
 | ⟨env,box,row,n⟩=>rJ k kb env L fun env=>lF kb box fun box=>jC (xB k kb box) <| lF k row fun row=>K ⟨env,box,row,n⟩
section
variable {w0 w w' : World} {V0 : Fr} {V : Vw} {μ : List Nat} {ω : List Value} {box : List (List D)} {row : Rows} {s : St} {a : Act} {P : Program} {T : Tab} {sz : TypeId → Nat}
theorem Fe{a b:Nat}(h:Nat.blt a b=true):a<b:=by
 unfold Nat.blt at h;rw[Nat.ble_eq] at h;exact h
theorem RS.nV{k kb:Nat}{v:Value}{d:D}(h:RS sz V μ ω v d)(hf:nV k kb d=true):RS sz V (μ.take kb) (ω.take k) v d:=by
 cases h with
 | imm _ _ hi=>exact .imm _ _ hi
 | own r n A N c hq hn=>exact .own r n A N c (by rw[List.getElem?_take_of_lt (Fe hf)];exact hq) hn
 | op r e j off g N c hq=>exact .op r e j off g N c (by rw[List.getElem?_take_of_lt (Fe hf)];exact hq)
 | bp i off g hg=>exact .bp i off g (by rw[List.getElem?_take_of_lt (Fe hf)];exact hg)
 | agg cs=>simp[Vx.nV] at hf
 | tup cs=>simp[Vx.nV] at hf
 | fnh=>simp[Vx.nV] at hf
 | osl=>simp[Vx.nV] at hf
 | tie v r g n c hq=>exact .tie v r g n c (by rw[List.getElem?_take_of_lt (Fe hf)];exact hq)
theorem IK{k kb:Nat}:∀ {l:List D},Bv k kb l=true->∀ (j:Nat) d,l[j]? = some d->nV k kb d=true
 | [],_,j,d,h=>by simp at h
 | c :: l,hf,j,d,h=>by
  simp only[Bv] at hf;split at hf
  case h_2=>cases hf
  rename_i hc
  cases j with
  | zero=>simp at h;subst h;exact hc
  | succ j=>exact IK hf j d (by simpa using h)
theorem RS.qp{k kb:Nat}{v:Value}{d:D}(h:RS sz V μ ω v d)(hf:qp k kb d=true):RS sz V (μ.take kb) (ω.take k) v d:=by
 by_cases hd:∃ f x y,d = .fnh f x y
 . obtain⟨f,x,y,rfl⟩:=hd
   cases h with
   | imm _ _ hi=>cases hi
   | fnh _ _ _ vs us h1 h2 hR1 hR2=>
    simp only[Vx.qp,Bool.and_eq_true] at hf;exact .fnh f x y vs us h1 h2 (fun j v d a b=>(hR1 j v d a b).nV (IK hf.1 j d b)) (fun j v d a b=>(hR2 j v d a b).nV (IK hf.2 j d b))
 . refine h.nV ?_
   cases d<;>first|exact hf|exact absurd ⟨_,_,_,rfl⟩ hd
theorem Ey{k kb:Nat}:∀ {l:List D},xA k kb l=true->∀ (j:Nat) d,l[j]? = some d->qp k kb d=true
 | [],_,j,d,h=>by simp at h
 | c :: l,hf,j,d,h=>by
  simp only[xA] at hf;split at hf
  . rename_i hc
    cases j with
    | zero=>simp at h;subst h;exact hc
    | succ j=>exact Ey hf j d (by simpa using h)
  . cases hf
theorem RS.fit{k kb:Nat}{v:Value}{d:D}(h:RS sz V μ ω v d)(hf:Ur k kb d=true):RS sz V (μ.take kb) (ω.take k) v d:=by
 cases d with
 | agg cs=>
  obtain⟨vs,rfl,hs,ho,hR⟩:=h.jU;exact .agg _ vs hs ho fun j v d h1 h2=>(hR j v d h1 h2).qp (Ey hf j d h2)
 | tup cs=>
  obtain⟨vs,rfl,hs,hR⟩:=h.xk;exact .tup _ vs hs fun j v d h1 h2=>(hR j v d h1 h2).qp (Ey hf j d h2)
 | _=>exact h.qp hf
theorem Rh{k kb:Nat}:∀ {l:List (List D)},xB k kb l=true->∀ (j:Nat) c,l[j]? = some c->xA k kb c=true
 | [],_,j,d,h=>by simp at h
 | c :: l,hf,j,d,h=>by
  simp only[xB] at hf;split at hf
  . rename_i hc
    cases j with
    | zero=>simp at h;subst h;exact hc
    | succ j=>exact Rh hf j d (by simpa using h)
  . cases hf
theorem jy{α:Type}{l:List α}{k i:Nat}{x:α}(h:(l.take k)[i]? = some x):l[i]? = some x:=by
 rw[List.getElem?_take] at h;split at h
 . exact h
 . cases h
theorem Mem.take(h:Mem sz w0 V0 V μ ω box row w){k kb:Nat}(hf:xB k kb (box.take kb)=true):Mem sz w0 V0 V (μ.take kb) (ω.take k) (box.take kb) (row.take k) w:=by
 have own:∀ l g,Own (μ.take kb) (ω.take k) (row.take k) l g->Own μ ω row l g:=by
  intro l g hl
  cases l with
  | inl i=>exact jy hl
  | inr r=>
   obtain⟨v,x,h1,h2,h3⟩:=hl;exact⟨v,x,jy h1,jy h2,h3⟩
 refine⟨h.below,h.vok,h.vle,h.gu,by simp[h.bl],?_,by simp[h.rl],?_,fun l l' g h1 h2=>h.uniq l l' g (own l g h1) (own l' g h2),fun l g h1=>h.new l g (own l g h1),fun p u l hp h1=>h.eF p u l hp (own l _ h1),fun x hx=>let ⟨a,b,c,d⟩:=h.away x hx;⟨a,b,fun l hl=>c l (own l _ hl),d⟩⟩
 . intro i g cs h1 h2
   obtain⟨us,t',a,b,c',d,ty⟩:=h.hbox i g cs (jy h1) (jy h2);exact⟨us,t',a,b,c',fun j v d' e1 e2=>(d j v d' e1 e2).qp (Ey (Rh hf i cs h2) j d' e2),ty⟩
 . intro r v e xs h1 h2
   exact h.hrow r v e xs (jy h1) (jy h2)
theorem G8{k kb:Nat}(hE:∀ t,RS sz V μ ω (fB V0 s.n a t) (look s.env t)):∀ (L:List Nat) (K:List (Nat × D)->Prop),rJ k kb s.env L K ->
    ∃ env,K env/\∀ t,RS sz V (μ.take kb) (ω.take k) (fB V0 s.n a t) (look env t)
 | [],K,h=>⟨[],h,fun _=>.imm _ _ (.u _)⟩
 | t :: ts,K,h=>by
  simp only[rJ,D.force_eq,jv] at h;obtain⟨hf,h⟩:=h;obtain⟨env,hk,hR⟩:=G8 hE ts _ h;refine⟨_,hk,fun x=>?_⟩;unfold look;split
  . rename_i hb
    rw[<- dO hb];exact (hE t).fit hf
  . exact hR x
theorem og{L:List Nat}{k kb:Nat}{K:St->Prop}(hS:Sim sz w0 V0 V μ ω s a w)(h:dN L k kb s K):∃ s' μ' ω',K s'/\Sim sz w0 V0 V μ' ω' s' a w:=by
 obtain⟨env,box,row,n⟩:=s;simp only[dN] at h;obtain⟨env',h,hR⟩:=G8 (s:=⟨env,box,row,n⟩) hS.env L _ h;obtain⟨h,_⟩:=qM h;rw[jv] at h;obtain⟨hf,h⟩:=h;obtain⟨h,_⟩:=qM h;exact⟨_,_,_,h,⟨hS.tmps,hS.defers,hR,hS.mem.take hf⟩⟩
theorem Ok.keep{c:Code}{Q:Exit->St->Prop}(L:List Nat)(k kb:Nat)(h:dN L k kb s (Ok P T c Q)):Ok P T c Q s:=by
 refine⟨fun w0 V0 V μ ω a w hS=>?_⟩;obtain⟨s',μ',ω',hk,hS'⟩:=og hS h;exact hk.run w0 V0 V μ' ω' a w hS'
theorem Ok.oJ{c:Code}{Q:Exit->St->Prop}{ι:Type}(L:List Nat)(k kb:Nat)(mk:ι->St)(I:ι->Prop)(m:ι->Nat)(x0:ι)(h0:I x0)(hs:dN L k kb s (·=mk x0))
    (round:∀ x,I x->Ok P T c (Bg (fun s'=>∃ x',m x' < m x/\I x'/\dN L k kb s' (·=mk x')) Q) (mk x)):Ok P T (.loop c) Q s:=by
 refine⟨fun w0 V0 V μ ω a w hS=>?_⟩;obtain⟨s',μ',ω',rfl,hS'⟩:=og hS hs;refine Ht (fun n a w=>∃ x V μ ω,m x=n/\I x/\Sim (ah T) w0 V0 V μ ω (mk x) a w) ?_ ⟨x0,V,μ',ω',rfl,h0,hS'⟩;rintro n a w ⟨x,V,μ,ω,rfl,hI,hS⟩;refine wp_mono ((round x hI).run w0 V0 V μ ω a w hS) ?_;rintro e a' w' ⟨s',V',μ',ω',hk,hS'⟩
 cases e with
 | normal=>
  obtain⟨x',hlt,hI',hk⟩:=hk;obtain⟨s2,μ2,ω2,rfl,hS2⟩:=og hS' hk;exact⟨m x',hlt,x',V',μ2,ω2,rfl,hI',hS2⟩
 | _=>exact⟨s',V',μ',ω',hk,hS'⟩
theorem Ok.fC{c:Code}{Q:Exit->St->Prop}{ι:Type}(L:List Nat)(k kb:Nat)(mk:ι->St)(I:Exit->ι->Prop)
    (h1:Ok P T c (fun e s'=>∃ x,I e x/\dN L k kb s' (·=mk x)) s)(h2:∀ e x,I e x->Q e (mk x)):Ok P T c Q s:=by
 refine⟨fun w0 V0 V μ ω a w hS=>wp_mono (h1.run w0 V0 V μ ω a w hS) ?_⟩;rintro e a' w' ⟨s',V',μ',ω',⟨x,hI,hk⟩,hS'⟩;obtain⟨s2,μ2,ω2,rfl,hS2⟩:=og hS' hk;exact⟨_,V',μ2,ω2,h2 e x hI,hS2⟩
theorem Ok.uK{c1 c2:Code}{Q:Exit->St->Prop}{ι:Type}(L:List Nat)(k kb:Nat)(mk:ι->St)(I:ι->Prop)
    (h1:Ok P T c1 (Bg (fun s'=>∃ x,I x/\dN L k kb s' (·=mk x)) Q) s)(h2:∀ x,I x->Ok P T c2 Q (mk x)):Ok P T (.seq c1 c2) Q s:=by
 refine Ok.seq (h1.mono ?_);intro e s' h
 cases e with
 | normal=>
  obtain⟨x,hI,hk⟩:=h;refine Ok.keep L k kb ?_;have:∀ s'',s''=mk x->Ok P T c2 Q s'':=fun s'' e=>by rw[e];exact h2 x hI
  revert hk
  clear h1 h2;obtain⟨env,box,row,n⟩:=s';simp only[dN];intro hk
  revert hk
  generalize hK1:(fun env=>lF kb box fun box=>jC (xB k kb box) <| lF k row fun row=>(⟨env,box,row,n⟩:St)=mk x)=K1;generalize hK2:(fun env=>lF kb box fun box=>jC (xB k kb box) <| lF k row fun row=>Ok P T c2 Q ⟨env,box,row,n⟩)=K2;have hmono:∀ e,K1 e->K2 e:=by
   subst hK1 hK2;intro e h;obtain⟨h,hb⟩:=qM h;rw[jv] at h;obtain⟨hf,h⟩:=h;obtain⟨h,hr⟩:=qM h;have t2:lF k row fun row=>Ok P T c2 Q ⟨e,box.take kb,row,n⟩:=by
    have back:∀ (k:Nat) (l:Rows) (K:Rows->Prop),True->K (l.take k)->lF k l K:=by
     intro k
     induction k with
     | zero=>intro l K _ h;simpa[lF] using h
     | succ k ih=>
      intro l K hl h
      cases l with
      | nil=>exact h
      | cons y l=>exact ih l _ trivial h
    exact back k row _ hr (this _ h)
   have back:∀ (k:Nat) (l:List (List D)) (K:List (List D)->Prop),True->K (l.take k)->lF k l K:=by
    intro k
    induction k with
    | zero=>intro l K _ h;simpa[lF] using h
    | succ k ih=>
     intro l K hl h
     cases l with
     | nil=>exact h
     | cons y l=>exact ih l _ trivial h
   exact back kb box _ hb (jv.2 ⟨hf,t2⟩)
  clear hK1 hK2 this;have key:∀ (L:List Nat) (K1 K2:List (Nat × D)->Prop),(∀ e,K1 e->K2 e)->rJ k kb env L K1->rJ k kb env L K2:=by
   intro L
   induction L with
   | nil=>intro K1 K2 h hk;exact h _ hk
   | cons t ts ih=>
    intro K1 K2 h hk;simp only[rJ,D.force_eq,jv] at hk ⊢;exact⟨hk.1,ih _ _ (fun e he=>h _ he) hk.2⟩
  exact key L K1 K2 hmono
 | _=>exact h
theorem Ok.ghost{c:Code}{Q:Exit->St->Prop}(t:Nat)(e:TypeId){env:List (Nat × D)}{box:List (List D)}{row:Rows}{n:Nat}(ht:look env t = .aO)
    (h:gZ row (some (e,[])) fun row'=>natLit row.length fun r=>Ok P T c Q ⟨(t,.own r 0) :: env,box,row',n⟩):Ok P T c Q ⟨env,box,row,n⟩:=by
 refine⟨fun w0 V0 V μ ω a w hS=>?_⟩;simp only[kY,kW] at h;have hM:=hS.mem.newRow (w':=w) (Ext.refl w) (v:=.slice none 0 0) (e:=e) (xs:=[]) (vals:=[]) ⟨sI,.inl ⟨rfl,rfl⟩⟩ ⟨sI,sI,sI⟩ (by simp[Value.ownBlock]);have hv:=hS.env t;dsimp only at hv;rw[ht] at hv;refine h.run w0 V0 V μ (ω++[.slice none 0 0]) a w ⟨hS.tmps,hS.defers,fun x=>?_,hM⟩;show RS _ _ _ _ _ (look ((t,.own row.length 0) :: env) x);unfold look;split
 . rename_i hb
   rw[<- dO hb,hv.iY];have hl:row.length=ω.length:=hS.mem.rl.symm;refine .own _ 0 none 0 0 ?_ (Nat.le_refl _);rw[hl,List.getElem?_append_right (Nat.le_refl _)];simp
 . exact (hS.env x).mono (.refl V) (.refl μ) (.append _ _)
theorem Ok.oG{c:Code}{Q:Exit->St->Prop}(i j:Nat)(e:TypeId){env:List (Nat × D)}{box:List (List D)}{cs:List D}{row:Rows}{n:Nat}(hi:box[i]? = some cs)(hj:cs[j]? = some .aO)
    (h:gZ row (some (e,[])) fun row'=>natLit row.length fun r=>fH cs j (.own r 0) fun cs'=>fH box i cs' fun eU=>Ok P T c Q ⟨env,eU,row',n⟩):Ok P T c Q ⟨env,box,row,n⟩:=by
 refine⟨fun w0 V0 V μ ω a w hS=>?_⟩;simp only[kY,kW] at h;obtain⟨hjl,h⟩:=gW _ _ _ _ h;obtain⟨hil,h⟩:=gW _ _ _ _ h;have hM:=hS.mem.newRow (w':=w) (Ext.refl w) (v:=.slice none 0 0) (e:=e) (xs:=[]) (vals:=[]) ⟨sI,.inl ⟨rfl,rfl⟩⟩ ⟨sI,sI,sI⟩ (by simp[Value.ownBlock]);have hl:row.length=ω.length:=hS.mem.rl.symm;have hown:RS (ah T) V μ (ω++[.slice none 0 0]) (.slice none 0 0) (.own row.length 0):=by
  refine .own _ 0 none 0 0 ?_ (Nat.le_refl _);rw[hl,List.getElem?_append_right (Nat.le_refl _)];simp
 refine h.run w0 V0 V μ (ω++[.slice none 0 0]) a w ⟨hS.tmps,hS.defers,fun x=>(hS.env x).mono (.refl V) (.refl μ) (.append _ _),?_⟩;refine⟨hM.below,hM.vok,hM.vle,hM.gu,by simpa using hM.bl,?_,hM.rl,hM.hrow,hM.uniq,hM.new,hM.eF,hM.away⟩;intro q g cs2 h1 h2;by_cases hq:q=i
 . subst hq
   rw[List.getElem?_set_self hil] at h2;cases h2;obtain⟨us,t',a1,b,c',d,ty⟩:=hM.hbox q g cs h1 hi;refine⟨us,t',a1,by simpa using b,c',fun k v d' e1 e2=>?_,Ej ty j rfl⟩;by_cases hk:k=j
   . subst hk
     rw[List.getElem?_set_self hjl] at e2;cases e2;have:=d k v _ e1 hj;rw[this.iY];exact hown
   . rw[List.getElem?_set_ne (Ne.symm hk)] at e2
     exact d k v d' e1 e2
 . rw[List.getElem?_set_ne (Ne.symm hq)] at h2
   exact hM.hbox q g cs2 h1 h2
def SN(box:List (List D))(i j:Nat)(d:D)(K:List (List D)->Prop):Prop:=match box[i]? with|some cs=>fH cs j d fun cs=>fH box i cs K|none=>False
theorem Ok.trunc{c:Code}{Q:Exit->St->Prop}(i j r:Nat){m:Nat}{e:TypeId}{xs:List (List D)}{env:List (Nat × D)}{box:List (List D)}{cs:List D}{row:Rows}{n:Nat}(hi:box[i]? = some cs)(hj:cs[j]? = some (.own r m))
    (hr:row[r]? = some (some (e,xs)))(ys:List (List D))(hy:ys=xs.take m)
    (h:nS r (fun _=>.u) env fun env=>nT r (fun _=>.u) box fun box=>SN box i j (.own r m) fun box=>fH row r (some (e,ys)) fun row=>Ok P T c Q ⟨env,box,row,n⟩):Ok P T c Q ⟨env,box,row,n⟩:=by
 refine⟨fun w0 V0 V μ ω a w hS=>?_⟩;subst hy;simp only[tX,tY,SN] at h;split at h
 case h_2=>exact h.elim
 rename_i cs1 hcs1;simp only[aN,Option.map_eq_some_iff] at hcs1;obtain⟨cs0,hcs0,rfl⟩:=hcs1;rw[hi] at hcs0;cases hcs0;obtain⟨hjl,h⟩:=gW _ _ _ _ h;obtain⟨hil,h⟩:=gW _ _ _ _ h;obtain⟨hrl,h⟩:=gW _ _ _ _ h;have hM0:=hS.mem;have ac8:i<box.length:=(aK.1 hi).1;obtain⟨g0,hg0⟩:∃ g,μ[i]? = some g:=⟨_,aC (by have:=hM0.bl;dsimp only at this;omega)⟩;obtain⟨us,t',_,hus,_,hrel,_⟩:=hM0.hbox i g0 cs hg0 hi;have acr:j<us.size:=by rw[hus];exact (aK.1 hj).1
 have hcell:=hrel j _ _ (Array.getElem?_eq_getElem acr) hj;obtain⟨A,N,cap,hω,hmN,_⟩:=hcell.jd;obtain⟨A2,c2,vals,e1,hc,hmx,hA,hA2,hown,hR⟩:=hM0.qL hω hr;cases e1;have hset:∀ q v,q ≠ r->ω[q]? = some v->(ω.set r (.slice A m cap))[q]? = some v:=fun q v hq h=>by rw[List.getElem?_set_ne (Ne.symm hq)];exact h
 have lD:∀ m' v,RS (ah T) V μ ω v (.own r m')->RS (ah T) V μ (ω.set r (.slice A m cap)) v .u:=fun _ v _=>.imm _ _ (.u v)
 have hrω:r<ω.length:=(aK.1 hω).1;have htl:(xs.take m).length=m:=by rw[List.length_take];omega
 have hvl:vals.length=xs.length*ah T e:=hown.1;have hms:m*ah T e<=xs.length*ah T e:=Nat.mul_le_mul_right _ hmN;have hM:=hM0.Jl (w':=w) (v':=.slice A m cap) (e:=e) (ys:=xs.take m) (vals:=vals.take (m*ah T e)) hω hr ⟨rfl,rfl,rfl,Nat.le_refl _,fun _ _ _=>rfl⟩
  (by
   refine⟨by rw[List.length_take,htl,hvl];omega,?_⟩;rcases hown.2 with⟨hv,h0⟩|⟨g,cp,cur,e',fz,hv,hb,hg,h5,h6,h7,h8,h9⟩
   . injection hv with hv1 hv2 hv3
     subst hv1 hv3;exact .inl ⟨by congr 1;omega,by rw[htl];omega⟩
   . injection hv with hv1 hv2 hv3
     subst hv1 hv3;refine .inr ⟨g,cap,cur,e',fz,by rw[htl],hb,hg,by rw[htl];omega,h6,h7,?_,h9⟩;rw[htl,<- h8,List.take_take,Nat.min_eq_left hms])
  (by
   refine⟨fun u hu=>hR.one u (List.mem_of_mem_take hu),fun k rw_ hk=>?_,fun k rw_ q d h1 h2=>?_⟩
   . rw[List.getElem?_take] at hk
     split at hk
     . exact hR.len k rw_ hk
     . cases hk
   . rw[List.getElem?_take] at h1
     split at h1
     case isFalse=>cases h1
     rename_i hk;obtain⟨u,hu,hrs⟩:=hR.rel k rw_ q d h1 h2;refine⟨u,?_,hrs⟩;have hq:q<ah T e:=by rw[<- hR.len k rw_ h1];exact (aK.1 h2).1
     rw[List.getElem?_take,if_pos]
     . exact hu
     . have:(k+1)*ah T e<=m*ah T e:=Nat.mul_le_mul_right _ hk
       rw[Nat.add_mul] at this;omega)
  (.inl (by cases A<;>rfl)) (eU:=(box.map fun c=>c.map (gq r fun _=>.u)).set i ((cs.map (gq r fun _=>.u)).set j (.own r m))) sI (by
   intro q cs1 cs2 h1 h2;have gen:∀ (k:Nat) u d d',cs1[k]? = some d->(cs1.map (gq r fun _=>.u))[k]? = some d'->RS (ah T) V μ ω u d->RS (ah T) V μ (ω.set r (.slice A m cap)) u d':=by
    intro k u d d' e1 e2 hrs;simp only[aN,Option.map_eq_some_iff] at e2;obtain⟨d0,hd0,rfl⟩:=e2;rw[e1] at hd0;cases hd0;exact hrs.lN (.refl V) hset lD
   by_cases hq:q=i
   . subst hq
     rw[List.getElem?_set_self hil] at h2;dsimp only at h1;rw[hi] at h1;cases h1;cases h2;refine⟨sI,fun k u d d' e1 e2 hrs=>?_⟩;by_cases hk:k=j
     . subst hk
       rw[List.getElem?_set_self hjl] at e2;cases e2;rw[hj] at e1;cases e1;obtain⟨A',N',c',ho,_,rfl⟩:=hrs.jd;rw[hω] at ho;cases ho;exact .own r m A m cap (List.getElem?_set_self hrω) (Nat.le_refl _)
     . rw[List.getElem?_set_ne (Ne.symm hk)] at e2
       exact gen k u d d' e1 e2 hrs
   . rw[List.getElem?_set_ne (Ne.symm hq)] at h2
     simp only[aN,Option.map_eq_some_iff] at h2;obtain⟨c0,hc0,rfl⟩:=h2;dsimp only at h1;rw[h1] at hc0;cases hc0;exact⟨sI,gen⟩) (by
   intro q cs1 cs2 h1 h2 t hty;by_cases hq:q=i
   . subst hq
     rw[List.getElem?_set_self hil] at h2;dsimp only at h1;rw[hi] at h1;cases h1;cases h2;exact Ej (tV (fun _=>rfl) hty) j rfl
   . rw[List.getElem?_set_ne (Ne.symm hq)] at h2
     simp only[aN,Option.map_eq_some_iff] at h2;obtain⟨c0,hc0,rfl⟩:=h2;dsimp only at h1;rw[h1] at hc0;cases hc0;exact tV (fun _=>rfl) hty)
 refine h.run w0 V0 V μ (ω.set r (.slice A m cap)) a w ⟨hS.tmps,hS.defers,fun t=>?_,hM⟩;show RS _ _ _ _ _ (look (env.map fun x=>(x.1,jM r (fun _=>.u) x.2)) t);rw[tq];exact (hS.env t).sub (.refl V) hset lD
theorem abd{x:Int}{p:Int->Prop}(h1:-9223372036854775808<=x)(h2:x<=9223372036854775807)(h:p x):∃ n,n=IntKind.i64.wrap x/\p n:=
 ⟨x,by rw[IntKind.wrap_i64];omega,h⟩
theorem nI {x : Int} {p : Int → Prop} (h : p x) (h1 : -9223372036854775808 ≤ x := by omega) (h2 : x ≤ 9223372036854775807 := by omega) : ∃ n, n = IntKind.i64.wrap x ∧ p n := abd h1 h2 h
theorem jh{x:Int}{p:Int->Prop}(h:p x):∃ n,n=x/\p n:=⟨x,rfl,h⟩
theorem qw{p q:Prop}(h:p ↔ q):D.b p=D.b q:=congrArg D.b (propext h)
end
end Go.Vx
namespace Go.Vx
open Go.RowKit
inductive Bef(ops:Array Oper)(i:Nat):Nat->Prop
 | one {j:Nat} {o:Oper} {e:Edge} (h:ops[j]? = some o) (he:e ∈ o.after) (hb:Region.binds .any e=true) (hi:e.on=i):Bef ops i j
 | more {j:Nat} {o:Oper} {e:Edge} (h:ops[j]? = some o) (he:e ∈ o.after) (hb:Region.binds .any e=true) (h2:Bef ops i e.on):Bef ops i j
def Closed(ops:Array Oper)(L:Array Bool):Prop:=∀ (j:Nat) o,ops[j]? = some o->L.getD j false=true->∀ e ∈ o.after,Region.binds .any e=true->L.getD e.on false=true
theorem Bef.listed{ops:Array Oper}{L:Array Bool}(hc:Closed ops L){i j:Nat}(hb:Bef ops i j) :
    (∀ o,ops[j]? = some o->∀ e ∈ o.after,Region.binds .any e=true->L.getD e.on false=true)->L.getD i false=true:=by
 induction hb with
 | one h he hb hi=>intro hj;rw[<- hi];exact hj _ h _ he hb
 | more h he hb h2 ih=>intro hj;exact ih fun o' ho' e' he' hb'=>hc _ o' ho' (hj _ h _ he hb) e' he' hb'
abbrev oK:=List (Nat × (World->Prop))
section
variable {P : Program} {ops : Array Oper} {bef : Nat → Nat → Bool} {Q : Exit → Act → World → Prop}
def mD(P:Program)(ops:Array Oper)(bef:Nat->Nat->Bool)(Q:Exit->Act->World->Prop):Nat->oK->Array Bool->Act->World->Prop
 | 0,_,listed,a,w=>Region.ready .any ops listed=[]/\Q .normal a w
 | fuel+1,ps,listed,a,w=>
  (Region.ready .any ops listed=[]->Q .normal a w) /\
  ∀ j ∈ Region.ready .any ops listed,wpOp P ops Q j (fun a' w'=>(∀ x ∈ ps,bef x.1 j=false->x.2 w')/\mD P ops bef Q fuel (ps.filter fun x=>!bef x.1 j) (listed.setIfInBounds j true) a' w') a w
theorem Dq:∀ (fuel:Nat) (ps:oK) (listed:Array Bool) (a:Act) (w:World),mD P ops bef Q fuel ps listed a w->wpAny P .any ops Q fuel listed a w
 | 0,_,_,_,_,h=>h
 | fuel+1,_,_,_,_,h=>⟨h.1,fun i hi=>wpOp_mono (fun a' w' h'=>Dq fuel _ _ a' w' h'.2) (h.2 i hi)⟩
theorem NC:∀ (fuel:Nat) (ps ps':oK) (listed:Array Bool) (a:Act) (w:World),(∀ x ∈ ps',x ∈ ps)->mD P ops bef Q fuel ps listed a w->mD P ops bef Q fuel ps' listed a w
 | 0,_,_,_,_,_,_,h=>h
 | fuel+1,ps,ps',_,_,_,hs,h=>⟨h.1,fun i hi=>wpOp_mono (fun a' w' h'=>⟨fun x hx=>h'.1 x (hs x hx),NC fuel _ _ _ a' w' (fun x hx=>by
     rw[List.mem_filter] at hx ⊢;exact⟨hs x hx.1,hx.2⟩) h'.2⟩) (h.2 i hi)⟩
theorem Closed.set{L:Array Bool}(h:Closed ops L){j:Nat}(hj:j ∈ Region.ready .any ops L):Closed ops (L.setIfInBounds j true):=by
 obtain⟨_,o,ho,hall⟩:=mem_ready.1 hj;intro k ok hk hl e he hb;by_cases hkj:k=j
 . subst hkj
   rw[ho] at hk;cases hk;exact getD_set_true (hall e he hb)
 . rw[getD_set_ne false (Ne.symm hkj)] at hl
   exact getD_set_true (h k ok hk hl e he hb)
theorem xX{i:Nat}{oi:Oper}{v:Value}{C:World->Prop}(hbef:∀ i j,bef i j=true->Bef ops i j)(hi:ops[i]? = some oi)(hsel:∀ (j:Nat) (o:Oper) cs b,ops[j]? = some o->o.op ≠ .select cs b)
    (hQ:∀ c a w,Q (.panic c) (a.put oi.dst v) w->Q (.panic c) a w) :
    ∀ (fuel:Nat) (ps:oK) (listed:Array Bool) (a:Act) (w:World),Closed ops listed ->
     (∀ j oj,ops[j]? = some oj->j ≠ i->listed.getD j true=false->(∀ e ∈ oj.after,Region.binds .any e=true->e.on ≠ i)->oi.apart ops oj=true) ->
     i ∈ Region.ready .any ops listed->YieldsIf P ops C oi v a->C w->(∀ x ∈ ps,x.2 w) ->
     mD P ops bef Q fuel ((i,C) :: ps) (listed.setIfInBounds i true) (a.put oi.dst v) w->mD P ops bef Q (fuel+1) ps listed a w:=by
 intro fuel
 induction fuel with
 | zero=>
  intro ps listed a w _ _ hr hy hC hps H;refine⟨fun h=>(by rw[h] at hr;cases hr),fun j hj=>?_⟩;by_cases hji:j=i
  . subst hji;exact hy.wpOp hi hC ⟨fun x hx _=>hps x hx,H⟩
  . have:=ready_mono hj hji
    rw[H.1] at this;cases this
 | succ fuel ih=>
  intro ps listed a w hcl hfree hr hy hC hps H;refine⟨fun h=>(by rw[h] at hr;cases hr),fun j hj=>?_⟩;by_cases hji:j=i
  . subst hji
    exact hy.wpOp hi hC ⟨fun x hx _=>hps x hx,NC _ _ _ _ _ _ (fun x hx=>List.mem_cons_of_mem _ (List.mem_filter.1 hx).1) H⟩
  . have h1:=H.2 j (ready_mono hj hji)
    obtain⟨hjun,oj,hoj,hall⟩:=mem_ready.1 hj;have Us:listed.getD i false ≠ true:=by
     have h0:=(mem_ready.1 hr).1;intro h1;rcases Nat.lt_or_ge i listed.size with h'|h'
     . simp[h'] at h0 h1;rw[h0] at h1;cases h1
     . simp[Array.getElem?_eq_none h'] at h1
    have hnot:∀ e ∈ oj.after,Region.binds .any e=true->e.on ≠ i:=fun e he hb heq=>Us (by rw[<- heq];exact hall e he hb)
    have Ut:bef i j=false:=by
     cases hb:bef i j with
     | false=>rfl
     | true=>exact absurd ((hbef i j hb).listed hcl fun o ho e he hb=>by rw[hoj] at ho;cases ho;exact hall e he hb) Us
    have h2:=wpOp_putIf hoj (hfree j oj hoj hji hjun hnot) (fun cs b=>hsel i oi cs b hi) (fun cs b=>hsel j oj cs b hoj) hQ hy h1;have hfree':∀ k ok,ops[k]? = some ok->k ≠ i->(listed.setIfInBounds j true).getD k true=false ->
        (∀ e ∈ ok.after,Region.binds .any e=true->e.on ≠ i)->oi.apart ops ok=true:=fun k ok hk hki hun hno=>by
     refine hfree k ok hk hki ?_ hno;by_cases hjk:j=k
     . subst hjk;exact hjun
     . rw[getD_set_ne true hjk] at hun;exact hun
    refine wpOp_mono (fun a' w' h3=>?_) h2;obtain⟨hy',hK1,hK2⟩:=h3;refine⟨fun x hx=>hK1 x (List.mem_cons_of_mem _ hx),ih _ _ a' w' (hcl.set hj) hfree' (ready_mono hr (Ne.symm hji)) hy' (hK1 (i,C) (List.mem_cons_self ..) Ut) (fun x hx=>?_) ?_⟩
    . obtain⟨hx1,hx2⟩:=List.mem_filter.1 hx
      exact hK1 x (List.mem_cons_of_mem _ hx1) (by simpa using hx2)
    . rw[Array.setIfInBounds_comm _ _ hji]
      rw[List.filter_cons_of_pos (by simp[Ut])] at hK2;exact hK2
end
inductive Mv where|q (i:Nat)|l (i:Nat)
def isQ(o:Oper):Bool:=match o.op with
 | .call { callee:=.builtin .len,args:=_,argTypes:=_ }=>true
 | .move _|.assign _|.pick _ _ _|.load _ _|.nilCheck _|.binOp _ _ _ _ _|.unOp _ _ _|.convert _ _ _|.slice _ _ _ _ _|.fieldAddr _ _ _|.field _ _ _|.indexAddr _ _ _|.index _ _ _|.extract _ _|.build _ _|.makeFunc _ _ _=>true
 | _=>false
def wR(ops:Array Oper):List Mv->Array Bool->Bool
 | [],listed=>(Region.ready .any ops listed).isEmpty
 | .q i :: r,listed=>(Region.ready .any ops listed).contains i && Region.free .any ops listed i && ((ops[i]?).map isQ).getD false && wR ops r (listed.setIfInBounds i true)
 | .l i :: r,listed=>(Region.ready .any ops listed) == [i] && wR ops r (listed.setIfInBounds i true)
abbrev Waits:=List (Nat × Nat × List Nat)
def FK(ops:Array Oper)(j i:Nat):Bool:=match ops[j]? with|some o=>o.after.any fun e=>Region.binds .any e && e.on == i|none=>false
def FM(ops:Array Oper)(i:Nat):Nat->List Nat->Bool
 | j,[]=>FK ops j i
 | j,k :: r=>FK ops j k && FM ops i k r
def wC(ops:Array Oper)(A:Waits):Bool:=A.all fun x=>FM ops x.1 x.2.1 x.2.2
def dW:Waits->Nat->Nat->Bool
 | [],_,_=>false
 | (a,b,_) :: r,i,j=>match Nat.beq a i && Nat.beq b j with|true=>true|false=>dW r i j
def SQ(ops:Array Oper)(A:Waits)(mvs:List Mv):Bool:=
 Region.noSelect ops && wC ops A && (mvs.length == ops.size) && wR ops mvs (Array.replicate ops.size false)
theorem ND{ops:Array Oper}{i j:Nat}(h:FK ops j i=true):∃ o,ops[j]? = some o/\∃ e ∈ o.after,Region.binds .any e=true/\e.on=i:=by
 unfold FK at h;split at h
 . rename_i o ho
   obtain⟨e,he,hb⟩:=Array.any_eq_true'.1 h;simp only[Bool.and_eq_true,beq_iff_eq] at hb;exact⟨o,ho,e,he,hb.1,hb.2⟩
 . cases h
theorem NG{ops:Array Oper}{i:Nat}:∀ (l:List Nat) (j:Nat),FM ops i j l=true->Bef ops i j
 | [],j,h=>by
  obtain⟨o,ho,e,he,hb,hi⟩:=ND h;exact .one ho he hb hi
 | k :: r,j,h=>by
  simp only[FM,Bool.and_eq_true] at h;obtain⟨o,ho,e,he,hb,hi⟩:=ND h.1;exact .more ho he hb (by rw[hi];exact NG r k h.2)
theorem vH{ops:Array Oper}:∀ {A:Waits},wC ops A=true->∀ i j,dW A i j=true->Bef ops i j
 | [],_,i,j,h=>by cases h
 | (a,b,l) :: r,hw,i,j,h=>by
  simp only[wC,List.all_cons,Bool.and_eq_true] at hw;simp only[dW] at h;split at h
  . rename_i hb
    rw[Bool.and_eq_true] at hb;have h1:=dO hb.1;have h2:=dO hb.2;subst h1 h2;exact NG l _ hw.1
  . exact vH (A:=r) hw.2 i j h
def Ci(row:Rows)(r:Nat)(p:Prop):Prop:=match row[r]? with|some (some _)=>p|_=>False
def AP(s:St)(E:Src)(x:Src)(p:Prop):Prop:=
 match x with
 | .none=>p
 | .reg=>p
 | .box a=>match E with|.box b=>(match Nat.beq a b with|true=>False|false=>p)|_=>p
 | .row a=>Ci s.row a <| match E with|.row b=>(match Nat.beq a b with|true=>False|false=>p)|_=>p
 | .all=>False
def wE(bef:Nat->Nat->Bool)(i:Nat)(s:St)(E:Src):List (Nat × Src)->Prop->Prop
 | [],p=>p
 | (k,x) :: r,p=>match bef k i with|true=>wE bef i s E r p|false=>AP s E x (wE bef i s E r p)
def AQ(bef:Nat->Nat->Bool)(i:Nat):List (Nat × Src)->Prop->Prop
 | [],p=>p
 | (k,x) :: r,p=>match bef k i with|true=>AQ bef i r p|false=>(match x with|.reg=>AQ bef i r p|_=>False)
def wF(bef:Nat->Nat->Bool)(i:Nat)(s:St)(E:Src)(ps:List (Nat × Src))(p:Prop):Prop:=
 match E with
 | .row b=>Ci s.row b (wE bef i s E ps p)
 | .all=>AQ bef i ps p
 | _=>wE bef i s E ps p
def iG(bef:Nat->Nat->Bool)(i:Nat):List (Nat × Src)->List (Nat × Src)
 | []=>[]
 | (k,x) :: r=>match bef k i with|true=>iG bef i r|false=>(k,x) :: iG bef i r
def dop(P:Program)(T:Tab)(s:St)(o:Oper)(K:D->St->Prop):Prop:=
 match o.op with
 | .call { callee:=.value (.func f),args,argTypes }=>
  qop P T s o K\/(mJ 8 s (s.gets args.toList) fun ds s=>pK T argTypes.toList ds fun ds=>∃ R,aF P T f ds R/\∀ d rows,R d rows->(match s with
   | ⟨env,box,row,n⟩=>uq row.length d fun d=>nU row rows fun row=>K d ⟨env,box,row,n⟩))\/Et P T s f argTypes.toList (s.gets args.toList) K\/(gX (s.gets args.toList) fun ds=>bW P T s f ds K)
 | .call { callee:=.value _,args:=_,argTypes:=_ }=>qop P T s o K
 | .call { callee:=.invoke _ _,args:=_,argTypes:=_ }=>qop P T s o K
 | _=>vop P T s o K
def uP(P:Program)(T:Tab)(ops:List Oper)(A:Waits):List Mv->List (Nat × Src)->St->(St->Prop)->Prop
 | [],_,s,K=>K s
 | .q i :: r,ps,s,K=>match ops[i]? with
  | none=>False
  | some o=>lC ops s o.guard
   (fun s=>qop P T s o fun d s'=>gy s' o.dst d fun s'=>uP P T ops A r ((i,BL s o) :: ps) s' K)
   (fun s=>gy s o.dst (.tup []) fun s=>uP P T ops A r ((i,.reg) :: ps) s K)
 | .l i :: r,ps,s,K=>match ops[i]? with
  | none=>False
  | some o=>lC ops s o.guard
   (fun s=>wF (dW A) i s (nH s o) ps <| dop P T s o fun d s=>gy s o.dst d fun s=>uP P T ops A r (iG (dW A) i ps) s K)
   (fun s=>gy s o.dst (.tup []) fun s=>uP P T ops A r (iG (dW A) i ps) s K)
section
variable {w0 w w' : World} {V0 : Fr} {V : Vw} {μ : List Nat} {ω : List Value} {s : St} {a : Act} {P : Program} {T : Tab}
theorem G9{o:Oper}{C:World->Prop}{v:Value}(hq:isQ o=true)(h:o.quietAt P a C w v):(execOp a.eval o).run P w = .ok (.value v) w:=by
 have key:∀ n w',(execOp a.eval o).run P w = .ok n w'->∃ u,n = .value u:=by
  intro n w' he;obtain⟨dst,op,type,pos,after,guard⟩:=o;have lift:∀ x:Sem Value,(Sem.run P (do pure (.value (<- x)):Sem Next) w) = .ok n w'->∃ u,n = .value u:=by
   intro x hx;simp only[Sem.run_bind,Sem.run_pure] at hx
   cases hr:x.run P w with
   | ok u w1=>rw[hr] at hx;simp only[Result.andThen_ok,Result.ok.injEq] at hx;exact⟨u,hx.1.symm⟩
   | halt y w1=>rw[hr] at hx;simp at hx
  cases op<;>first|(cases hq;done)|exact lift _ he|skip
  case move x=>simp only[execOp,Sem.run_pure,Result.ok.injEq] at he;exact⟨_,he.1.symm⟩
  case assign x=>simp only[execOp,Sem.run_pure,Result.ok.injEq] at he;exact⟨_,he.1.symm⟩
  case pick c x y=>
   simp only[execOp,Sem.run_bind,Sem.run_pure] at he
   cases hr:(asBool (a.eval c)).run P w with
   | ok u w1=>rw[hr] at he;simp only[Result.andThen_ok,Result.ok.injEq] at he;exact⟨_,he.1.symm⟩
   | halt y w1=>rw[hr] at he;simp at he
  case nilCheck x=>
   have pn:∀ w1,(runtimePanic RuntimeError.nilDeref:Sem Next).run P w1 = .ok n w'->∃ u,n = .value u:=by
    intro w1 h1;simp[runtimePanic,goPanic] at h1
   have bnd:∀ {β:Type} (y:Sem β) (k:β->Sem Next) w1,(∀ u w2,(k u).run P w2 = .ok n w'->∃ u,n = .value u)->(y >>= k).run P w1 = .ok n w'->∃ u,n = .value u:=by
    intro β y k w1 hk h1;rw[Sem.run_bind] at h1
    cases hr:y.run P w1 with
    | ok u w2=>rw[hr] at h1;simp only[Result.andThen_ok] at h1;exact hk _ _ h1
    | halt y w2=>rw[hr] at h1;simp at h1
   have pv:∀ (u:Value) w1,(pure (.value u):Sem Next).run P w1 = .ok n w'->∃ u,n = .value u:=by
    intro u w1 h1;simp only[Sem.run_pure,Result.ok.injEq] at h1;exact⟨_,h1.1.symm⟩
   simp only[execOp] at he;split at he<;>first|exact pn _ he|exact pv _ _ he|skip
   split at he<;>first|exact pn _ he|exact pv _ _ he|skip
   refine bnd _ _ _ (fun u w2 h1=>?_) he;refine bnd _ _ _ (fun u w2 h1=>?_) h1;split at h1
   . exact bnd _ _ _ (fun u w2 h1=>pv _ _ h1) h1
   . exact pv _ _ h1
  case call c=>
   obtain⟨callee,args,argTypes⟩:=c
   cases callee with
   | value f=>cases hq
   | invoke f m=>cases hq
   | builtin b=>
    cases b<;>first|(cases hq;done)|skip
    simp only[execOp,resolve,Sem.run_bind,Sem.run_pure,Result.andThen_ok,invoke,builtin] at he;exact lift _ (by simpa only[Sem.run_bind,Sem.run_pure] using he)
 unfold Oper.quietAt at h
 cases hr:(execOp a.eval o).run P w with
 | ok n w'=>
  rw[hr] at h;obtain⟨u,rfl⟩:=key n w' hr;obtain⟨rfl,rfl⟩:=h;rfl
 | halt x w'=>rw[hr] at h;exact h.elim
def Gj(P:Program)(T:Tab)(w0:World)(V0:Fr)(E:Src)(V:Vw)(μ:List Nat)(ω:List Value)(a:Act)(w:World)(o:Oper)(K:D->St->Prop):Prop:=
 ∀ (next:Act->World->Prop) (Q:Exit->Act->World->Prop),
  (∀ d v s V' μ' ω' w',K d s->RS (ah T) V' μ' ω' v d->Sim (ah T) w0 V0 V' μ' ω' s a w'->Step E V μ ω w V' μ' ω' w'->next (a.put o.dst v) w')->o.wp P a w next Q
theorem Gj.ng{E:Src}(hT:TOk P T)(hS:Sim (ah T) w0 V0 V μ ω s a w){o:Oper}{K:D->St->Prop}(h:qop P T s o K):Gj P T w0 V0 E V μ ω a w o K:=by
 intro next Q hn
 obtain⟨d,v,s',hk,hr,hS',_,_,_,hq⟩:=yx hT hS h;exact Oper.wp_of_quiet (C:=Ext w) (K:=fun a'=>∀ w',Ext w w'->next a' w') (Ext.refl w) (fun a' w' he h=>h w' he) ⟨v,fun w' he=>hq w' (QR.ext he),fun w' he=>hn d v s' V μ ω w' hk hr (hS'.ext he) (.ext (fun _ _ h=>h) (.refl _) (.refl _) he)⟩
theorem Dz(hT:TOk P T)(hS:Sim (ah T) w0 V0 V μ ω s a w){o:Oper}{K:D->St->Prop}(h:dop P T s o K):Gj P T w0 V0 (nH s o) V μ ω a w o K:=by
 have plain:Q8 o=false->vop P T s o K->Gj P T w0 V0 (nH s o) V μ ω a w o K:=fun hc hv next Q hn=>
  Ii hT hS hv next Q fun d v s' V' μ' ω' w' hk hr hS' hst=>hn d v s' V' μ' ω' w' hk hr hS' (hst hc)
 obtain⟨dst,op,type,pos,after,guard⟩:=o;cases op
 case call c=>
  obtain⟨callee,args,argTypes⟩:=c
  cases callee with
  | invoke r m=>exact .ng hT hS h
  | builtin b=>exact plain rfl h
  | value f=>
   cases f<;>first|exact .ng hT hS h|skip
   rename_i f;simp only[dop] at h;rcases h with h|h|h|h
   . exact .ng hT hS h
   case inr.inr.inr=>
    rw[iQ] at h;intro next Q hn
    have hg:=hS.gets args.toList;have eH:=h.run w0 V0 V μ ω a w _ hS hg.1 hg.2;unfold Oper.wp;have hrun:(execOp a.eval ⟨dst,.call ⟨.value (.func f),args,argTypes⟩,type,pos,after,guard⟩).run P w = .ok (.enter f (args.toList.map a.eval).toArray) w:=by
     simp only[execOp,resolve,Act.eval,Deferred.ofValue,invoke,Sem.run_bind,Sem.run_pure,Result.andThen_ok];rw[h.call];congr 2;apply Array.ext';simp
    rw[hrun];show Calls P f _ w _;refine eH.mono ?_;rintro e w'' ⟨v,d,s',V',μ',ω',rfl,hk,hr,hS',hV,hm,hω,hc⟩;exact hn d v s' V' μ' ω' w'' hk hr hS' ⟨hV,hm,fun r v _ _ h=>hω r v h,fun q v hq _=>hc q v hq⟩
   case inr.inr.inl=>
    obtain⟨hrun,h⟩:=MB (dst:=dst) (type:=type) (pos:=pos) (after:=after) (guard:=guard) hS h;intro next Q hn
    unfold Oper.wp;rw[hrun];show Calls P f (args.map a.eval) w _;refine h.mono ?_;rintro e w'' ⟨v,d,s',V',ω',rfl,hk,hr,hS',hle,hpre,hb⟩;exact hn d v s' V' μ ω' w'' hk hr hS' (.ext hle (.refl _) hpre hb)
   obtain⟨V1,ds1,s1,h,hv1,hS1,hle1⟩:=lW 8 hS (hS.gets _) h;obtain⟨es,⟨R,hf,h⟩,hes,hri⟩:=oW argTypes.toList ds1 _ _ hv1 h;obtain⟨env,box,row,n⟩:=s1;intro next Q hn
   have eH:=hf.run V1 w (args.map a.eval) hS1.mem.vok (by have:=hv1.1;simp at this ⊢;omega) (fun j v d h1 h2=>hri j v d (by simpa using h1) h2);unfold Oper.wp;have hrun:(execOp a.eval ⟨dst,.call ⟨.value (.func f),args,argTypes⟩,type,pos,after,guard⟩).run P w = .ok (.enter f (args.map a.eval)) w:=by
    simp only[execOp,resolve,Act.eval,Deferred.ofValue,invoke,Sem.run_bind,Sem.run_pure,Result.andThen_ok];rw[show (#[]++args.map a.eval)++#[]=args.map a.eval by simp,hf.call]
   rw[hrun];show Calls P f (args.map a.eval) w _;refine eH.mono ?_;rintro e w'' ⟨V',ω0,row0,v,d,rfl,hR,hrs,hres⟩;have hM:=hS1.mem.call hres;have hk:=h d row0 hR;have hl:row.length=ω.length:=hS1.mem.rl.symm;dsimp only at hk;rw[hl] at hk;obtain⟨d',hk,hr⟩:=sJ (μ:=μ) (V':=V') (ω':=ω++ω0) (VLe.refl V') (fun r u hu=>by rw[List.getElem?_append_right oA,Nat.add_sub_cancel];exact hu) hrs hk;rw[oz] at hk;exact hn d' v _ V' μ (ω++ω0) w'' hk hr ⟨hS1.tmps,hS1.defers.ext hres.below,fun t=>(hS1.env t).mono hres.le (.refl μ) (.append _ _),hM⟩
    (.ext (fun p u hp=>hres.le p u (hle1 p u hp)) (.refl _) (.append _ _) hres.below)
 all_goals exact plain rfl h
def kF(V:Vw)(μ:List Nat)(ω:List Value)(w:World)(x:Nat × (World->Prop))(y:Nat × Src):Prop:=
 x.1=y.1/\∃ p n wi,x.2=mF p n wi/\iL V μ ω y.2 p n/\mF p n wi w
theorem PY{row:Rows}{r:Nat}{p:Prop}(h:Ci row r p):(∃ x,row[r]? = some (some x))/\p:=by
 unfold Ci at h;split at h
 . rename_i x hx;exact⟨⟨x,hx⟩,h⟩
 . exact h.elim
theorem kF.step(hM:Mem (ah T) w0 V0 V μ ω s.box s.row w){E:Src}(zn:E ≠ .all)(hE:∀ b,E = .row b->∃ x,s.row[b]? = some (some x)){x:Nat × (World->Prop)}{y:Nat × Src}(h:kF V μ ω w x y){q:Prop}(ha:AP s E y.2 q)
    {V':Vw}{μ':List Nat}{ω':List Value}{w':World}(hst:Step E V μ ω w V' μ' ω' w'):kF V' μ' ω' w' x y/\q:=by
 obtain⟨he,p,n,wi,hx,hsrc,hk⟩:=h;obtain⟨k,src⟩:=y;have own:∀ g,Hit μ ω E g->∃ l,Own μ ω s.row l g/\(match E with|.none=>False|.reg=>False|.box b=>l = .inl b|.row b=>l = .inr b|.all=>False):=by
  intro g hg
  cases E with
  | none=>exact hg.elim
  | reg=>exact hg.elim
  | all=>exact absurd rfl zn
  | box b=>exact⟨.inl b,hg,rfl⟩
  | row b=>
   obtain⟨v,h1,h2⟩:=hg;obtain⟨z,hz⟩:=hE b rfl;exact⟨.inr b,⟨v,z,h1,hz,h2⟩,rfl⟩
 have keep:(∀ j,j<n->¬ Hit μ ω E (p.add j).block)->mF p n wi w':=fun hn j v hj hc=>hst.foot _ _ (hk j v hj hc) (hn j hj)
 cases src with
 | all=>exact hsrc.elim
 | reg=>exact⟨⟨he,p,n,wi,hx,hsrc,fun j v hj=>by cases hsrc;omega⟩,ha⟩
 | none=>
  refine⟨⟨he,p,n,wi,hx,fun j hj=>?_,keep fun j hj hh=>?_⟩,ha⟩
  . obtain⟨v,hv⟩:=hsrc j hj
    exact⟨v,hst.vle _ _ hv⟩
  . obtain⟨v,hv⟩:=hsrc j hj
    obtain⟨l,hl,_⟩:=own _ hh;exact hM.eF _ v l hv hl
 | box b=>
  have hq:q/\∀ c,E = .box c->b ≠ c:=by
   simp only[AP] at ha
   cases E with
   | none=>exact⟨ha,sI⟩
   | reg=>exact⟨ha,sI⟩
   | all=>exact absurd rfl zn
   | row c=>exact⟨ha,sI⟩
   | box c=>
    dsimp only at ha
    cases hb:Nat.beq b c with
    | true=>rw[hb] at ha;exact ha.elim
    | false=>rw[hb] at ha;exact⟨ha,fun c' hc'=>by cases hc';rintro rfl;rw[Nat.beq_refl] at hb;cases hb⟩
  refine⟨⟨he,p,n,wi,hx,hst.pre _ _ hsrc,keep fun j hj hh=>?_⟩,hq.1⟩;obtain⟨l,hl,hlE⟩:=own _ hh;rw[add_block] at hl;have:=hM.uniq (.inl b) l _ hsrc hl
  cases E with
  | none=>exact hlE
  | reg=>exact hlE
  | all=>exact hlE
  | box c=>subst hlE;simp at this;exact hq.2 c rfl this
  | row c=>subst hlE;simp at this
 | row b=>
  have hq:(∃ z,s.row[b]? = some (some z))/\q/\∀ c,E = .row c->b ≠ c:=by
   simp only[AP] at ha;obtain⟨hz,ha⟩:=PY ha;refine⟨hz,?_⟩
   cases E with
   | none=>exact⟨ha,sI⟩
   | reg=>exact⟨ha,sI⟩
   | all=>exact absurd rfl zn
   | box c=>exact⟨ha,sI⟩
   | row c=>
    dsimp only at ha
    cases hb:Nat.beq b c with
    | true=>rw[hb] at ha;exact ha.elim
    | false=>rw[hb] at ha;exact⟨ha,fun c' hc'=>by cases hc';rintro rfl;rw[Nat.beq_refl] at hb;cases hb⟩
  obtain⟨⟨z,hz⟩,hq1,hq2⟩:=hq;obtain⟨v,hv,hvb⟩:=hsrc;refine⟨⟨he,p,n,wi,hx,⟨v,hst.row b v (fun e=>hq2 b e rfl) zn hv,hvb⟩,keep fun j hj hh=>?_⟩,hq1⟩;obtain⟨l,hl,hlE⟩:=own _ hh;rw[add_block] at hl;have:=hM.uniq (.inr b) l _ ⟨v,z,hv,hz,hvb⟩ hl
  cases E with
  | none=>exact hlE
  | reg=>exact hlE
  | all=>exact hlE
  | box c=>subst hlE;simp at this
  | row c=>subst hlE;simp at this;exact hq2 c rfl this
theorem kF.pY{x:Nat × (World->Prop)}{y:Nat × Src}(h:kF V μ ω w x y):x.2 w:=by
 obtain⟨_,p,n,wi,hx,_,hk⟩:=h;rw[hx];exact hk
inductive jG{α β:Type}(R:α->β->Prop):List α->List β->Prop
 | nil:jG R [] []
 | cons {a b l m} (h:R a b) (t:jG R l m):jG R (a :: l) (b :: m)
theorem jG.left{α β:Type}{R:α->β->Prop}{l:List α}{m:List β}(h:jG R l m):∀ x ∈ l,∃ y,R x y:=by
 induction h with
 | nil=>intro x hx;cases hx
 | cons h t ih=>
  intro x hx;rcases List.mem_cons.1 hx with rfl|hx
  . exact⟨_,h⟩
  . exact ih x hx
theorem C9(hM:Mem (ah T) w0 V0 V μ ω s.box s.row w){E:Src}(zn:E ≠ .all)(hE:∀ b,E = .row b->∃ x,s.row[b]? = some (some x)){bef:Nat->Nat->Bool}{i:Nat}{ps:oK}{sps:List (Nat × Src)}(h:jG (kF V μ ω w) ps sps) :
    ∀ {q:Prop},wE bef i s E sps q->q/\∀ V' μ' ω' w',Step E V μ ω w V' μ' ω' w' ->
     (∀ x ∈ ps,bef x.1 i=false->x.2 w')/\jG (kF V' μ' ω' w') (ps.filter fun x=>!bef x.1 i) (iG bef i sps):=by
 induction h with
 | nil=>intro q h;exact⟨h,fun V' μ' ω' w' _=>⟨sI,.nil⟩⟩
 | @cons x y ps sps hxy _ ih=>
  intro q h;obtain⟨k,src⟩:=y;have hk:x.1=k:=hxy.1;simp only[wE] at h
  cases hb:bef k i with
  | true=>
   rw[hb] at h;obtain⟨hq,hs⟩:=ih h;refine⟨hq,fun V' μ' ω' w' hst=>?_⟩;obtain⟨h1,h2⟩:=hs V' μ' ω' w' hst;refine⟨fun z hz hzb=>?_,?_⟩
   . rcases List.mem_cons.1 hz with rfl|hz
     . rw[hk,hb] at hzb;cases hzb
     . exact h1 z hz hzb
   . rw[List.filter_cons_of_neg (by simp[hk,hb])]
     simp only[iG,hb];exact h2
  | false=>
   rw[hb] at h;have hq0:(wE bef i s E sps q):=by
    simp only[AP,Ci] at h
    cases src with
    | all=>exact h.elim
    | none=>exact h
    | reg=>exact h
    | box b=>cases E with
     | box c=>dsimp only at h;split at h;exact h.elim;exact h
     | _=>exact h
    | row b=>
     dsimp only at h;split at h
     case h_2=>exact h.elim
     cases E with
     | row c=>dsimp only at h;split at h;exact h.elim;exact h
     | _=>exact h
   obtain⟨hq,hs⟩:=ih hq0;refine⟨hq,fun V' μ' ω' w' hst=>?_⟩;obtain⟨h1,h2⟩:=hs V' μ' ω' w' hst;have hp:=(hxy.step hM zn hE h hst).1;refine⟨fun z hz hzb=>?_,?_⟩
   . rcases List.mem_cons.1 hz with rfl|hz
     . exact hp.pY
     . exact h1 z hz hzb
   . rw[List.filter_cons_of_pos (by simp[hk,hb])]
     simp only[iG,hb];exact .cons hp h2
theorem VA{bef:Nat->Nat->Bool}{i:Nat}{ps:oK}{sps:List (Nat × Src)}(h:jG (kF V μ ω w) ps sps) :
    ∀ {q:Prop},AQ bef i sps q->q/\∀ V' μ' ω' w',Step .all V μ ω w V' μ' ω' w' ->
     (∀ x ∈ ps,bef x.1 i=false->x.2 w')/\jG (kF V' μ' ω' w') (ps.filter fun x=>!bef x.1 i) (iG bef i sps):=by
 induction h with
 | nil=>intro q h;exact⟨h,fun V' μ' ω' w' _=>⟨sI,.nil⟩⟩
 | @cons x y ps sps hxy _ ih=>
  intro q h;obtain⟨k,src⟩:=y;have hk:x.1=k:=hxy.1;simp only[AQ] at h
  cases hb:bef k i with
  | false=>
   rw[hb] at h;dsimp only at h;split at h
   case h_2=>exact h.elim
   obtain⟨hq,hs⟩:=ih h;refine⟨hq,fun V' μ' ω' w' hst=>?_⟩;obtain⟨h1,h2⟩:=hs V' μ' ω' w' hst;obtain⟨he,p,n,wi,hx,hsrc,_⟩:=hxy;have hp:kF V' μ' ω' w' x (k,.reg):=⟨he,p,n,wi,hx,hsrc,fun j v hj=>by cases hsrc;omega⟩;refine⟨fun z hz hzb=>?_,?_⟩
   . rcases List.mem_cons.1 hz with rfl|hz
     . exact hp.pY
     . exact h1 z hz hzb
   . rw[List.filter_cons_of_pos (by simp[hk,hb])]
     simp only[iG,hb];exact .cons hp h2
  | true=>
   rw[hb] at h;obtain⟨hq,hs⟩:=ih h;refine⟨hq,fun V' μ' ω' w' hst=>?_⟩;obtain⟨h1,h2⟩:=hs V' μ' ω' w' hst;refine⟨fun z hz hzb=>?_,?_⟩
   . rcases List.mem_cons.1 hz with rfl|hz
     . rw[hk,hb] at hzb;cases hzb
     . exact h1 z hz hzb
   . rw[List.filter_cons_of_neg (by simp[hk,hb])]
     simp only[iG,hb];exact h2
theorem zI(hM:Mem (ah T) w0 V0 V μ ω s.box s.row w){E:Src}{bef:Nat->Nat->Bool}{i:Nat}{ps:oK}{sps:List (Nat × Src)}(h:jG (kF V μ ω w) ps sps)
    {q:Prop}(hc:wF bef i s E sps q):q/\∀ V' μ' ω' w',Step E V μ ω w V' μ' ω' w' ->
     (∀ x ∈ ps,bef x.1 i=false->x.2 w')/\jG (kF V' μ' ω' w') (ps.filter fun x=>!bef x.1 i) (iG bef i sps):=by
 unfold wF at hc
 cases E with
 | row b=>
  obtain⟨hz,hc⟩:=PY hc;exact C9 hM sI (fun c hc=>by cases hc;exact hz) h hc
 | all=>exact VA h hc
 | none=>exact C9 hM sI (fun c hc=>by cases hc) h hc
 | reg=>exact C9 hM sI (fun c hc=>by cases hc) h hc
 | box b=>exact C9 hM sI (fun c hc=>by cases hc) h hc
theorem jG.filter{bef:Nat->Nat->Bool}{i:Nat}{R:Nat × (World->Prop)->Nat × Src->Prop}(hR:∀ x y,R x y->x.1=y.1){ps:oK}{sps:List (Nat × Src)}(h:jG R ps sps) :
    jG R (ps.filter fun x=>!bef x.1 i) (iG bef i sps):=by
 induction h with
 | nil=>exact .nil
 | @cons x y ps sps hxy _ ih=>
  obtain⟨k,src⟩:=y;have hk:x.1=k:=hR _ _ hxy;simp only[iG]
  cases hb:bef k i with
  | true=>rw[List.filter_cons_of_neg (by simp[hk,hb])];exact ih
  | false=>rw[List.filter_cons_of_pos (by simp[hk,hb])];exact .cons hxy ih
theorem zL(hT:TOk P T){ops:List Oper}{A:Waits}(hns:Region.noSelect ops.toArray=true)(hA:wC ops.toArray A=true){Q:Exit->Act->World->Prop}(hQ:∀ c a w,¬ Q (.panic c) a w) :
    ∀ (mvs:List Mv) (listed:Array Bool) (ps:oK) (sps:List (Nat × Src)) (s:St) (V:Vw) (μ:List Nat) (ω:List Value) (a:Act) (w:World) (K:St->Prop),
     wR ops.toArray mvs listed=true->Closed ops.toArray listed->Sim (ah T) w0 V0 V μ ω s a w->jG (kF V μ ω w) ps sps->uP P T ops A mvs sps s K ->
     (∀ s V μ ω a w,K s->Sim (ah T) w0 V0 V μ ω s a w->Q .normal a w)->mD P ops.toArray (dW A) Q mvs.length ps listed a w
 | [],listed,ps,sps,s,V,μ,ω,a,w,K,hB,hcl,hS,hps,h,hq=>⟨by simpa[wR] using hB,hq _ _ _ _ _ _ h hS⟩
 | .q i :: r,listed,ps,sps,s,V,μ,ω,a,w,K,hB,hcl,hS,hps,h,hq=>by
  simp only[wR,Bool.and_eq_true] at hB;obtain⟨⟨⟨hr,hf⟩,hq1⟩,hB⟩:=hB;simp only[uP] at h
  cases ho:ops[i]? with
  | none=>rw[ho] at h;exact h.elim
  | some o=>
   rw[ho] at h;dsimp only at h;have ho':ops.toArray[i]? = some o:=by simpa using ho
   rw[ho'] at hq1;have hri:i ∈ Region.ready .any ops.toArray listed:=by simpa using hr
   have hall:∀ x ∈ ps,x.2 w:=fun x hx=>let ⟨y,hy⟩:=hps.left x hx;hy.pY
   rcases mY (o:=o) hS h with⟨hw,s1,h,hS⟩|⟨hw,s1,h,hS⟩
   . obtain⟨d,v,s2,h,hr2,hS2,p,n,hsrc,hq2⟩:=yx hT hS h
     obtain⟨s3,h,hS3⟩:=gV hS2 hr2 h;refine xX (C:=mF p n w) (v:=v) (fun i j=>vH hA i j) ho' (Region.noSelect_spec hns) (fun c a w hc=>absurd hc (hQ _ _ _)) r.length ps listed a w hcl (Region.free_spec ho' hf) hri
      (.inl ⟨hw,fun w' hk=>G9 (by simpa using hq1) (hq2 w' ?_)⟩) (fun _ _ _ h=>h) hall ?_
     . unfold QR
       split
       . exact hk
       . rename_i heq;simp[isQ,heq] at hq1
       . rename_i heq;simp[isQ,heq] at hq1
       . trivial
     . exact zL hT hns hA hQ r _ _ _ s3 V μ ω _ w K hB (hcl.set hri) hS3 (.cons ⟨rfl,p,n,w,rfl,hsrc,fun _ _ _ h=>h⟩ hps) h hq
   . obtain⟨s3,h,hS3⟩:=gV hS (v:=undef) (d:=.tup []) (RS.tup [] #[] rfl (fun j v d h=>by simp at h)) h
     refine xX (C:=mF ⟨0,0,none⟩ 0 w) (v:=undef) (fun i j=>vH hA i j) ho' (Region.noSelect_spec hns) (fun c a w hc=>absurd hc (hQ _ _ _)) r.length ps listed a w hcl (Region.free_spec ho' hf) hri
      (.inr ⟨hw,rfl⟩) (fun _ _ _ h=>h) hall ?_
     exact zL hT hns hA hQ r _ _ _ s3 V μ ω _ w K hB (hcl.set hri) hS3 (.cons ⟨rfl,⟨0,0,none⟩,0,w,rfl,iL.zero _,fun _ _ _ h=>h⟩ hps) h hq
 | .l i :: r,listed,ps,sps,s,V,μ,ω,a,w,K,hB,hcl,hS,hps,h,hq=>by
  simp only[wR,Bool.and_eq_true,beq_iff_eq] at hB;obtain⟨hr,hB⟩:=hB;simp only[uP] at h
  cases ho:ops[i]? with
  | none=>rw[ho] at h;exact h.elim
  | some o=>
   rw[ho] at h;dsimp only at h;have ho':ops.toArray[i]? = some o:=by simpa using ho
   have hri:i ∈ Region.ready .any ops.toArray listed:=by rw[hr];simp
   refine⟨fun h0=>(by rw[hr] at h0;cases h0),fun j hj=>?_⟩;rw[hr] at hj;have hji:j=i:=by simpa using hj
   subst hji;unfold wpOp;rw[ho'];dsimp only;rcases mY (o:=o) hS h with⟨hw,s1,h,hS⟩|⟨hw,s1,h,hS⟩
   . rw[if_pos hw]
     obtain⟨h,hst⟩:=zI hS.mem hps h;refine .inl (Dz hT hS h _ _ fun d v s2 V2 μ2 ω2 w2 hk hr2 hS2 hstep=>?_);obtain⟨h1,h2⟩:=hst _ _ _ _ hstep;obtain⟨s3,h,hS3⟩:=gV hS2 hr2 hk;exact⟨h1,zL hT hns hA hQ r _ _ _ s3 _ _ _ _ w2 K hB (hcl.set hri) hS3 h2 h hq⟩
   . rw[if_neg (by rw[hw];simp)]
     obtain⟨s3,h,hS3⟩:=gV hS (v:=undef) (d:=.tup []) (RS.tup [] #[] rfl (fun j v d h=>by simp at h)) h;exact⟨fun x hx _=>let ⟨y,hy⟩:=hps.left x hx;hy.pY,zL hT hns hA hQ r _ _ _ s3 _ _ _ _ w K hB (hcl.set hri) hS3 (hps.filter fun _ _ h=>h.1) h hq⟩
theorem Ok.aW(hT:TOk P T)(hm:P.follows .mixedOrders=true){s:St}{Q:Exit->St->Prop}{id:Nat}{l:List Oper}(A:Waits)(mvs:List Mv)(hB:SQ l.toArray A mvs=true)(h:uP P T l A mvs [] s (Q .normal)) :
    Ok P T (.region id l.toArray true) Q s:=by
 refine⟨fun w0 V0 V μ ω a w hS=>?_⟩;simp only[SQ,Bool.and_eq_true,beq_iff_eq] at hB;obtain⟨⟨⟨hns,hA⟩,hlen⟩,hB⟩:=hB;have hd:Ext w { w with drawn:=w.drawn+1 }:=(Below.refl w.heap.size w).drew;refine wp_mono (Q:=fun e a' w'=>e = .normal/\∃ s' V' μ' ω',Q .normal s'/\Sim (ah T) w0 V0 V' μ' ω' s' a' w') (wp_region_any hm ?_) ?_
 . refine Dq (bef:=dW A) _ [] _ _ _ ?_
   have hz:∀ m j:Nat,(Array.replicate m false).getD j false=false:=fun m j=>by
    rcases Nat.lt_or_ge j m with h|h<;>simp[h]
   have hw:=zL hT hns hA (Q:=fun e a' w'=>e = .normal/\∃ s' V' μ' ω',Q .normal s'/\Sim (ah T) w0 V0 V' μ' ω' s' a' w') (fun c a w h=>by cases h.1) mvs _ [] [] s V μ ω a _ _ hB
    (fun j o _ hl=>by rw[hz] at hl;cases hl) (hS.ext hd) .nil h fun s' V' μ' ω' a' w' hk hS'=>⟨rfl,s',V',μ',ω',hk,hS'⟩
   rw[hlen] at hw;exact hw
 . rintro e a' w' ⟨rfl,s',V',μ',ω',hk,hS'⟩
   exact⟨s',V',μ',ω',hk,hS'⟩
end
end Go.Vx
namespace Go.Vx.Hp
structure Swo{α:Type}(lt:α->α->Prop):Prop where
 irrefl:∀ a,¬ lt a a
 trans:∀ a b c,¬ lt b a->¬ lt c b->¬ lt c a
 asymm:∀ a b,lt a b->¬ lt b a
section
variable {α : Type} {lt : α → α → Prop}
def Heap(lt:α->α->Prop)(ys:List α):Prop:=∀ j,0<j->∀ a b,ys[j]? = some a->ys[(j - 1) / 2]? = some b->¬ lt a b
def uz(lt:α->α->Prop)(ys:List α)(i:Nat):Prop:=
 (∀ j,0<j->j ≠ i->∀ a b,ys[j]? = some a->ys[(j - 1) / 2]? = some b->¬ lt a b) /\
 ∀ j,0<j->(j - 1) / 2=i->0<i->∀ a b,ys[j]? = some a->ys[(i - 1) / 2]? = some b->¬ lt a b
def uD(lt:α->α->Prop)(ys:List α)(i:Nat):Prop:=
 (∀ j,0<j->(j - 1) / 2 ≠ i->∀ a b,ys[j]? = some a->ys[(j - 1) / 2]? = some b->¬ lt a b) /\
 ∀ j,0<j->(j - 1) / 2=i->0<i->∀ a b,ys[j]? = some a->ys[(i - 1) / 2]? = some b->¬ lt a b
def swp(ys:List α)(i j:Nat)(a b:α):List α:=(ys.set i b).set j a
theorem swp_get{ys:List α}{i j:Nat}{a b:α}(hi:ys[i]? = some a)(hj:ys[j]? = some b)(hne:i ≠ j)(k:Nat):(swp ys i j a b)[k]? = if k=j then some a else if k=i then some b else ys[k]?:=by
 have hil:=(aK.1 hi).1;have hjl:=(aK.1 hj).1;unfold swp;by_cases h1:k=j
 . subst h1;rw[if_pos rfl,List.getElem?_set_self (by simpa using hjl)]
 . rw[if_neg h1,List.getElem?_set_ne (Ne.symm h1)]
   by_cases h2:k=i
   . subst h2;rw[if_pos rfl,List.getElem?_set_self hil]
   . rw[if_neg h2,List.getElem?_set_ne (Ne.symm h2)]
theorem vw(ys:List α)(i j:Nat)(a b:α):(swp ys i j a b).length=ys.length:=by simp[swp]
theorem set_perm{ys:List α}{i:Nat}{a b:α}(hi:ys[i]? = some a):(b :: ys).Perm (a :: ys.set i b):=by
 induction ys generalizing i with
 | nil=>simp at hi
 | cons y ys ih=>
  cases i with
  | zero=>simp at hi;subst hi;simpa using List.Perm.swap _ _ _
  | succ i=>
   simp only[List.getElem?_cons_succ] at hi;simp only[List.set_cons_succ];exact (List.Perm.swap _ _ _).trans (((ih hi).cons y).trans (List.Perm.swap _ _ _))
theorem zX{ys:List α}{i j:Nat}{a b:α}(hi:ys[i]? = some a)(hj:ys[j]? = some b)(hne:i ≠ j):(swp ys i j a b).Perm ys:=by
 have h1:=set_perm (b:=b) hi;have hj':(ys.set i b)[j]? = some b:=by rw[List.getElem?_set_ne hne];exact hj
 have h2:=set_perm (b:=a) hj'
 -- b :: ys ~ a :: ys.set i b ~ b :: swp
 exact (List.perm_cons b).1 (h1.trans h2).symm
theorem Hy{ys:List α}(h:Heap lt ys)(x:α):uz lt (ys++[x]) ys.length:=by
 have hg:∀ j a,j ≠ ys.length->(ys++[x])[j]? = some a->ys[j]? = some a:=by
  intro j a hj ha;rcases Nat.lt_or_ge j ys.length with hl|hl
  . rwa [List.getElem?_append_left hl] at ha
  . have:=(aK.1 ha).1
    simp at this;omega
 refine⟨fun j hj hne a b ha hb=>?_,fun j hj hp hi a b ha hb=>?_⟩
 . have hl:=(aK.1 ha).1
   simp at hl;exact h j hj a b (hg _ _ hne ha) (hg _ _ oA hb)
 . have hl:=(aK.1 ha).1
   simp at hl;omega
theorem Hz{ys:List α}(h:uz lt ys 0):Heap lt ys:=fun j hj a b ha hb=>h.1 j hj oA a b ha hb
theorem HY{ys:List α}{i:Nat}{a b:α}(h:uz lt ys i)(hi:ys[i]? = some a)(hu:ys[(i - 1) / 2]? = some b)(hn:¬ lt a b):Heap lt ys:=by
 intro j hj c d hc hd;by_cases hji:j=i
 . subst hji
   rw[hi] at hc;rw[hu] at hd;cases hc;cases hd;exact hn
 . exact h.1 j hj hji c d hc hd
theorem IL(ho:Swo lt){ys:List α}{i:Nat}{a b:α}(h:uz lt ys i)(h0:0<i)(hi:ys[i]? = some a)(hu:ys[(i - 1) / 2]? = some b)(hl:lt a b):uz lt (swp ys i ((i - 1) / 2) a b) ((i - 1) / 2):=by
 have hne:i ≠ (i - 1) / 2:=oA;have hg:=swp_get hi hu hne;refine⟨fun j hj hju c d hc hd=>?_,fun j hj hp hu0 c d hc hd=>?_⟩
 . rw[hg] at hc hd
   rw[if_neg hju] at hc;by_cases hji:j=i
   . subst hji
     rw[if_pos rfl] at hc;rw[if_pos rfl] at hd;cases hc;cases hd;exact ho.asymm _ _ hl
   . rw[if_neg hji] at hc
     by_cases hpu:(j - 1) / 2=(i - 1) / 2
     . rw[if_pos hpu] at hd
       cases hd;have h1:¬ lt c b:=h.1 j hj hji c b hc (by rw[hpu];exact hu)
       -- c not below b,a below b
       exact ho.trans _ _ _ (ho.asymm _ _ hl) h1
     . rw[if_neg hpu] at hd
       by_cases hpi:(j - 1) / 2=i
       . rw[if_pos hpi] at hd
         cases hd;exact h.2 j hj hpi h0 c b hc hu
       . rw[if_neg hpi] at hd
         exact h.1 j hj hji c d hc hd
 . rw[hg] at hc hd
   rw[if_neg oA,if_neg oA] at hd;have hju:j ≠ (i - 1) / 2:=oA;rw[if_neg hju] at hc;have hub:¬ lt b d:=h.1 ((i - 1) / 2) hu0 oA b d hu hd;by_cases hji:j=i
   . subst hji
     rw[if_pos rfl] at hc;cases hc;exact hub
   . rw[if_neg hji] at hc
     have h1:¬ lt c b:=h.1 j hj hji c b hc (by rw[hp];exact hu);exact ho.trans _ _ _ hub h1
theorem PZ(ho:Swo lt){ys:List α}(h:Heap lt ys){a:α}(h0:ys[0]? = some a):∀ (j:Nat) b,ys[j]? = some b->¬ lt b a:=by
 intro j
 induction j using Nat.strongRecOn with
 | _ j ih=>
  intro b hb;by_cases hj:j=0
  . subst hj;rw[h0] at hb;cases hb;exact ho.irrefl _
  . have hl:=(aK.1 hb).1
    have hpl:(j - 1) / 2<ys.length:=oA;have hp:=aC hpl;exact ho.trans _ _ _ (ih ((j - 1) / 2) oA _ hp) (h j oA b _ hb hp)
theorem OE{ys:List α}(h:Heap lt ys){l:Nat}(b:α):uD lt ((ys.set 0 b).take l) 0:=by
 refine⟨fun j hj hne c d hc hd=>?_,fun j hj hp h0=>absurd h0 oA⟩;have hjl:j<l:=by have:=(aK.1 hc).1;rw[List.length_take] at this;omega
 rw[List.getElem?_take_of_lt hjl,List.getElem?_set_ne oA] at hc;rw[List.getElem?_take_of_lt oA,List.getElem?_set_ne oA] at hd;exact h j hj c d hc hd
theorem P5{ys:List α}{a b:α}(h0:ys[0]? = some a)(hb:ys[ys.length - 1]? = some b):(a :: (ys.set 0 b).take (ys.length - 1)).Perm ys:=by
 cases ys with
 | nil=>simp at h0
 | cons y ys=>
  simp at h0;subst h0;simp only[List.length_cons,Nat.add_sub_cancel] at hb ⊢
  cases hn:ys.length with
  | zero=>have:=List.eq_nil_of_length_eq_zero hn;subst this;simp
  | succ n=>
   rw[hn] at hb;simp only[List.getElem?_cons_succ] at hb;simp only[List.set_cons_zero,List.take_succ_cons];have hy:ys=ys.take n++[b]:=by
    apply List.ext_getElem?;intro k;rcases Nat.lt_trichotomy k n with hk|hk|hk
    . rw[List.getElem?_append_left (by rw[List.length_take];omega),List.getElem?_take_of_lt hk]
    . subst hk
      rw[List.getElem?_append_right (by rw[List.length_take];omega),hb];simp[List.length_take,hn]
    . rw[List.getElem?_eq_none oA,List.getElem?_eq_none (by simp[List.length_take];omega)]
   have h1:(y :: b :: ys.take n).Perm (y :: (ys.take n++[b])):=List.Perm.cons _ (List.perm_append_singleton b _).symm;rw[<- hy] at h1;exact h1
theorem NH{ys:List α}{i:Nat}{a:α}(h:uD lt ys i)(hi:ys[i]? = some a)(hn:∀ (j:Nat) b,2*i+1<=j->j<=2*i+2->ys[j]? = some b->¬ lt b a):Heap lt ys:=by
 intro j hj c d hc hd;by_cases hp:(j - 1) / 2=i
 . rw[hp,hi] at hd
   cases hd;exact hn j c oA oA hc
 . exact h.1 j hj hp c d hc hd
theorem NI(ho:Swo lt){ys:List α}{i k:Nat}{a b:α}(h:uD lt ys i)(hi:ys[i]? = some a)(hk:ys[k]? = some b)(h1:2*i+1<=k)(h2:k<=2*i+2)(hl:lt b a)
    (hn:∀ (j:Nat) c,2*i+1<=j->j<=2*i+2->ys[j]? = some c->¬ lt c b):uD lt (swp ys i k a b) k:=by
 have hg:=swp_get hi hk oA;refine⟨fun j hj hpk c d hc hd=>?_,fun j hj hpk hk0 c d hc hd=>?_⟩
 . rw[hg] at hc hd
   rw[if_neg hpk] at hd;by_cases hpi:(j - 1) / 2=i
   . rw[if_pos hpi] at hd
     cases hd;by_cases hjk:j=k
     . rw[if_pos hjk] at hc;cases hc;exact ho.asymm _ _ hl
     . rw[if_neg hjk,if_neg oA] at hc
       exact hn j c oA oA hc
   . rw[if_neg hpi] at hd
     have hjk:j ≠ k:=oA;rw[if_neg hjk] at hc;by_cases hji:j=i
     . rw[if_pos hji] at hc
       cases hc
       -- the old child b stands at i;its upper one is d
       subst hji;exact h.2 k oA oA hj b d hk hd
     . rw[if_neg hji] at hc
       exact h.1 j hj hpi c d hc hd
 . rw[hg] at hc hd
   have hpi:(k - 1) / 2=i:=oA;rw[hpi,if_neg oA,if_pos rfl] at hd;cases hd;rw[if_neg oA,if_neg oA] at hc;exact h.1 j hj oA c b hc (by rw[hpk];exact hk)
end
end Go.Vx.Hp
namespace Go.Vx
open Go.RowKit
def Cj(T:Tab)(E:TypeId → List Sh → Bool):List Field → Nat → List Sh → Bool
 | [],_,sh=>sh.isEmpty
 | f :: r,off,sh=>f.name != "_" && f.offset == off && (match T f.type with
  | some ti=>Nat.ble 1 ti.size && Nat.ble ti.size sh.length && E f.type (sh.take ti.size) && Cj T E r (off+ti.size) (sh.drop ti.size)
  | none=>false)
def Cm(E:TypeId->List Sh->Bool)(e:TypeId)(sz:Nat):Nat->List Sh->Bool
 | 0,sh=>sh.isEmpty
 | n+1,sh=>Nat.ble 1 sz && Nat.ble sz sh.length && E e (sh.take sz) && Cm E e sz n (sh.drop sz)
def eqB(P:Program)(T:Tab):Nat->TypeId->List Sh->Bool
 | 0,_,_=>false
 | d+1,t,sh=>match T t with
  | some ⟨1,_,.int k,_⟩=>match sh with|[.i k']=>Nat.beq (ikn k') (ikn k)|_=>false
  | some ⟨1,_,.str,_⟩=>match sh with|[.s]=>true|_=>false
  | some ⟨1,_,.bool,_⟩=>match sh with|[.b]=>true|_=>false
  | some ⟨_,_,.struct _,_⟩=>!P.stoodInHeld t && (match P.underlying t with|some (.struct fa)=>Cj T (eqB P T d) fa.toList 0 sh|_=>false)
  | some ⟨_,_,.array n e,_⟩=>(match T e with|some ti=>Cm (eqB P T d) e ti.size n sh|none=>false)
  | _=>false
def Holds(ti:TI)(v:Value)(x:List D):Prop:=
 match ti.agg with
 | true=>∃ vs:Array Value,v = .agg vs/\vs.size=x.length/\∀ (j:Nat) u d,vs[j]? = some u->x[j]? = some d->lq d u
 | false=>∃ d,x=[d]/\lq d v
def EqD(P:Program)(T:Tab)(dd:Nat)(t:TypeId)(sh:List Sh):Prop:=
 ∀ (w:World) (ti:TI) (a b:Value) (x y:List D),T t=some ti->shB sh x=true->shB sh y=true->Holds ti a x->Holds ti b y->∃ r:Bool,(Op.equalIn dd t a b).run P w = .ok r w/\(r=true ↔ dM x y)
theorem OG(a b:D)(x y:List D)(h:x.length=y.length):dM (a :: x) (b :: y) ↔ eqD a b/\dM x y:=by
 cases x with
 | nil=>cases y with
  | nil=>simp[dM]
  | cons=>simp at h
 | cons c x=>cases y with
  | nil=>simp at h
  | cons d y=>simp[dM]
theorem He:∀ (x1 y1 x2 y2:List D),x1.length=y1.length->x2.length=y2.length->(dM (x1++x2) (y1++y2) ↔ dM x1 y1/\dM x2 y2)
 | [],[],x2,y2,_,_=>by simp[dM]
 | [],_ :: _,_,_,h,_=>by simp at h
 | _ :: _,[],_,_,h,_=>by simp at h
 | a :: x1,b :: y1,x2,y2,h1,h2=>by
  simp only[List.length_cons,Nat.add_right_cancel_iff] at h1;rw[List.cons_append,List.cons_append,OG _ _ _ _ (by simp[h1,h2]),OG _ _ _ _ h1,He x1 y1 x2 y2 h1 h2,and_assoc]
theorem zM:∀ {sh:List Sh} {x:List D},shB sh x=true->x.length=sh.length
 | [],x,h=>by rw[vP h];rfl
 | a :: s,x,h=>by
  obtain⟨c,r,rfl,_,h2⟩:=qP h;simp[zM h2]
theorem zY:∀ {sh:List Sh} {x:List D} (n:Nat),shB sh x=true->shB (sh.take n) (x.take n)=true/\shB (sh.drop n) (x.drop n)=true
 | [],x,n,h=>by rw[vP h];simp[shB]
 | a :: s,x,0,h=>by simp[shB,h]
 | a :: s,x,n+1,h=>by
  obtain⟨c,r,rfl,h1,h2⟩:=qP h;obtain⟨h3,h4⟩:=zY n h2;simp[shB,h1,h3,h4]
section
variable {P : Program} {T : Tab}
theorem Dt(hT:TOk P T)(w:World){t:TypeId}{ti:TI}(ht:T t=some ti){xs:Array Value}{x:List D}(hl:xs.size=x.length)(hp:∀ (j:Nat) u d,xs[j]? = some u->x[j]? = some d->lq d u){off:Nat}(hle:off+ti.size<=x.length)(h1:ti.agg=false->ti.size=1) :
    ∃ a,(part t xs off).run P w = .ok a w/\Holds ti a ((x.drop off).take ti.size):=by
 have hg:=hT t ti ht
 cases hag:ti.agg with
 | true=>
  refine⟨.agg (xs.extract off (off+ti.size)),?_,?_⟩
  . simp[part,hg.agg,hag,hg.size]
  . unfold Holds
    rw[hag];refine⟨_,rfl,by simp;omega,fun j u d h2 h3=>?_⟩;rw[Array.getElem?_extract] at h2;rw[List.getElem?_take] at h3;split at h2
    . split at h3
      . rw[List.getElem?_drop] at h3
        exact hp _ _ _ h2 h3
      . cases h3
    . cases h2
 | false=>
  have hs:=h1 hag;have hlt:off<xs.size:=oA;refine⟨xs[off],?_,?_⟩
  . simp[part,hg.agg,hag,hlt]
  . unfold Holds
    rw[hag];have hx:off<x.length:=oA;refine⟨x[off],?_,hp off _ _ (Array.getElem?_eq_getElem hlt) (aC hx)⟩;rw[hs,List.drop_eq_getElem_cons hx];rfl
theorem NJ(hT:TOk P T)(w:World){dd:Nat}{E:TypeId->List Sh->Bool}(hE:∀ t sh,E t sh=true->EqD P T dd t sh/\∀ ti,T t=some ti->ti.agg=false->ti.size=1){xs ys:Array Value}{X Y:List D}(hlx:xs.size=X.length)(hly:ys.size=Y.length)
    (hpx:∀ (j:Nat) u d,xs[j]? = some u->X[j]? = some d->lq d u)(hpy:∀ (j:Nat) u d,ys[j]? = some u->Y[j]? = some d->lq d u) :
    ∀ (fs:List Field) (off:Nat) (sh:List Sh),Cj T E fs off sh=true->shB sh (X.drop off)=true->shB sh (Y.drop off)=true ->
     ∃ r:Bool,(Op.eqFields dd xs ys fs).run P w = .ok r w/\(r=true ↔ dM (X.drop off) (Y.drop off))
 | [],off,sh,h,hx,hy=>by
  have:sh=[]:=by simpa[Cj] using h
  subst this;refine⟨true,by simp[Op.eqFields],?_⟩;rw[vP hx,vP hy];simp[dM]
 | f :: fs,off,sh,h,hx,hy=>by
  simp only[Cj,Bool.and_eq_true,bne_iff_ne,ne_eq,beq_iff_eq] at h;obtain⟨⟨hn,ho⟩,h⟩:=h;split at h
  case h_2=>cases h
  rename_i ti hti;simp only[Bool.and_eq_true,Nat.ble_eq] at h;obtain⟨⟨⟨hs1,hs2⟩,he⟩,hr⟩:=h;obtain⟨hEq,hone⟩:=hE _ _ he;have hXl:=zM hx;have hYl:=zM hy;rw[List.length_drop] at hXl hYl;obtain⟨a,ha,hA⟩:=Dt hT w hti hlx hpx (off:=off) oA (hone ti hti);obtain⟨b,hb,hB⟩:=Dt hT w hti hly hpy (off:=off) oA (hone ti hti);obtain⟨hx1,hx2⟩:=zY ti.size hx;obtain⟨hy1,hy2⟩:=zY ti.size hy;obtain⟨r,hrr,hiff⟩:=hEq w ti a b _ _ hti hx1 hy1 hA hB;rw[List.drop_drop] at hx2 hy2;obtain⟨r',hr',hiff'⟩:=NJ hT w hE hlx hly hpx hpy fs (off+ti.size) _ hr hx2 hy2;have hsplit:dM (X.drop off) (Y.drop off) ↔ dM ((X.drop off).take ti.size) ((Y.drop off).take ti.size)/\dM (X.drop (off+ti.size)) (Y.drop (off+ti.size)):=by
   have h1:X.drop off=(X.drop off).take ti.size++X.drop (off+ti.size):=by rw[<- List.drop_drop,List.take_append_drop]
   have h2:Y.drop off=(Y.drop off).take ti.size++Y.drop (off+ti.size):=by rw[<- List.drop_drop,List.take_append_drop]
   have:=He ((X.drop off).take ti.size) ((Y.drop off).take ti.size) (X.drop (off+ti.size)) (Y.drop (off+ti.size)) sO sO;rw[<- h1,<- h2] at this;exact this
  rw[hsplit];simp only[Op.eqFields,hn,ne_eq,not_false_eq_true,if_true,Sem.run_bind,ho,ha,hb,hrr,Result.andThen_ok]
  cases r with
  | false=>exact⟨false,sI,by simp;intro e;exact absurd (hiff.2 e) sI⟩
  | true=>exact⟨r',by simpa using hr',by rw[hiff'];simp[hiff.1 rfl]⟩
theorem NK(hT:TOk P T)(w:World){dd:Nat}{E:TypeId->List Sh->Bool}(hE:∀ t sh,E t sh=true->EqD P T dd t sh/\∀ ti,T t=some ti->ti.agg=false->ti.size=1){xs ys:Array Value}{X Y:List D}(hlx:xs.size=X.length)(hly:ys.size=Y.length)
    (hpx:∀ (j:Nat) u d,xs[j]? = some u->X[j]? = some d->lq d u)(hpy:∀ (j:Nat) u d,ys[j]? = some u->Y[j]? = some d->lq d u){e:TypeId}{ti:TI}(hti:T e=some ti) :
    ∀ (n i:Nat) (sh:List Sh),Cm E e ti.size n sh=true->shB sh (X.drop (i*ti.size))=true->shB sh (Y.drop (i*ti.size))=true ->
     ∃ r:Bool,(Op.eqItems dd e ti.size xs ys (List.range' i n)).run P w = .ok r w/\(r=true ↔ dM (X.drop (i*ti.size)) (Y.drop (i*ti.size)))
 | 0,i,sh,h,hx,hy=>by
  have:sh=[]:=by simpa[Cm] using h
  subst this;refine⟨true,by simp[Op.eqItems],?_⟩;rw[vP hx,vP hy];simp[dM]
 | n+1,i,sh,h,hx,hy=>by
  simp only[Cm,Bool.and_eq_true,Nat.ble_eq] at h;obtain⟨⟨⟨hs1,hs2⟩,he⟩,hr⟩:=h;obtain⟨hEq,hone⟩:=hE _ _ he;have hXl:=zM hx;have hYl:=zM hy;rw[List.length_drop] at hXl hYl;obtain⟨a,ha,hA⟩:=Dt hT w hti hlx hpx (off:=i*ti.size) oA (hone ti hti);obtain⟨b,hb,hB⟩:=Dt hT w hti hly hpy (off:=i*ti.size) oA (hone ti hti);obtain⟨hx1,hx2⟩:=zY ti.size hx;obtain⟨hy1,hy2⟩:=zY ti.size hy;obtain⟨r,hrr,hiff⟩:=hEq w ti a b _ _ hti hx1 hy1 hA hB;rw[List.drop_drop,show i*ti.size+ti.size=(i+1)*ti.size by rw[Nat.succ_mul]] at hx2 hy2;obtain⟨r',hr',hiff'⟩:=NK hT w hE hlx hly hpx hpy hti n (i+1) _ hr hx2 hy2;have hsplit:dM (X.drop (i*ti.size)) (Y.drop (i*ti.size)) ↔ dM ((X.drop (i*ti.size)).take ti.size) ((Y.drop (i*ti.size)).take ti.size)/\dM (X.drop ((i+1)*ti.size)) (Y.drop ((i+1)*ti.size)):=by
   have e1:(i+1)*ti.size=i*ti.size+ti.size:=by rw[Nat.succ_mul]
   have h1:X.drop (i*ti.size)=(X.drop (i*ti.size)).take ti.size++X.drop ((i+1)*ti.size):=by rw[e1,<- List.drop_drop,List.take_append_drop]
   have h2:Y.drop (i*ti.size)=(Y.drop (i*ti.size)).take ti.size++Y.drop ((i+1)*ti.size):=by rw[e1,<- List.drop_drop,List.take_append_drop]
   have:=He ((X.drop (i*ti.size)).take ti.size) ((Y.drop (i*ti.size)).take ti.size) (X.drop ((i+1)*ti.size)) (Y.drop ((i+1)*ti.size)) sO sO;rw[<- h1,<- h2] at this;exact this
  rw[hsplit];rw[List.range'_succ];simp only[Op.eqItems,Sem.run_bind,ha,hb,hrr,Result.andThen_ok]
  cases r with
  | false=>exact⟨false,sI,by simp;intro e;exact absurd (hiff.2 e) sI⟩
  | true=>exact⟨r',by simpa using hr',by rw[hiff'];simp[hiff.1 rfl]⟩
theorem Ij(hT:TOk P T)(c:Nat):∀ (d:Nat) (t:TypeId) (sh:List Sh),eqB P T d t sh=true->EqD P T (c+d) t sh/\∀ ti,T t=some ti->ti.agg=false->ti.size=1
 | 0,_,_,h=>by simp[eqB] at h
 | d+1,t,sh,h=>by
  simp only[eqB] at h;split at h
  . rename_i bb k z hti
    refine⟨?_,fun ti h1 _=>by rw[hti] at h1;cases h1;rfl⟩;split at h
    case h_2=>cases h
    rename_i k';have:=Ei h;subst this;intro w ti a b x y ht hx hy ha hb;rw[hti] at ht;cases ht;obtain⟨d1,rfl,ha⟩:=ha;obtain⟨d2,rfl,hb⟩:=hb;obtain⟨_,_,e1,h1,_⟩:=qP hx;obtain⟨_,_,e2,h2,_⟩:=qP hy;cases e1;cases e2;rcases vO h1 with⟨_,n,rfl,e⟩|⟨_,_,e⟩|⟨_,_,e⟩<;>cases e
    rcases vO h2 with⟨_,m,rfl,e⟩|⟨_,_,e⟩|⟨_,_,e⟩<;>cases e
    simp only[lq] at ha hb;subst ha hb;have hu:=(hT _ _ hti).kind;refine⟨n == m,by simp[Op.equalIn,dF hu],by simp[dM,eqD]⟩
  . rename_i bb z hti
    refine⟨?_,fun ti h1 _=>by rw[hti] at h1;cases h1;rfl⟩;split at h
    case h_2=>cases h
    intro w ti a b x y ht hx hy ha hb;rw[hti] at ht;cases ht;obtain⟨d1,rfl,ha⟩:=ha;obtain⟨d2,rfl,hb⟩:=hb;obtain⟨_,_,e1,h1,_⟩:=qP hx;obtain⟨_,_,e2,h2,_⟩:=qP hy;cases e1;cases e2;rcases vO h1 with⟨_,n,_,e⟩|⟨l,rfl,e⟩|⟨_,_,e⟩<;>cases e
    rcases vO h2 with⟨_,m,_,e⟩|⟨m,rfl,e⟩|⟨_,_,e⟩<;>cases e
    simp only[lq] at ha hb;subst ha hb;have hu:=(hT _ _ hti).kind;refine⟨bK l == bK m,by simp[Op.equalIn,dF hu],?_⟩;rw[beq_toListBytes,sN,sN];simp[dM,eqD]
  . rename_i bb z hti
    refine⟨?_,fun ti h1 _=>by rw[hti] at h1;cases h1;rfl⟩;split at h
    case h_2=>cases h
    intro w ti a b x y ht hx hy ha hb;rw[hti] at ht;cases ht;obtain⟨d1,rfl,ha⟩:=ha;obtain⟨d2,rfl,hb⟩:=hb;obtain⟨_,_,e1,h1,_⟩:=qP hx;obtain⟨_,_,e2,h2,_⟩:=qP hy;cases e1;cases e2;rcases vO h1 with⟨_,n,_,e⟩|⟨_,_,e⟩|⟨p,rfl,e⟩<;>cases e
    rcases vO h2 with⟨_,m,_,e⟩|⟨_,_,e⟩|⟨q,rfl,e⟩<;>cases e
    simp only[lq] at ha hb;obtain⟨x,rfl,hx⟩:=ha;obtain⟨y,rfl,hy⟩:=hb;have hu:=(hT _ _ hti).kind;refine⟨x == y,by simp[Op.equalIn,dF hu],?_⟩;simp only[dM,eqD,<- hx,<- hy];cases x<;>cases y<;>simp
  . rename_i n bb fs z hti
    refine⟨?_,fun ti h1 h2=>by rw[hti] at h1;cases h1;simp[TI.agg] at h2⟩;simp only[Bool.and_eq_true,Bool.not_eq_true'] at h;obtain⟨hst,h⟩:=h;split at h
    case h_2=>cases h
    rename_i fa hu;intro w ti a b x y ht hx hy ha hb;rw[hti] at ht;cases ht;obtain⟨xs,rfl,hlx,hpx⟩:=ha;obtain⟨ys,rfl,hly,hpy⟩:=hb;have hfs:P.fieldsOf t=fa:=by simp[Program.fieldsOf,hu]
    obtain⟨r,hr,hiff⟩:=NJ hT w (fun t sh h=>Ij hT c d t sh h) hlx hly hpx hpy fa.toList 0 sh h (by simpa using hx) (by simpa using hy);refine⟨r,?_,by simpa using hiff⟩;rw[show c+(d+1)=(c+d)+1 from rfl,run_equalIn_struct w (c+d) t xs ys (by rw[hfs];exact hu) hst,hfs];exact hr
  . rename_i m bb n e z hti
    refine⟨?_,fun ti h1 h2=>by rw[hti] at h1;cases h1;simp[TI.agg] at h2⟩;split at h
    case h_2=>cases h
    rename_i te hte;intro w ti a b x y ht hx hy ha hb;rw[hti] at ht;cases ht;obtain⟨xs,rfl,hlx,hpx⟩:=ha;obtain⟨ys,rfl,hly,hpy⟩:=hb;have hu:=(hT _ _ hti).kind;obtain⟨i,zz,hi,his,_⟩:=(hT _ _ hte).info;have hce:P.cellsOf e=te.size:=by rw[Program.cellsOf,hi];exact his
    obtain⟨r,hr,hiff⟩:=NK hT w (fun t sh h=>Ij hT c d t sh h) hlx hly hpx hpy hte n 0 sh h (by simpa using hx) (by simpa using hy);refine⟨r,?_,by simpa using hiff⟩;rw[show c+(d+1)=(c+d)+1 from rfl,run_equalIn_array w (c+d) xs ys hu hi,hce,List.range_eq_range'];exact hr
  . cases h
theorem EqT.KZ(hT:TOk P T){t:TypeId}{sh:List Sh}{ti:TI}(ht:T t=some ti)(hag:ti.agg=true)(h:eqB P T 10 t sh=true):EqT P t sh:=by
 intro x y vs us w hx hy hl1 hl2 hp1 hp2;have:=(Ij hT 9990 10 t sh h).1 w ti (.agg vs) (.agg us) x y ht hx hy (by unfold Holds;rw[hag];exact⟨vs,rfl,hl1,hp1⟩) (by unfold Holds;rw[hag];exact⟨us,rfl,hl2,hp2⟩);exact this
end
end Go.Vx
namespace Go.Vx
open Go.RowKit
def ak:List Nat->List D->List (Nat × D)->List (Nat × D)
 | t :: ts,d :: ds,e=>(t,d) :: ak ts ds e
 | _,_,e=>e
def mg:List Nat->List D->List (Nat × D)->(List (Nat × D)->Prop)->Prop
 | t :: ts,d :: ds,e,K=>mg ts ds e fun e=>K ((t,d) :: e)
 | _,_,e,K=>K e
theorem qJ:∀ (ts:List Nat) (ds:List D) (e:List (Nat × D)) (K:List (Nat × D)->Prop),mg ts ds e K=K (ak ts ds e)
 | [],_,_,_=>by simp[mg,ak]
 | _ :: _,[],_,_=>by simp[mg,ak]
 | t :: ts,d :: ds,e,K=>by simp only[mg,ak];exact qJ ts ds e _
def je:List Nat->List Nat->List Nat
 | [],m=>m
 | t :: l,m=>t :: je l m
section
variable {P : Program} {T : Tab} {s : St}
theorem NM{k kb:Nat}{env:List (Nat × D)}:∀ (L:List Nat) (K:List (Nat × D)->Prop),rJ k kb env L K->∃ e,K e
 | [],K,h=>⟨_,h⟩
 | t :: ts,K,h=>by
  simp only[rJ,D.force_eq,jv] at h;exact let ⟨e,he⟩:=NM ts _ h.2;⟨_,he⟩
theorem sZ{L:List Nat}{k kb:Nat}{K:St->Prop}(h:dN L k kb s K):∃ s',K s':=by
 obtain⟨env,box,row,n⟩:=s;simp only[dN] at h;obtain⟨e,h⟩:=NM _ _ h;obtain⟨h,_⟩:=qM h;rw[jv] at h;obtain⟨h,_⟩:=qM h.2;exact⟨_,h⟩
theorem Ok.aT{c:Code}{Q:Exit->St->Prop}{ι:Type}(L Cs:List Nat)(k kb:Nat)(C:ι->List D)(B:ι->List (List D)->List (List D))(R:ι->Rows->Rows)(I:ι->Prop)(m:ι->Nat)(x0:ι)(h0:I x0)
    (h:dN L k kb s fun s0=>match s0 with
     | ⟨env,box,row,n⟩=>(dN (je Cs L) k kb s fun s1=>s1=⟨ak Cs (C x0) env,B x0 box,R x0 row,n⟩) /\
      ∀ x,I x->mg Cs (C x) env fun env'=>Ok P T c (Bg (fun s'=>∃ x',m x' < m x/\I x'/\dN (je Cs L) k kb s' fun s1=>s1=⟨ak Cs (C x') env,B x' box,R x' row,n⟩) Q) ⟨env',B x box,R x row,n⟩):Ok P T (.loop c) Q s:=by
 obtain⟨⟨env,box,row,n⟩,h1,h2⟩:=sZ h;exact Ok.oJ (je Cs L) k kb (fun x=>⟨ak Cs (C x) env,B x box,R x row,n⟩) I m x0 h0 h1 fun x hx=>by
  have:=h2 x hx;rwa [qJ] at this
theorem Ok.wS{c:Code}{Q:Exit->St->Prop}{ι:Type}(L Cs:List Nat)(k kb:Nat)(C:ι->List D)(B:ι->List (List D)->List (List D))(R:ι->Rows->Rows)(I:Exit->ι->Prop)
    (h:dN L k kb s fun s0=>match s0 with
     | ⟨env,box,row,n⟩=>(Ok P T c (fun e s'=>∃ x,I e x/\dN (je Cs L) k kb s' fun s1=>s1=⟨ak Cs (C x) env,B x box,R x row,n⟩) s) /\
      ∀ e x,I e x->mg Cs (C x) env fun env'=>Q e ⟨env',B x box,R x row,n⟩):Ok P T c Q s:=by
 obtain⟨⟨env,box,row,n⟩,h1,h2⟩:=sZ h;exact Ok.fC (je Cs L) k kb (fun x=>⟨ak Cs (C x) env,B x box,R x row,n⟩) I h1 fun e x hx=>by
  have:=h2 e x hx;rwa [qJ] at this
theorem Ok.acs{c1 c2:Code}{Q:Exit->St->Prop}{ι:Type}(L Cs:List Nat)(k kb:Nat)(C:ι->List D)(B:ι->List (List D)->List (List D))(R:ι->Rows->Rows)(I:ι->Prop)
    (h:dN L k kb s fun s0=>match s0 with
     | ⟨env,box,row,n⟩=>(Ok P T c1 (Bg (fun s'=>∃ x,I x/\dN (je Cs L) k kb s' fun s1=>s1=⟨ak Cs (C x) env,B x box,R x row,n⟩) Q) s) /\
      ∀ x,I x->mg Cs (C x) env fun env'=>Ok P T c2 Q ⟨env',B x box,R x row,n⟩):Ok P T (.seq c1 c2) Q s:=by
 obtain⟨⟨env,box,row,n⟩,h1,h2⟩:=sZ h;exact Ok.uK (je Cs L) k kb (fun x=>⟨ak Cs (C x) env,B x box,R x row,n⟩) I h1 fun x hx=>by
  have:=h2 x hx;rwa [qJ] at this
end
def bD:Bool->D|true=>.tt|false=>.ff
theorem aF.tt{P:Program}{T:Tab}{f:FuncId}{ds:List D}{p:Prop}(h:aF P T f ds (fun d _=>d = .b p))(hp:p):aF P T f ds (fun d _=>d = .tt):=by
 refine⟨h.call,fun V w args hV hl hR=>(h.run V w args hV hl hR).mono ?_⟩;rintro e w' ⟨V',ω,row,v,d,rfl,rfl,hRS,hres⟩;obtain⟨x,rfl,hx⟩:=hRS.bool;obtain rfl:x=true:=hx.2 hp;exact⟨V',ω,row,_,_,rfl,rfl,.imm _ _ .tt,hres⟩
theorem ix{α:Type}{l:List α}{f:α->List D}{K:List D->Prop}(n:Nat){a:α}(ha:l[n]? = some a)(h:K (f a)):0<=(n:Int)/\∃ row,(l.map f)[((n:Nat):Int).toNat]? = some row/\K row:=
 ⟨oA,_,by simp[ha],h⟩
theorem ixI{α:Type}{l:List α}{f:α->List D}{K:List D->Prop}{n:Int}(h0:0<=n){a:α}(ha:l[n.toNat]? = some a)(h:K (f a)):0<=n/\∃ row,(l.map f)[n.toNat]? = some row/\K row:=
 ⟨h0,_,by simp[ha],h⟩
theorem vU{α:Type}{l:List α}{f:α->List D}{K:List D->Prop}{n:Int}(h0:0<=n)(hn:n.toNat<l.length)(h:∀ a,l[n.toNat]? = some a->K (f a)):0<=n/\∃ row,(l.map f)[n.toNat]? = some row/\K row:=
 ixI h0 (aC hn) (h _ (aC hn))
theorem rd{α:Type}{l:List α}{f:α->List D}{K:List D->Prop}{e e':Nat}{n:Nat}{a:α}(he:e=e')(ha:l[n]? = some a)(h:K (f a)):e=e'/\∃ row,(l.map f)[n]? = some row/\K row:=
 ⟨he,_,by simp[ha],h⟩
theorem st{α:Type}{l:List α}{f:α->List D}{n off:Nat}{ds:List D}{K:List (List D)->Prop}{a:α}(a':α)(ha:l[n]? = some a)(hl:off+ds.length<=(f a).length)(he:setCells (f a) off ds=f a')
    (h:K ((l.set n a').map f)):∃ rw,(l.map f)[n]? = some rw/\off+ds.length<=rw.length/\∃ xs',xs'=(l.map f).set n (setCells rw off ds)/\K xs':=
 ⟨f a,by simp[ha],hl,_,rfl,by rw[he,<- List.map_set];exact h⟩
theorem tu{α:Type}(f:α->List D)(l:List α):(l.map f).take l.length=l.map f:=au sI
theorem zZ{α:Type}(f:α->List D)(l:List α):(l.map f).drop l.length=[]:=List.drop_of_length_le sI
theorem toNat_cast(n:Nat):((n:Nat):Int).toNat=n:=rfl
end Go.Vx
namespace Go.Proofs.YtnlingegeangmaaGreatDoor
open Go Go.Vx
structure aj where
 kind:Int
 value:Int
 len:Int
 out:Int
def aj.row(r:aj):List D:=[.i .i64 r.kind,.i .i64 r.value,.i .i64 r.len,.i .i64 r.out]
structure Num where
 r:aj
 at_:Int
def Num.row(r:Num):List D:=[.i .i64 r.r.kind,.i .i64 r.r.value,.i .i64 r.r.len,.i .i64 r.r.out,.i .i64 r.at_]
def dn(r s:Num):Prop:=if r.r.len ≠ s.r.len then s.r.len<r.r.len else if r.r.value ≠ s.r.value then r.r.value<s.r.value else if r.r.kind ≠ s.r.kind then r.r.kind<s.r.kind else r.at_<s.at_
theorem NP(r s:Num):aF Tryz.prog T 114 [.agg [],.agg r.row,.agg s.row] (fun d _=>d = .b (dn r s)):=by
 refine aF.aB tok Tryz.func114 rfl Tryz.call114 sI ?_
 repeat' (first|refine Ok.seq ?_|((first|refine Ok.region tok ?_|refine Ok.cond ?_);conv=>whnf)|refine Ok.block ?_|((first|refine Ok.skip ?_|refine Ok.ret ?_);conv=>whnf)|(refine⟨fun _=>?_,fun _=>?_⟩)|fail)
 all_goals left
 all_goals (conv=>whnf)
 all_goals exact qw (by simp[dn, *])
theorem Ri{α:Type}(l:List α)(f:α->List D)(k:Nat)(h:k<l.length):(l.map f)[((k:Nat):Int).toNat]? = some (f l[k]):=by simp[h]
theorem lY:Hp.Swo dn:=by
 refine⟨fun a=>?_,fun a b c=>?_,fun a b=>?_⟩
 . simp[dn]
 . intro h1 h2
   unfold dn at *;split<;>split at h1<;>split at h2<;>(try split at h1)<;>(try split at h2)<;>(try split)<;>(try split at h1)<;>(try split at h2)<;>(try split)<;>omega
 . intro h1
   unfold dn at *;split<;>split at h1<;>(try split at h1)<;>(try split)<;>(try split at h1)<;>(try split)<;>omega
theorem jA{α:Type}{l:List α}{f:α->List D}{k:Nat}{a:α}(h:l[k]? = some a):(l.map f)[k]? = some (f a):=by simp[h]
theorem half(i:Nat)(h:0<i):((i:Int) - 1).tdiv 2=(((i - 1) / 2:Nat):Int):=by
 rw[Int.tdiv_eq_ediv_of_nonneg oA];omega
def eG(routes:List aj):List Num:=routes.zipIdx.map fun x=>⟨x.1,x.2⟩
theorem Xi(routes:List aj)(k:Nat)(h:k<routes.length):(eG routes).take (k+1)=(eG routes).take k++[⟨routes[k],k⟩]:=by
 rw[List.take_succ_eq_append_getElem (by simpa[eG] using h)];simp[eG]
def z5:List D:=[.i .i64 0,.i .i64 0,.i .i64 0,.i .i64 0,.i .i64 0]
def ddF(acc:List Num)(r:Num):List Num:=match acc.getLast? with
 | some q=>if q.r.len=r.r.len/\q.r.value=r.r.value then acc else acc++[r]
 | none=>acc++[r]
theorem JM:∀ (ps:List Num),(ps.foldl ddF []).length<=ps.length:=by
 have key:∀ (ps acc:List Num),(ps.foldl ddF acc).length<=acc.length+ps.length:=by
  intro ps
  induction ps with
  | nil=>intro acc;simp
  | cons p ps ih=>
   intro acc;have h1:(ddF acc p).length<=acc.length+1:=by
    unfold ddF;split
    . split<;>simp
    . simp
   have:=ih (ddF acc p);simp only[List.foldl_cons,List.length_cons];omega
 intro ps;simpa using key ps []
theorem NQ(routes:List aj)(room:List (List D))(hlen:routes.length<=270):aF Tryz.prog T 65 [.lst 57 (routes.map aj.row) room]
    (fun d rows=>rows=[]/\∃ ps:List Num,ps.Perm (eG routes)/\ps.Pairwise (fun a b=>¬ dn b a)/\d = .lst 130 ((ps.foldl ddF []).map Num.row) []):=by
 refine aF.aB tok Tryz.func65 rfl Tryz.call65 sI ?_
 repeat' (first|refine Ok.seq ?_|(refine Ok.region tok ?_;conv=>whnf)|fail)
 left
 repeat' (first|refine Ok.seq ?_|(refine Ok.region tok ?_;conv=>whnf)|refine Ok.block ?_|fail)
 refine Ok.oG 0 0 130 rfl rfl ?_;(conv=>whnf);refine Ok.oJ [0,3,12,13,14] 1 1 (fun x:Nat × List Num=>⟨[(0,.lst 57 (routes.map aj.row) room),(3,.bp 0 0),(12,.lst 57 (routes.map aj.row) room),(13,.i .i64 (routes.map aj.row).length),(14,.i .i64 (x.1:Nat))],
  [[.own 0 x.2.length,.fn 114 [.agg []] []]],[some (130,x.2.map Num.row)],65⟩) (fun x=>x.1<=routes.length/\x.2.Perm ((eG routes).take x.1)/\Hp.Heap dn x.2) (fun x=>routes.length - x.1) (0,[]) ⟨Nat.zero_le _,sI,fun j _ a b h=>by simp at h⟩ ?_ ?_
 . (conv=>whnf)
   rfl
 rintro⟨k,ys⟩ ⟨hk,hp,hh⟩;dsimp only
 repeat' (first|refine Ok.seq ?_|((first|refine Ok.region tok ?_|refine Ok.cond ?_);conv=>whnf)|fail)
 refine⟨fun h1=>?_,fun h1=>?_⟩
 . have h1':k<routes.length:=by simpa using h1
   repeat' (first|refine Ok.seq ?_|(refine Ok.region tok ?_;conv=>whnf)|refine Ok.block ?_|(refine Ok.skip ?_;conv=>whnf)|fail)
   refine⟨oA,_,Ri _ _ _ h1',?_⟩;(conv=>whnf)
   repeat' (first|(refine Ok.region tok ?_;conv=>whnf)|fail)
   right;right;left;(conv=>whnf);refine⟨_,_,Tryz.func115,rfl,Tryz.call115,?_⟩;(conv=>whnf);refine Ok.fC [74,77,86,87,88] 1 1 (fun zs:List Num=>⟨[(74,.lst 57 (routes.map aj.row) room),(77,.bp 0 0),(86,.lst 57 (routes.map aj.row) room),(87,.i .i64 (routes.map aj.row).length),(88,.i .i64 (k:Nat))],
    [[.own 0 zs.length,.fn 114 [.agg []] []]],[some (130,zs.map Num.row)],74⟩) (fun e zs=>(e = .normal\/e = .ret)/\zs.Perm (ys++[⟨routes[k],k⟩])/\Hp.Heap dn zs) ?_ ?_
   . repeat' (first|refine Ok.seq ?_|((first|refine Ok.region tok ?_|refine Ok.aW (id:=1) tok follows [(5,6,[]),(4,7,[]),(5,7,[6]),(6,7,[]),(4,10,[]),(5,10,[]),(6,10,[]),(7,10,[])] [.q 0,.q 1,.q 2,.q 3,.q 4,.q 5,.l 6,.l 7,.q 8,.q 9,.l 10] kR ?_);conv=>whnf)|fail)
     refine bU.l ⟨sI,?_⟩;(conv=>whnf);refine⟨sI,_,.inl ⟨rfl,rfl⟩,?_⟩;(conv=>whnf);have hyl:ys.length<=k:=by have:=hp.length_eq;simp[eG] at this;omega
     have hzl:(ys++[(⟨routes[k],k⟩:Num)]).length=ys.length+1:=sI;refine⟨by simp;omega,(ys++[(⟨routes[k],k⟩:Num)]).map Num.row,(ys++[(⟨routes[k],k⟩:Num)]).length,by simp[Num.row],sI,?_⟩;(conv=>whnf);generalize hz:ys++[(⟨routes[k],k⟩:Num)]=zs at hzl ⊢
     repeat' (first|refine Ok.seq ?_|(refine Ok.region tok ?_;conv=>whnf)|refine Ok.block ?_|(refine nI ?_;conv=>whnf)|fail)
     refine Ok.oJ [0,4,74,77,86,87,88] 1 1 (fun x:Nat × List Num=>⟨[(0,.bp 0 0),(4,.i .i64 (x.1:Nat)),(74,.lst 57 (routes.map aj.row) room),(77,.bp 0 0),(86,.lst 57 (routes.map aj.row) room),(87,.i .i64 (routes.map aj.row).length),(88,.i .i64 (k:Nat))],
      [[.own 0 x.2.length,.fn 114 [.agg []] []]],[some (130,x.2.map Num.row)],74⟩) (fun x=>x.1<x.2.length/\x.2.length<=k+1/\x.2.Perm zs/\Hp.uz dn x.2 x.1) (fun x=>x.1) (ys.length,zs) ⟨by dsimp only;omega,by dsimp only;omega,.refl _,by rw[<- hz];exact Hp.Hy hh _⟩ ?_ ?_
     . (conv=>whnf)
       have e1:((zs.length:Int) - 1)=(ys.length:Nat):=oA;simp[e1]
     rintro⟨i,us⟩ ⟨hi,hul,hup,hux⟩;dsimp only at hi hul hup hux ⊢
     repeat' (first|refine Ok.seq ?_|((first|refine Ok.region tok ?_|refine Ok.cond ?_);conv=>whnf)|fail)
     refine⟨fun h2=>?_,fun h2=>?_⟩
     . have h2':0<i:=oA
       repeat' (first|refine Ok.seq ?_|(refine Ok.region tok ?_;conv=>whnf)|refine Ok.block ?_|((first|refine Ok.skip ?_|refine nI ?_);conv=>whnf)|fail)
       refine⟨dC,?_⟩;obtain⟨u,hu⟩:∃ u,u=(i - 1) / 2:=⟨_,rfl⟩;rw[half i h2',<- hu];refine nI ?_;(conv=>whnf);obtain⟨a,ha⟩:∃ a,us[i]? = some a:=⟨_,aC hi⟩;obtain⟨b,hb⟩:∃ b,us[u]? = some b:=⟨_,aC oA⟩
       repeat' (first|refine Ok.seq ?_|(refine Ok.bH tok follows kR ?_;conv=>whnf)|fail)
       refine⟨oA,oA,sI,?_⟩
       repeat' (first|fail)
       refine⟨rfl,_,jA ha,?_⟩;(conv=>whnf);refine⟨oA,oA,sI,?_⟩;(conv=>whnf);refine⟨rfl,_,jA hb,?_⟩;(conv=>whnf);refine⟨_,NP a b,rfl,?_⟩;(conv=>whnf)
       repeat' (first|(refine Ok.cond ?_;conv=>whnf)|fail)
       refine⟨fun h3=>?_,fun h3=>?_⟩
       . repeat' (first|(refine Ok.ret ?_;conv=>whnf)|fail)
         refine⟨us,⟨.inr rfl,hup,Hp.HY hux ha (by rw[<- hu];exact hb) h3⟩,?_⟩;(conv=>whnf)
       . have h3:dn a b:=Classical.not_not.1 h3
         have hne:i ≠ u:=oA;have hb':(us.set i b)[u]? = some b:=by rw[List.getElem?_set_ne hne];exact hb
         repeat' (first|refine Ok.seq ?_|((first|refine Ok.aW (id:=6) tok follows [(3,25,[]),(8,25,[]),(13,25,[]),(16,25,[]),(20,25,[]),(23,25,[]),(3,27,[]),(8,27,[]),(13,27,[]),(16,27,[]),(20,27,[]),(23,27,[]),(25,27,[])] [.q 0,.q 1,.q 2,.q 3,.q 4,.q 5,.q 6,.q 7,.q 8,.q 9,.q 10,.q 11,.q 12,.q 13,.q 14,.q 15,.q 16,.q 17,.q 18,.q 19,.q 20,.q 21,.q 22,.q 23,.q 24,.l 25,.q 26,.l 27] kR ?_|refine Ok.skip ?_);conv=>whnf)|fail)
         refine⟨oA,oA,sI,?_⟩;(conv=>whnf);refine⟨rfl,_,jA hb,?_⟩;(conv=>whnf);refine⟨oA,oA,sI,?_⟩;(conv=>whnf);refine⟨rfl,_,jA ha,?_⟩;(conv=>whnf);refine⟨oA,oA,sI,?_⟩;(conv=>whnf);refine⟨_,jA ha,by simp[Num.row],(us.set i b).map Num.row,by simp[setCells,Num.row,List.map_set],?_⟩;(conv=>whnf);refine⟨oA,oA,sI,?_⟩;(conv=>whnf);refine⟨_,jA hb',by simp[Num.row],(Hp.swp us i (u) a b).map Num.row,by simp[setCells,Num.row,List.map_set,Hp.swp],?_⟩;(conv=>whnf)
         repeat' (first|(refine Ok.region tok ?_;conv=>whnf)|fail)
         refine⟨(u,Hp.swp us i (u) a b),by dsimp only;omega,⟨by rw[Hp.vw];dsimp only;omega,by rw[Hp.vw];exact hul,(Hp.zX ha hb hne).trans hup,by rw[hu] at hb ⊢;exact Hp.IL lY hux h2' ha hb h3⟩,?_⟩;(conv=>whnf);simp[Hp.vw]
     . repeat' (first|(refine Ok.exit ?_;conv=>whnf)|fail)
       have hi0:i=0:=oA;subst hi0;refine⟨us,⟨.inl rfl,hup,Hp.Hz hux⟩,?_⟩;(conv=>whnf)
   . rintro e zs ⟨he,hp2,hh2⟩
     have hzl:zs.length=ys.length+1:=by rw[hp2.length_eq];simp
     rcases he with rfl|rfl
     all_goals
      (conv=>whnf)
      repeat' (first|((first|refine Ok.region tok ?_|refine nI ?_);conv=>whnf)|fail)
      refine⟨(k+1,zs),by dsimp only;omega,⟨by dsimp only;omega,?_,hh2⟩,?_⟩
      . dsimp only at hp ⊢
        rw[Xi _ _ h1'];exact hp2.trans (hp.append_right _)
      . (conv=>whnf)
        simp
 . have hkk:k=routes.length:=by simp at h1;dsimp only at hk;omega
   subst hkk
   repeat' (first|refine Ok.seq ?_|(refine Ok.region tok ?_;conv=>whnf)|refine Ok.block ?_|(refine Ok.exit ?_;conv=>whnf)|fail)
   refine Ok.ghost 6 130 rfl ?_;(conv=>whnf);have hn0:(eG routes).length=routes.length:=by simp[eG]
   dsimp only at hp hh;rw[au oA] at hp;refine Ok.oJ [3,6,25,26] 2 1 (fun x:List Num × List Num=>⟨[(3,.bp 0 0),(6,.own 1 (x.2.foldl ddF []).length),(25,.i .i64 (routes.map aj.row).length),(26,.i .i64 (x.2.length:Nat))],
    [[.own 0 x.1.length,.fn 114 [.agg []] []]],[some (130,x.1.map Num.row),some (130,(x.2.foldl ddF []).map Num.row)],65⟩) (fun x=>(x.2++x.1).Perm (eG routes)/\x.2.Pairwise (fun a b=>¬ dn b a)/\(∀ a ∈ x.2,∀ b ∈ x.1,¬ dn b a)/\Hp.Heap dn x.1)
    (fun x=>x.1.length) (ys,[]) ⟨by simpa using hp,sI,sI,hh⟩ ?_ ?_
   . (conv=>whnf);all_goals (first|rfl|simp)
   rintro⟨us,ps⟩ ⟨hq,hs,hm,hu⟩;dsimp only at hq hs hm hu ⊢;have hql:ps.length+us.length=routes.length:=by have:=hq.length_eq;simp[eG] at this;omega
   repeat' (first|refine Ok.seq ?_|((first|refine Ok.region tok ?_|refine Ok.cond ?_);conv=>whnf)|fail)
   refine⟨fun h2=>?_,fun h2=>?_⟩
   . have hul:0<us.length:=by simp at h2;omega
     repeat' (first|refine Ok.seq ?_|(refine Ok.region tok ?_;conv=>whnf)|refine Ok.block ?_|(refine Ok.skip ?_;conv=>whnf)|fail)
     right;right;left;(conv=>whnf);refine⟨_,_,Tryz.func116,rfl,Tryz.call116,?_⟩;(conv=>whnf);refine Ok.fC [2,111,114,133,134] 2 2 (fun x:Num × List Num=>⟨[(2,.bp 1 0),(111,.bp 0 0),(114,.own 1 (ps.foldl ddF []).length),(133,.i .i64 (routes.map aj.row).length),(134,.i .i64 (ps.length:Nat))],
      [[.own 0 x.2.length,.fn 114 [.agg []] []],x.1.row],[some (130,x.2.map Num.row),some (130,(ps.foldl ddF []).map Num.row)],108⟩) (fun e x=>e = .ret/\(x.1 :: x.2).Perm us/\(∀ b ∈ us,¬ dn b x.1)/\Hp.Heap dn x.2) ?_ ?_
     . obtain⟨a,ha⟩:∃ a,us[0]? = some a:=⟨_,aC hul⟩
       obtain⟨b,hb⟩:∃ b,us[us.length - 1]? = some b:=⟨_,aC oA⟩
       repeat' (first|refine Ok.seq ?_|((first|refine Ok.region tok ?_|refine Ok.aW (id:=1) tok follows [(3,13,[]),(5,13,[]),(12,13,[])] [.q 0,.q 1,.q 2,.q 3,.q 4,.q 5,.q 6,.q 7,.q 8,.q 9,.q 10,.q 11,.l 12,.l 13,.q 14] kR ?_);conv=>whnf)|fail)
       refine⟨oA,oA,sI,?_⟩;(conv=>whnf);refine⟨rfl,_,jA ha,?_⟩;(conv=>whnf)
       repeat' (first|refine Ok.seq ?_|((first|refine Ok.aW (id:=2) tok follows [(3,12,[]),(7,12,[]),(10,12,[])] [.q 0,.q 1,.q 2,.q 3,.q 4,.q 5,.q 6,.q 7,.q 8,.q 9,.q 10,.q 11,.l 12] kR ?_|refine nI ?_);conv=>whnf)|fail)
       refine⟨oA,oA,sI,?_⟩;(conv=>whnf);have e1:((us.length:Int) - 1).toNat=us.length - 1:=oA;refine⟨rfl,_,jA (by rw[e1];exact hb),?_⟩;(conv=>whnf);refine⟨oA,oA,sI,?_⟩;(conv=>whnf);refine⟨_,jA ha,by simp[Num.row],(us.set 0 b).map Num.row,by simp[setCells,Num.row,List.map_set],?_⟩;(conv=>whnf)
       repeat' (first|refine Ok.seq ?_|(refine Ok.region tok ?_;conv=>whnf)|fail)
       refine⟨us.length - 1,rfl,by show ((us.length:Int) - 1)=_;omega,sI,?_⟩;(conv=>whnf)
       repeat' (first|refine Ok.seq ?_|(refine Ok.region tok ?_;conv=>whnf)|refine Ok.block ?_|fail)
       obtain⟨vs,hvs⟩:∃ vs,vs=(us.set 0 b).take (us.length - 1):=⟨_,rfl⟩;have hvl:vs.length=us.length - 1:=by rw[hvs];simp
       have hvp:(a :: vs).Perm us:=by rw[hvs];exact Hp.P5 ha hb
       have hvd:Hp.uD dn vs 0:=by rw[hvs];exact Hp.OE hu b
       have hmin:∀ c ∈ us,¬ dn c a:=fun c hc=>let ⟨j,hj⟩:=List.getElem?_of_mem hc;Hp.PZ lY hu ha j c hj
       refine Ok.trunc 0 0 0 rfl rfl rfl (vs.map Num.row) (by rw[hvs];simp[List.map_take]) ?_;(conv=>whnf);refine Ok.oJ [0,2,3,4,5,111,114,133,134] 2 3 (fun x:Nat × List Num=>⟨[(0,.bp 0 0),(2,.bp 1 0),(3,.bp 2 0),(4,.i .i64 ((us.length:Int) - 1)),(5,.i .i64 (x.1:Nat)),(111,.bp 0 0),(114,.own 1 (ps.foldl ddF []).length),(133,.i .i64 (routes.map aj.row).length),(134,.i .i64 (ps.length:Nat))],
        [[.own 0 (us.length - 1),.fn 114 [.agg []] []],z5,a.row],[some (130,x.2.map Num.row),some (130,(ps.foldl ddF []).map Num.row)],108⟩) (fun x=>x.2.Perm vs/\Hp.uD dn x.2 x.1/\(x.1<x.2.length\/x.1=0)) (fun x=>vs.length - x.1) (0,vs) ⟨.refl _,hvd,.inr rfl⟩ ?_ ?_
       . (conv=>whnf);all_goals (first|rfl|simp)
       rintro⟨i,xs⟩ ⟨hxp,hxd,hxi⟩;dsimp only at hxp hxd hxi ⊢;have hxl:xs.length=us.length - 1:=by rw[hxp.length_eq,hvl]
       have hps:routes.length<=270:=hlen;refine Ok.block ?_;refine Ok.seq ?_;refine Ok.region tok ?_;(conv=>whnf);refine Ok.uK [0,2,3,4,5,6,111,114,133,134] 2 3 (fun x:Nat=>⟨[(0,.bp 0 0),(2,.bp 1 0),(3,.bp 2 0),(4,.i .i64 ((us.length:Int) - 1)),(5,.i .i64 (i:Nat)),(6,.i .i64 (x:Nat)),(111,.bp 0 0),(114,.own 1 (ps.foldl ddF []).length),(133,.i .i64 (routes.map aj.row).length),(134,.i .i64 (ps.length:Nat))],
        [[.own 0 (us.length - 1),.fn 114 [.agg []] []],z5,a.row],[some (130,xs.map Num.row),some (130,(ps.foldl ddF []).map Num.row)],108⟩)
        (fun x=>(x=i\/2*i+1<=x/\x<=2*i+2/\x<xs.length/\∀ c d,xs[i]? = some c->xs[x]? = some d->dn d c)/\∀ j c d,2*i+1<=j->j<=2*i+2->xs[j]? = some c->xs[x]? = some d->¬ dn c d) ?_ ?_
       . repeat' (first|refine Ok.seq ?_|(refine Ok.region tok ?_;conv=>whnf)|refine Ok.block ?_|(refine nI ?_;conv=>whnf)|fail)
         refine Ok.oJ [0,2,3,4,5,6,7,111,114,133,134] 2 3 (fun x:Nat × Nat=>⟨[(0,.bp 0 0),(2,.bp 1 0),(3,.bp 2 0),(4,.i .i64 ((us.length:Int) - 1)),(5,.i .i64 (i:Nat)),(6,.i .i64 (x.1:Nat)),(7,.i .i64 (x.2:Nat)),(111,.bp 0 0),(114,.own 1 (ps.foldl ddF []).length),(133,.i .i64 (routes.map aj.row).length),(134,.i .i64 (ps.length:Nat))],
          [[.own 0 (us.length - 1),.fn 114 [.agg []] []],z5,a.row],[some (130,xs.map Num.row),some (130,(ps.foldl ddF []).map Num.row)],108⟩)
          (fun x=>2*i+1<=x.2/\x.2<=2*i+3/\(x.1=i\/2*i+1<=x.1/\x.1<x.2/\x.1<xs.length/\∀ c d,xs[i]? = some c->xs[x.1]? = some d->dn d c)/\∀ j c d,2*i+1<=j->j<x.2->xs[j]? = some c->xs[x.1]? = some d->¬ dn c d)
          (fun x=>2*i+3 - x.2) (i,2*i+1) ⟨by dsimp only;omega,by dsimp only;omega,.inl rfl,fun j c d h1 h2=>absurd h2 (by dsimp only;omega)⟩ ?_ ?_
         . (conv=>whnf);all_goals (first|rfl|simp)
         rintro⟨x,y⟩ ⟨hy1,hy2,hx1,hx2⟩;dsimp only at hy1 hy2 hx1 hx2 ⊢
         repeat' (first|refine Ok.seq ?_|((first|refine Ok.region tok ?_|refine nI ?_);conv=>whnf)|fail)
         refine⟨fun h3=>?_,fun h3=>?_⟩
         . repeat' (first|(refine Ok.cond ?_;conv=>whnf)|fail)
           refine⟨fun h4=>?_,fun h4=>?_⟩
           . have hyl:y<xs.length:=oA
             have Gl:x<xs.length:=oA;obtain⟨c,hc⟩:∃ c,xs[y]? = some c:=⟨_,aC hyl⟩;obtain⟨d,hd⟩:∃ d,xs[x]? = some d:=⟨_,aC Gl⟩
             repeat' (first|refine Ok.seq ?_|(refine Ok.bH tok follows kR ?_;conv=>whnf)|refine Ok.block ?_|(refine Ok.skip ?_;conv=>whnf)|fail)
             refine⟨oA,oA,by simp[hxl],?_⟩;(conv=>whnf);refine⟨rfl,_,jA hc,?_⟩;(conv=>whnf);refine⟨oA,oA,by simp[hxl],?_⟩;(conv=>whnf);refine⟨rfl,_,jA hd,?_⟩;(conv=>whnf);refine⟨_,NP c d,rfl,?_⟩;(conv=>whnf)
             repeat' (first|(refine Ok.cond ?_;conv=>whnf)|fail)
             refine⟨fun h5=>?_,fun h5=>?_⟩
             . repeat' (first|((first|refine Ok.region tok ?_|refine nI ?_);conv=>whnf)|fail)
               refine⟨(y,y+1),by dsimp only;omega,⟨by dsimp only;omega,by dsimp only;omega,.inr ⟨hy1,by dsimp only;omega,hyl,fun e f he hf=>?_⟩,fun j e f h6 h7 he hf=>?_⟩,?_⟩
               . rw[hc] at hf
                 cases hf;rcases hx1 with rfl|⟨_,_,_,hx3⟩
                 . rw[hd] at he;cases he;exact h5
                 . exact Classical.byContradiction fun hn=>lY.trans _ _ _ (lY.asymm _ _ (hx3 e d he hd)) hn h5
               . rw[hc] at hf
                 cases hf;by_cases hj:j=y
                 . subst hj;rw[hc] at he;cases he;exact lY.irrefl _
                 . exact lY.trans _ _ _ (lY.asymm _ _ h5) (hx2 j e d h6 (by dsimp only at h7;omega) he hd)
               . (conv=>whnf);all_goals (first|rfl|simp)
             . repeat' (first|((first|refine Ok.region tok ?_|refine Ok.skip ?_|refine nI ?_);conv=>whnf)|fail)
               refine⟨(x,y+1),by dsimp only;omega,⟨by dsimp only;omega,by dsimp only;omega,?_,fun j e f h6 h7 he hf=>?_⟩,?_⟩
               . rcases hx1 with h|⟨h6,h7,h8,h9⟩
                 . exact .inl h
                 . exact .inr ⟨h6,by dsimp only;omega,h8,h9⟩
               . by_cases hj:j=y
                 . subst hj;rw[hc] at he;rw[hd] at hf;cases he;cases hf;exact h5
                 . exact hx2 j e f h6 (by dsimp only at h7;omega) he hf
               . (conv=>whnf);all_goals (first|rfl|simp)
           . repeat' (first|(refine Ok.exit ?_;conv=>whnf)|fail)
             refine⟨x,⟨?_,fun j e f h6 h7 he hf=>?_⟩,?_⟩
             . rcases hx1 with h|⟨h6,h7,h8,h9⟩
               . exact .inl h
               . exact .inr ⟨h6,oA,h8,h9⟩
             . have:=(aK.1 he).1
               exact hx2 j e f h6 oA he hf
             . (conv=>whnf);all_goals (first|rfl|simp)
         . repeat' (first|((first|refine Ok.cond ?_|refine Ok.exit ?_);conv=>whnf)|fail)
           refine⟨x,⟨?_,fun j e f h6 h7 he hf=>hx2 j e f h6 oA he hf⟩,?_⟩
           . rcases hx1 with h|⟨h6,h7,h8,h9⟩
             . exact .inl h
             . exact .inr ⟨h6,oA,h8,h9⟩
           . (conv=>whnf);all_goals (first|rfl|simp)
       . intro x ⟨hx1,hx2⟩
         repeat' (first|refine Ok.seq ?_|((first|refine Ok.region tok ?_|refine Ok.cond ?_);conv=>whnf)|fail)
         refine⟨fun h3=>?_,fun h3=>?_⟩
         . have h3':x=i:=oA
           subst h3'
           repeat' (first|refine Ok.seq ?_|((first|refine Ok.region tok ?_|refine Ok.ret ?_);conv=>whnf)|fail)
           refine⟨(a,xs),⟨rfl,(hxp.cons a).trans hvp,hmin,?_⟩,?_⟩
           . by_cases La:x<xs.length
             . obtain⟨c,hc⟩:∃ c,xs[x]? = some c:=⟨_,aC La⟩
               exact Hp.NH hxd hc fun j e h6 h7 he=>hx2 j e c h6 h7 he hc
             . intro j hj e f he hf
               have:=(aK.1 he).1;dsimp only at this;omega
           . (conv=>whnf)
             simp[hxl,Num.row]
         . have h3':x ≠ i:=oA
           obtain⟨hx3,hx4,hx5,hx6⟩:=hx1.resolve_left h3';have hil:i<xs.length:=oA;obtain⟨c,hc⟩:∃ c,xs[i]? = some c:=⟨_,aC hil⟩;obtain⟨d,hd⟩:∃ d,xs[x]? = some d:=⟨_,aC hx5⟩;have hd':(xs.set i d)[x]? = some d:=by rw[List.getElem?_set_ne (Ne.symm h3')];exact hd
           repeat' (first|refine Ok.seq ?_|((first|refine Ok.aW (id:=13) tok follows [(3,25,[]),(8,25,[]),(13,25,[]),(16,25,[]),(20,25,[]),(23,25,[]),(3,27,[]),(8,27,[]),(13,27,[]),(16,27,[]),(20,27,[]),(23,27,[]),(25,27,[])] [.q 0,.q 1,.q 2,.q 3,.q 4,.q 5,.q 6,.q 7,.q 8,.q 9,.q 10,.q 11,.q 12,.q 13,.q 14,.q 15,.q 16,.q 17,.q 18,.q 19,.q 20,.q 21,.q 22,.q 23,.q 24,.l 25,.q 26,.l 27] kR ?_|refine Ok.skip ?_);conv=>whnf)|fail)
           refine⟨oA,oA,by simp[hxl],?_⟩;(conv=>whnf);refine⟨rfl,_,jA hd,?_⟩;(conv=>whnf);refine⟨oA,oA,by simp[hxl],?_⟩;(conv=>whnf);refine⟨rfl,_,jA hc,?_⟩;(conv=>whnf);refine⟨oA,oA,by simp[hxl],?_⟩;(conv=>whnf);refine⟨_,jA hc,by simp[Num.row],(xs.set i d).map Num.row,by simp[setCells,Num.row,List.map_set],?_⟩;(conv=>whnf);refine⟨oA,oA,by simp[hxl],?_⟩;(conv=>whnf);refine⟨_,jA hd',by simp[Num.row],(Hp.swp xs i x c d).map Num.row,by simp[setCells,Num.row,List.map_set,Hp.swp],?_⟩;(conv=>whnf)
           repeat' (first|(refine Ok.region tok ?_;conv=>whnf)|fail)
           refine⟨(x,Hp.swp xs i x c d),by dsimp only;omega,⟨(Hp.zX hc hd (Ne.symm h3')).trans hxp,Hp.NI lY hxd hc hd hx3 hx4 (hx6 c d hc hd) fun j e h6 h7 he=>hx2 j e d h6 h7 he hd,.inl (by rw[Hp.vw];exact hx5)⟩,?_⟩;(conv=>whnf);all_goals (first|rfl|simp)
     . rintro e ⟨b,zs⟩ ⟨he,hp2,TT,hh2⟩
       dsimp only at hp2 TT hh2 ⊢;subst he;have hsl:(b :: zs).length=us.length:=hp2.length_eq;have hfold:(ps++[b]).foldl ddF []=ddF (ps.foldl ddF []) b:=by simp[List.foldl_append]
       have hol:(ps.foldl ddF []).length<=ps.length:=JM ps;have hI:((ps++[b])++zs).Perm (eG routes)/\(ps++[b]).Pairwise (fun a b=>¬ dn b a)/\(∀ a ∈ ps++[b],∀ c ∈ zs,¬ dn c a)/\Hp.Heap dn zs:=by
        have hbu:b ∈ us:=hp2.subset (List.mem_cons_self ..);refine⟨?_,?_,?_,hh2⟩
        . rw[List.append_assoc]
          exact (hp2.append_left ps).trans hq
        . rw[List.pairwise_append]
          exact⟨hs,sI,fun c hc d hd=>by simp at hd;subst hd;exact hm c hc d hbu⟩
        . intro c hc d hd
          have hdu:d ∈ us:=hp2.subset (List.mem_cons_of_mem _ hd);rcases bQ.1 hc with hc|hc
          . exact hm c hc d hdu
          . simp at hc;subst hc;exact TT d hdu
       generalize ho:ps.foldl ddF []=o at hfold hol ⊢
       repeat' (first|refine Ok.seq ?_|((first|refine Ok.region tok ?_|refine Ok.bH tok follows kR ?_);conv=>whnf)|fail)
       refine⟨fun h5=>?_,fun h5=>?_⟩
       . obtain⟨q,hqe⟩:∃ q,o[o.length - 1]? = some q:=⟨_,aC oA⟩
         have e2:((o.length:Int) - 1).toNat=o.length - 1:=oA;have Lc:ddF o b=if q.r.len=b.r.len/\q.r.value=b.r.value then o else o++[b]:=by
          unfold ddF;rw[List.getLast?_eq_getElem?,hqe]
         repeat' (first|(refine nI ?_;conv=>whnf)|fail)
         refine⟨oA,oA,sI,?_⟩;(conv=>whnf);refine⟨rfl,_,jA (by rw[e2];exact hqe),?_⟩;(conv=>whnf);refine⟨fun h6=>?_,fun h6=>?_⟩
         . repeat' (first|(refine nI ?_;conv=>whnf)|fail)
           refine⟨oA,oA,sI,?_⟩;(conv=>whnf);refine⟨rfl,_,jA (by rw[e2];exact hqe),?_⟩;(conv=>whnf)
           repeat' (first|(refine Ok.cond ?_;conv=>whnf)|fail)
           refine⟨fun h7=>?_,fun h7=>?_⟩
           . have hdd:ddF o b=o:=by rw[Lc,if_pos ⟨h6,h7⟩]
             repeat' (first|((first|refine Ok.region tok ?_|refine Ok.exit ?_|refine nI ?_);conv=>whnf)|fail)
             refine⟨(zs,ps++[b]),by dsimp only;simp at hsl;omega,hI,?_⟩;(conv=>whnf);simp[hfold,hdd]
           . have hdd:ddF o b=o++[b]:=by rw[Lc,if_neg (fun h=>h7 h.2)]
             repeat' (first|((first|refine Ok.region tok ?_|refine Ok.skip ?_);conv=>whnf)|fail)
             refine bU.l ⟨sI,?_⟩;(conv=>whnf);refine⟨sI,_,.inl ⟨rfl,rfl⟩,?_⟩;(conv=>whnf);refine⟨by simp;omega,(o++[b]).map Num.row,(o++[b]).length,by simp[Num.row],sI,?_⟩;(conv=>whnf)
             repeat' (first|((first|refine Ok.region tok ?_|refine nI ?_);conv=>whnf)|fail)
             refine⟨(zs,ps++[b]),by dsimp only;simp at hsl;omega,hI,?_⟩;(conv=>whnf);simp[hfold,hdd]

         . have hdd:ddF o b=o++[b]:=by rw[Lc,if_neg (fun h=>h6 h.1)]
           repeat' (first|((first|refine Ok.region tok ?_|refine Ok.cond ?_|refine Ok.skip ?_);conv=>whnf)|fail)
           refine bU.l ⟨sI,?_⟩;(conv=>whnf);refine⟨sI,_,.inl ⟨rfl,rfl⟩,?_⟩;(conv=>whnf);refine⟨by simp;omega,(o++[b]).map Num.row,(o++[b]).length,by simp[Num.row],sI,?_⟩;(conv=>whnf)
           repeat' (first|((first|refine Ok.region tok ?_|refine nI ?_);conv=>whnf)|fail)
           refine⟨(zs,ps++[b]),by dsimp only;simp at hsl;omega,hI,?_⟩;(conv=>whnf);simp[hfold,hdd]

       . have hdd:ddF o b=o++[b]:=by
           have:o=[]:=List.eq_nil_of_length_eq_zero oA;subst this;rfl
         repeat' (first|((first|refine Ok.region tok ?_|refine Ok.cond ?_|refine Ok.skip ?_);conv=>whnf)|fail)
         refine bU.l ⟨sI,?_⟩;(conv=>whnf);refine⟨sI,_,.inl ⟨rfl,rfl⟩,?_⟩;(conv=>whnf);refine⟨by simp;omega,(o++[b]).map Num.row,(o++[b]).length,by simp[Num.row],sI,?_⟩;(conv=>whnf)
         repeat' (first|((first|refine Ok.region tok ?_|refine nI ?_);conv=>whnf)|fail)
         refine⟨(zs,ps++[b]),by dsimp only;simp at hsl;omega,hI,?_⟩;(conv=>whnf);simp[hfold,hdd]

   . repeat' (first|refine Ok.seq ?_|((first|refine Ok.region tok ?_|refine Ok.exit ?_|refine Ok.ret ?_);conv=>whnf)|fail)
     left;(conv=>whnf);have hus:us=[]:=List.eq_nil_of_length_eq_zero (by simp at h2;omega);subst hus;refine⟨rfl,ps,by simpa using hq,hs,?_⟩;simp only[iE];rw[au sI,List.drop_of_length_le sI]
def okR(bits:Int)(r:aj):Prop:=1<=r.kind/\r.kind<=3/\0<=r.len/\r.len<=bits/\0<=r.out/\r.out<48/\0<=r.value/\r.value<2 ^ bits.toNat/\r.value % 2 ^ (bits - r.len).toNat=0
instance (bits:Int) (r:aj):Decidable (okR bits r):=by unfold okR;infer_instance
def dV(bits:Int)(l:List aj):Int:=if 256<l.length then 2 else if bits<1\/32<bits then 1 else if ∀ r ∈ l,okR bits r then 0 else 80
theorem Wq{bits:Int}{l:List aj}(h1:¬ 256<l.length)(h2:¬ bits<1)(h3:¬ 32<bits){r:aj}(hr:r ∈ l)(hn:¬ okR bits r):dV bits l=80:=by
 unfold dV;rw[if_neg h1,if_neg oA,if_neg (fun h=>hn (h r hr))]
theorem AU(k:Nat)(h:k<=32):(0:Int)<2 ^ k/\(2:Int) ^ k<=4294967296:=by
 refine⟨Int.pow_pos oA,?_⟩;have:(2:Nat) ^ k<=2 ^ 32:=Nat.pow_le_pow_right oA h;have h2:((2 ^ k:Nat):Int)<=((2 ^ 32:Nat):Int):=by exact_mod_cast this
 simpa using h2
theorem Aa(v:Int)(k:Nat)(hv:0<=v):v.fdiv (2 ^ k)=0 ↔ v<2 ^ k:=by
 have hp:(0:Int)<2 ^ k:=Int.pow_pos oA;rw[Int.fdiv_eq_ediv_of_nonneg _ oA];constructor
 . intro h
   have:=Int.lt_ediv_add_one_mul_self v hp;rw[h] at this;omega
 . intro h
   exact Int.ediv_eq_zero_of_lt hv h
theorem YA(v:Int)(k:Nat)(hk:k<=32)(h0:0<=v)(h1:v<4294967296):((BitVec.ofInt 64 v &&& BitVec.ofInt 64 (2 ^ k - 1)).toNat:Int)=v % 2 ^ k:=by
 obtain⟨n,rfl⟩:=Int.eq_ofNat_of_zero_le h0;have hp:1<=2 ^ k:=Nat.one_le_two_pow;have hk2:(2:Nat) ^ k<=2 ^ 32:=Nat.pow_le_pow_right oA hk;have e1:((2:Int) ^ k - 1)=((2 ^ k - 1:Nat):Int):=by rw[Int.natCast_sub hp];simp
 rw[e1,BitVec.ofInt_natCast,BitVec.ofInt_natCast,BitVec.toNat_and,BitVec.toNat_ofNat,BitVec.toNat_ofNat,Nat.mod_eq_of_lt oA,Nat.mod_eq_of_lt oA,Nat.and_two_pow_sub_one_eq_mod];simp
theorem Rj(bits:Int)(r:aj)(h1:bits<=32)(h2:0<=r.len)(h4:0<=r.value)(h5:r.value<2 ^ bits.toNat) :
    IntKind.i64.wrap ((BitVec.ofInt IntKind.i64.bits r.value &&& BitVec.ofInt IntKind.i64.bits (1*2 ^ min (bits - r.len).toNat IntKind.i64.bits - 1)).toNat:Int)=r.value % 2 ^ (bits - r.len).toNat:=by
 have hm2:min (bits - r.len).toNat IntKind.i64.bits=(bits - r.len).toNat:=by show min (bits - r.len).toNat 64=_;omega
 have hb:=AU bits.toNat oA;rw[hm2,Int.one_mul];have e:=YA r.value (bits - r.len).toNat oA h4 oA;show IntKind.i64.wrap ((BitVec.ofInt 64 r.value &&& BitVec.ofInt 64 (2 ^ (bits - r.len).toNat - 1)).toNat:Int)=_;rw[e,IntKind.wrap_i64];have hp:(0:Int)<2 ^ (bits - r.len).toNat:=Int.pow_pos oA;have g1:=Int.emod_nonneg r.value (b:=2 ^ (bits - r.len).toNat) oA;have g2:r.value % 2 ^ (bits - r.len).toNat<=r.value:=by
  have k1:=Int.mul_ediv_add_emod r.value (2 ^ (bits - r.len).toNat);have k2:0<=2 ^ (bits - r.len).toNat*(r.value / 2 ^ (bits - r.len).toNat):=Int.mul_nonneg oA (Int.ediv_nonneg h4 oA);omega
 omega
theorem NR(bits:Int)(l:List aj)(room:List (List D)):aF Tryz.prog T 64 [.i .i64 bits,.lst 57 (l.map aj.row) room] (fun d _=>d = .i .i64 (dV bits l)):=by
 refine aF.aB tok Tryz.func64 rfl Tryz.call64 sI ?_
 repeat' (first|refine Ok.seq ?_|((first|refine Ok.region tok ?_|refine Ok.cond ?_);conv=>whnf)|fail)
 refine⟨fun h1=>?_,fun h1=>?_⟩
 . repeat' (first|refine Ok.seq ?_|((first|refine Ok.region tok ?_|refine Ok.ret ?_);conv=>whnf)|fail)
   left;(conv=>whnf);have:256<l.length:=by simp at h1;omega
   simp[iE,dV,this]
 have h1':¬ 256<l.length:=by simp at h1;omega
 repeat' (first|refine Ok.seq ?_|((first|refine Ok.region tok ?_|refine Ok.skip ?_);conv=>whnf)|fail)
 refine⟨fun h2=>?_,fun h2=>?_⟩
 . repeat' (first|refine Ok.seq ?_|((first|refine Ok.region tok ?_|refine Ok.cond ?_|refine Ok.ret ?_);conv=>whnf)|fail)
   left;(conv=>whnf);simp[iE,dV,h1',h2]
 repeat' (first|(refine Ok.cond ?_;conv=>whnf)|fail)
 refine⟨fun h3=>?_,fun h3=>?_⟩
 . repeat' (first|refine Ok.seq ?_|((first|refine Ok.region tok ?_|refine Ok.ret ?_);conv=>whnf)|fail)
   left;(conv=>whnf);simp[iE,dV,h1',h3]
 repeat' (first|refine Ok.seq ?_|(refine Ok.region tok ?_;conv=>whnf)|refine Ok.block ?_|(refine Ok.skip ?_;conv=>whnf)|fail)
 refine Ok.oJ [0,16,17,18] 0 0 (fun k:Nat=>⟨[(0,.i .i64 bits),(16,.lst 57 (l.map aj.row) room),(17,.i .i64 (l.map aj.row).length),(18,.i .i64 (k:Nat))],[],[],74⟩) (fun k=>k<=l.length/\∀ r ∈ l.take k,okR bits r) (fun k=>l.length - k) 0 ⟨Nat.zero_le _,sI⟩ ?_ ?_
 . (conv=>whnf);all_goals (first|rfl|simp)
 rintro k ⟨hk,ha⟩
 repeat' (first|refine Ok.seq ?_|((first|refine Ok.region tok ?_|refine Ok.cond ?_);conv=>whnf)|fail)
 refine⟨fun h4=>?_,fun h4=>?_⟩
 . have h4':k<l.length:=by simpa using h4
   repeat' (first|refine Ok.seq ?_|(refine Ok.region tok ?_;conv=>whnf)|refine Ok.block ?_|(refine Ok.skip ?_;conv=>whnf)|fail)
   refine⟨oA,_,Ri _ _ _ h4',?_⟩;(conv=>whnf);obtain⟨r,hr0⟩:∃ r,r=l[k]:=⟨_,rfl⟩;have hrl:r ∈ l:=by rw[hr0];exact List.getElem_mem h4'
   rw[<- hr0];have hm:min bits.toNat IntKind.i64.bits=bits.toNat:=by show min bits.toNat 64=_;omega
   have hm2:0<=r.len->min (bits - r.len).toNat IntKind.i64.bits=(bits - r.len).toNat:=fun h=>by show min (bits - r.len).toNat 64=_;omega
   have hb:=AU bits.toNat oA;have hb2:0<=r.len->(0:Int)<2 ^ min (bits - r.len).toNat IntKind.i64.bits/\(2:Int) ^ min (bits - r.len).toNat IntKind.i64.bits<=4294967296:=fun h=>by rw[hm2 h];exact AU _ oA
   have hbad:¬ okR bits r->dV bits l=80:=Wq h1' h2 h3 hrl
   repeat' (first|refine Ok.seq ?_|((first|refine Ok.region tok ?_|refine Ok.bH tok follows kR ?_|refine Ok.cond ?_|refine Ok.skip ?_|refine Ok.ret ?_|refine nI ?_);conv=>whnf)|(refine⟨fun _=>?_,fun _=>?_⟩)|((first|refine aJ ?_|refine jh ?_);conv=>whnf)|fail)
   all_goals try (left;(conv=>whnf);rw[hbad (by intro h;unfold okR at h;omega)];rfl)
   . rename_i h
     rw[hm,ne_eq,Aa _ _ oA] at h;left;(conv=>whnf);rw[hbad (by intro h;unfold okR at h;omega)];rfl
   . rename_i h6 h
     rw[hm,ne_eq,Aa _ _ oA] at h6;rw[Rj bits r oA oA oA oA] at h;left;(conv=>whnf);rw[hbad (fun h'=>h h'.2.2.2.2.2.2.2.2)];rfl
   . rename_i h6 h
     rw[hm,ne_eq,Aa _ _ oA] at h6;rw[Rj bits r oA oA oA oA] at h;have hok:okR bits r:=⟨oA,oA,oA,oA,oA,oA,oA,oA,Classical.not_not.1 h⟩;refine⟨k+1,oA,⟨oA,fun q hq=>?_⟩,?_⟩
     . rw[List.take_succ_eq_append_getElem h4'] at hq
       rcases bQ.1 hq with hq|hq
       . exact ha q hq
       . simp at hq;rw[hq,<- hr0];exact hok
     . (conv=>whnf);all_goals (first|rfl|simp)
 . have hkk:k=l.length:=by simp at h4;omega
   subst hkk;rw[List.take_length] at ha
   repeat' (first|refine Ok.seq ?_|((first|refine Ok.region tok ?_|refine Ok.exit ?_|refine Ok.ret ?_);conv=>whnf)|fail)
   left;(conv=>whnf);unfold dV;rw[if_neg h1',if_neg oA,if_pos ha];rfl
end Go.Proofs.YtnlingegeangmaaGreatDoor
namespace Go.Proofs.YtnlingegeangmaaGreatDoor
open Go Go.Vx
def gK(bits:Int)(r:aj)(v:Int):Prop:=v.fdiv (2 ^ (bits - r.len).toNat)=r.value.fdiv (2 ^ (bits - r.len).toNat)
theorem P6(bits:Int)(r:aj)(v:Int)(h0:bits<=32)(h1:0<=r.len)(h2:r.len<=bits):aF Tryz.prog T 66 [.i .i64 bits,.agg r.row,.i .i64 v] (fun d _=>d = .b (gK bits r v)):=by
 have hm2:min (bits - r.len).toNat IntKind.i64.bits=(bits - r.len).toNat:=by show min (bits - r.len).toNat 64=_;omega
 refine aF.aB tok Tryz.func66 rfl Tryz.call66 sI ?_
 repeat' (first|refine Ok.seq ?_|((first|refine Ok.region tok ?_|refine Ok.bH tok follows kR ?_|refine Ok.ret ?_|refine nI ?_|refine aJ ?_|refine jh ?_);conv=>whnf)|fail)
 left;(conv=>whnf);refine qw ?_;rw[hm2];rfl
def mk(k:Int):aj:=⟨k,0,0,0⟩
def uw(bits:Int)(l:List aj)(v k:Int):Prop:=(k=-1/\∀ x ∈ eG l,¬ gK bits x.r v)\/(∃ x ∈ eG l,x.at_=k/\gK bits x.r v/\∀ y ∈ eG l,gK bits y.r v->¬ dn y x)
theorem OH{x y:Num}(h1:¬ dn x y)(h2:¬ dn y x):x.at_=y.at_:=by
 unfold dn at *;split at h1<;>split at h2<;>(try split at h1)<;>(try split at h2)<;>(try split at h1)<;>(try split at h2)<;>omega
theorem uw.uniq{bits:Int}{l:List aj}{v k k':Int}(h:uw bits l v k)(h':uw bits l v k'):k=k':=by
 rcases h with⟨rfl,h⟩|⟨x,hx,rfl,hh,hm⟩<;>rcases h' with⟨rfl,h'⟩|⟨y,hy,rfl,hh',hm'⟩
 . rfl
 . exact absurd hh' (h y hy)
 . exact absurd hh (h' x hx)
 . exact OH (hm' x hx hh) (hm y hy hh')
open Classical in
noncomputable def pick(bits:Int)(l:List aj)(v:Int):Int:=if h:∃ k,uw bits l v k then h.choose else 0
theorem Jo{bits:Int}{l:List aj}{v k:Int}(h:uw bits l v k):pick bits l v=k:=by
 unfold pick;rw[dif_pos ⟨k,h⟩];exact (Exists.choose_spec (⟨k,h⟩:∃ k,uw bits l v k)).uniq h
def rM(bits:Int)(l:List aj)(v:Int):Int:=if dV bits l ≠ 0 then dV bits l else if v<0\/2 ^ bits.toNat<=v then 1 else 0
noncomputable def uF(bits:Int)(l:List aj)(v:Int):Int:=if rM bits l v ≠ 0 then 0 else pick bits l v
theorem DC{bits:Int}{l:List aj}(h:dV bits l=0):l.length<=256/\1<=bits/\bits<=32/\∀ r ∈ l,okR bits r:=by
 unfold dV at h;split at h
 . omega
 split at h
 . omega
 split at h
 . rename_i h1 h2 h3
   exact⟨oA,oA,oA,h3⟩
 . omega
theorem ZR(p:Num->Bool)(hp:∀ a b:Num,a.r.len=b.r.len->a.r.value=b.r.value->p a=p b):∀ (n:Nat) (ps:List Num),ps.length=n->(ps.foldl ddF []).find? p=ps.find? p:=by
 intro n
 induction n with
 | zero=>intro ps h;have:=List.eq_nil_of_length_eq_zero h;subst this;rfl
 | succ n ih=>
  intro ps h;obtain⟨qs,b,rfl⟩:∃ qs b,ps=qs++[b]:=⟨ps.dropLast,ps.getLast (by intro e;subst e;simp at h),(List.dropLast_concat_getLast _).symm⟩;have hq:=ih qs (by simpa using h);rw[List.foldl_append,List.foldl_cons,List.foldl_nil];generalize qs.foldl ddF []=o at hq ⊢;have key:(o++[b]).find? p=(qs++[b]).find? p:=by rw[List.find?_append,List.find?_append,hq]
  unfold ddF;split
  . rename_i q hl
    split
    . rename_i hqb
      rw[<- key,List.find?_append]
      cases ho:o.find? p with
      | some z=>rfl
      | none=>
       have hqm:q ∈ o:=List.mem_of_getLast? hl;have h1:=List.find?_eq_none.1 ho q hqm;have h2:p b=false:=by rw[<- hp q b hqb.1 hqb.2];simpa using h1
       simp[h2]
    . exact key
  . exact key
theorem D5{l:List aj}{x:Num}(h:x ∈ eG l):∃ k,∃ hk:k<l.length,x=⟨l[k],k⟩:=by
 obtain⟨k,hk⟩:=List.getElem?_of_mem h;have hl:k<l.length:=by have:=(aK.1 hk).1;simpa[eG] using this
 refine⟨k,hl,?_⟩;simp[eG,hl] at hk;exact hk.symm
theorem SS:∀ (ps acc:List Num) (x:Num),x ∈ ps.foldl ddF acc->x ∈ acc\/x ∈ ps
 | [],acc,x,h=>.inl h
 | p :: ps,acc,x,h=>by
  rcases SS ps _ x h with h|h
  . unfold ddF at h
    have key:x ∈ acc++[p]->x ∈ acc\/x ∈ p :: ps:=fun h=>by
     rcases bQ.1 h with h|h
     . exact .inl h
     . simp at h;simp[h]
    split at h
    . split at h
      . exact .inl h
      . exact key h
    . exact key h
  . exact .inr (List.mem_cons_of_mem _ h)
theorem Xj{bits v:Int}{l:List aj}{ps:List Num}(hp:ps.Perm (eG l))(hs:ps.Pairwise (fun a b=>¬ dn b a)) :
    (∀ x,((ps.foldl ddF []).find? fun x=>decide (v.fdiv (2 ^ (bits - x.r.len).toNat)=x.r.value.fdiv (2 ^ (bits - x.r.len).toNat)))=some x->uw bits l v x.at_) /\
    (((ps.foldl ddF []).find? fun x=>decide (v.fdiv (2 ^ (bits - x.r.len).toNat)=x.r.value.fdiv (2 ^ (bits - x.r.len).toNat)))=none->uw bits l v (-1)):=by
 rw[ZR _ (fun a b h1 h2=>by simp only[h1,h2]) ps.length ps rfl];refine⟨fun x hx=>?_,fun hn=>.inl ⟨rfl,fun x hx hh=>?_⟩⟩
 . obtain⟨h1,us,ws,rfl,h2⟩:=List.find?_eq_some_iff_append.1 hx
   refine .inr ⟨x,hp.subset sI,rfl,by simpa[gK] using h1,fun y hy hhy=>?_⟩;have hy':=hp.symm.subset hy;rcases bQ.1 hy' with hy'|hy'
   . have:=h2 y hy'
     simp only[gK] at hhy;simp[hhy] at this
   . rcases List.mem_cons.1 hy' with rfl|hy'
     . exact lY.irrefl _
     . rw[List.pairwise_append] at hs
       exact (List.pairwise_cons.1 hs.2.1).1 y hy'
 . have:=List.find?_eq_none.1 hn x (hp.symm.subset hx)
   simp only[gK] at hh;simp[hh] at this
theorem VB(bits v:Int)(l:List aj)(room:List (List D)):aF Tryz.prog T 18 [.i .i64 bits,.lst 57 (l.map aj.row) room,.i .i64 v] (fun d _=>d = .tup [.i .i64 (uF bits l v),.i .i64 (rM bits l v)]):=by
 refine aF.aB tok Tryz.func18 rfl Tryz.call18 sI ?_;(try (conv=>whnf));repeat' (first|refine Ok.seq ?_|((first|refine Ok.region tok ?_|refine Ok.cond ?_|refine Ok.skip ?_|refine Ok.ret ?_);conv=>whnf)|(refine Or.inl ?_;(conv=>whnf);(repeat (refine aI ?_;conv=>whnf));refine⟨_,NR bits l room,rfl,?_⟩;conv=>whnf)|(refine bI ?_ ?_<;>intro<;>first|omega|conv=>whnf)|fail)
 . rename_i h1
   left;(conv=>whnf);simp[iE,uF,rM,h1]
 . rename_i h1 h2
   have h1:dV bits l=0:=Classical.not_not.1 h1;left;(conv=>whnf);simp[iE,uF,rM,h1,h2]
 rename_i h1 h2;have h1:dV bits l=0:=Classical.not_not.1 h1;obtain⟨hl,hb1,hb2,hok⟩:=DC h1;have hm:min bits.toNat IntKind.i64.bits=bits.toNat:=by show min bits.toNat 64=_;omega
 (try (conv=>whnf));repeat' (first|refine Ok.seq ?_|((first|refine Ok.region tok ?_|refine Ok.cond ?_|refine Ok.skip ?_|refine Ok.ret ?_);conv=>whnf)|(refine bI ?_ ?_<;>intro<;>first|omega|conv=>whnf)|((first|refine aJ ?_|refine jh ?_);conv=>whnf)|fail)
 . rename_i h3
   rw[hm,ne_eq,Aa _ _ oA] at h3;left;(conv=>whnf);have:2 ^ bits.toNat<=v:=oA;simp[iE,uF,rM,h1,this]
 rename_i h3;rw[hm,ne_eq,Aa _ _ oA] at h3;have hE:rM bits l v=0:=by unfold rM;rw[if_neg oA,if_neg oA]
 right;left;(conv=>whnf);refine⟨_,NQ l room oA,?_⟩;rintro d rows ⟨rfl,ps,hp,hs,rfl⟩;obtain⟨hf1,hf2⟩:=Xj (bits:=bits) (v:=v) hp hs;have hmem:∀ x ∈ ps.foldl ddF [],okR bits x.r:=fun x hx=>by
  rcases SS ps [] x hx with h|h
  . cases h
  . obtain⟨j,hj,rfl⟩:=D5 (hp.subset h)
    exact hok _ (List.getElem_mem hj)
 have Ld:(ps.foldl ddF []).length<=256:=by have:=JM ps;have:=hp.length_eq;simp[eG] at this;omega
 generalize ps.foldl ddF []=o at hf1 hf2 hmem Ld ⊢;have hol:(o.map Num.row).length=o.length:=sI;(try (conv=>whnf));repeat' (first|refine Ok.block ?_|fail)
 refine Ok.aT [0,2,26,27] [28] 0 0 (fun (k:Nat)=>[.i .i64 (k:Nat)]) (fun _ b=>b) (fun _ r=>r) (fun (k:Nat)=>k<=o.length/\∀ x ∈ o.take k,¬ gK bits x.r v) (fun (k:Nat)=>o.length - k) (0) (⟨Nat.zero_le _,sI⟩) ?_;(conv=>whnf);refine⟨by ((conv=>whnf);first|rfl|(simp[ak,au];done)|(simp[ak,au];rw[IntKind.wrap_i64];omega)),?_⟩;rintro k ⟨hk,ha⟩;by_cases hkl:k<o.length
 . obtain⟨x,hx⟩:∃ x,o[k]? = some x:=⟨_,aC hkl⟩
   have hxm:=hmem x (aU hx);have hl1:=hxm.2.2.1;have hl2:=hxm.2.2.2.1;(try (conv=>whnf));repeat' (first|refine Ok.seq ?_|((first|refine Ok.region tok ?_|refine Ok.cond ?_);conv=>whnf)|refine Ok.block ?_|((first|refine Ok.skip ?_|refine Ok.ret ?_|refine nI ?_|refine ix _ aS ?_);conv=>whnf)|(refine Or.inl ?_;(conv=>whnf);(repeat (refine aI ?_;conv=>whnf));refine⟨_,P6 bits x.r v hb2 hl1 hl2,rfl,?_⟩;conv=>whnf)|(refine bI ?_ ?_<;>intro<;>first|omega|conv=>whnf)|fail)
   . rename_i hh
     refine Or.inl ?_;(conv=>whnf);have hfind:o.find? (fun x=>decide (v.fdiv (2 ^ (bits - x.r.len).toNat)=x.r.value.fdiv (2 ^ (bits - x.r.len).toNat)))=some x:=by
      refine List.find?_eq_some_iff_append.2 ⟨by simpa[gK] using hh,o.take k,o.drop (k+1),?_,fun y hy=>by simpa[gK] using ha y hy⟩;have:=aK.1 hx;rw[<- this.2,List.getElem_cons_drop,List.take_append_drop]
     simp[iE,uF,hE,Jo (hf1 x hfind)]
   . rename_i hh
     refine⟨k+1,oA,⟨oA,fun y hy=>?_⟩,?_⟩
     . rw[List.take_add_one,hx] at hy
       rcases bQ.1 hy with hy|hy
       . exact ha y hy
       . simp at hy;rw[hy];exact hh
     . (conv=>whnf);(first|rfl|simp[ak,au])
 . have hkk:k=o.length:=oA
   subst hkk;(try (conv=>whnf));repeat' (first|refine Ok.seq ?_|((first|refine Ok.region tok ?_|refine Ok.cond ?_|refine Ok.exit ?_|refine Ok.ret ?_);conv=>whnf)|(refine bI ?_ ?_<;>intro<;>first|omega|conv=>whnf)|fail)
   refine Or.inl ?_;(conv=>whnf);have hfind:o.find? (fun x=>decide (v.fdiv (2 ^ (bits - x.r.len).toNat)=x.r.value.fdiv (2 ^ (bits - x.r.len).toNat)))=none:=by
    rw[List.find?_eq_none];intro y hy;simpa[gK] using ha y (by simpa using hy)
   simp[iE,uF,hE,Jo (hf2 hfind)]
end Go.Proofs.YtnlingegeangmaaGreatDoor
namespace Go.Proofs.YtnlingegeangmaaGreatDoor
open Go Go.Vx
def iC(a b:Num):Prop:=a.r.len=b.r.len/\a.r.value=b.r.value
def jD(a b:Num):Prop:=b.r.len<a.r.len\/(a.r.len=b.r.len/\a.r.value<b.r.value)
theorem VD{a b:Num}(h:jD a b):dn a b:=by
 unfold jD at h;unfold dn;rcases h with h|⟨h1,h2⟩
 . rw[if_pos oA];exact h
 . rw[if_neg oA,if_pos oA];exact h2
theorem Xk{a b:Num}(h:¬ dn b a):jD a b\/iC a b:=by
 unfold dn at h;unfold jD iC;split at h
 . omega
 split at h<;>omega
theorem Ws{a b c:Num}(h:jD a c)(hs:iC a b):jD b c:=by unfold jD iC at *;omega
theorem Vf{a b:Num}(h:jD a b)(hs:iC a b):False:=by unfold jD iC at *;omega
theorem VE{a b:Num}(h:jD a b)(h':jD b a):False:=by unfold jD at *;omega
theorem yA{a b:Num}(h:iC a b):iC b a:=⟨h.1.symm,h.2.symm⟩
theorem Wu{a b c:Num}(h:iC a b)(h':iC b c):iC a c:=⟨h.1.trans h'.1,h.2.trans h'.2⟩
structure kH(l:List aj)(os:List Num):Prop where
 sorted:os.Pairwise jD
 best:∀ x ∈ os,x ∈ eG l/\∀ y ∈ eG l,iC y x->¬ dn y x
 all:∀ y ∈ eG l,∃ x ∈ os,iC y x
theorem YB{l:List aj}{x y:Num}(hx:x ∈ eG l)(hy:y ∈ eG l)(h:x.at_=y.at_):x=y:=by
 obtain⟨i,hi,rfl⟩:=D5 hx;obtain⟨j,hj,rfl⟩:=D5 hy;have:i=j:=by simp only at h;omega
 subst this;rfl
theorem NS{α:Type}{lt:α->α->Prop}(ha:∀ a b,lt a b->¬ lt b a):∀ {l m:List α},l.Pairwise lt->m.Pairwise lt->(∀ x,x ∈ l ↔ x ∈ m)->l=m
 | [],[],_,_,_=>rfl
 | [],b :: m,_,_,h=>by have:=(h b).2 sI;cases this
 | a :: l,[],_,_,h=>by have:=(h a).1 sI;cases this
 | a :: l,b :: m,h1,h2,h=>by
  rw[List.pairwise_cons] at h1 h2;have hab:a=b:=by
   have m1:=(h a).1 sI;have m2:=(h b).2 sI;rcases List.mem_cons.1 m1 with e|m1
   . exact e
   . rcases List.mem_cons.1 m2 with e|m2
     . exact e.symm
     . exact absurd (h1.1 b m2) (ha _ _ (h2.1 a m1))
  subst hab;congr 1;refine NS ha h1.2 h2.2 fun x=>?_
  have irr:∀ x,¬ lt x x:=fun x h=>ha x x h h
  constructor
  . intro hx
    rcases List.mem_cons.1 ((h x).1 (by simp[hx])) with e|e
    . subst e;exact absurd (h1.1 _ hx) (irr _)
    . exact e
  . intro hx
    rcases List.mem_cons.1 ((h x).2 (by simp[hx])) with e|e
    . subst e;exact absurd (h2.1 _ hx) (irr _)
    . exact e
theorem kH.sub{l:List aj}{os os':List Num}(h:kH l os)(h':kH l os'):∀ x,x ∈ os->x ∈ os':=by
 intro x hx;obtain⟨hxl,hxb⟩:=h.best x hx;obtain⟨y,hy,hxy⟩:=h'.all x hxl;obtain⟨hyl,hyb⟩:=h'.best y hy;have:=YB hxl hyl (OH (hyb x hxl hxy) (hxb y hyl (yA hxy)));rw[this];exact hy
theorem kH.uniq{l:List aj}{os os':List Num}(h:kH l os)(h':kH l os'):os=os':=
 NS (fun _ _=>VE) h.sorted h'.sorted fun x=>⟨h.sub h' x,h'.sub h x⟩
open Classical in
noncomputable def jo(l:List aj):List aj:=if h:∃ os,kH l os then h.choose.map (·.r) else []
theorem Ez{l:List aj}{os:List Num}(h:kH l os):jo l=os.map (·.r):=by
 unfold jo;rw[dif_pos ⟨os,h⟩,(Exists.choose_spec (⟨os,h⟩:∃ os,kH l os)).uniq h]
structure J3(qs o:List Num):Prop where
 sorted:o.Pairwise jD
 best:∀ x ∈ o,x ∈ qs/\∀ y ∈ qs,iC y x->¬ dn y x
 all:∀ y ∈ qs,∃ x ∈ o,iC y x
theorem ZT{qs o:List Num}{b:Num}(h:J3 qs o)(hb:∀ a ∈ qs,¬ dn b a):J3 (qs++[b]) (ddF o b):=by
 have hin:∀ x ∈ o,x ∈ qs:=fun x hx=>(h.best x hx).1
 by_cases hex:∃ x ∈ o,iC b x
 . have hddo:ddF o b=o:=by
     obtain⟨x,hx,hbx⟩:=hex;unfold ddF
     cases hl:o.getLast? with
     | none=>rw[List.getLast?_eq_none_iff] at hl;subst hl;cases hx
     | some q=>
      have hq:=List.mem_of_getLast? hl;have hqb:iC q b:=by
       obtain⟨r,hr⟩:=List.getLast?_eq_some_iff.1 hl;subst hr;rcases bQ.1 hx with hx1|hx1
       . have h1:=(List.pairwise_append.1 h.sorted).2.2 x hx1 q sI
         exact absurd (VD (Ws h1 (yA hbx))) (hb q (hin q hq))
       . simp at hx1
         subst hx1;exact yA hbx
      simp only;rw[if_pos ⟨hqb.1,hqb.2⟩]
   rw[hddo];refine⟨h.sorted,fun x hx=>⟨List.mem_append_left _ (hin x hx),fun y hy hyx=>?_⟩,fun y hy=>?_⟩
   . rcases bQ.1 hy with hy|hy
     . exact (h.best x hx).2 y hy hyx
     . simp at hy;rw[hy];exact hb x (hin x hx)
   . rcases bQ.1 hy with hy|hy
     . exact h.all y hy
     . simp at hy;subst hy;exact hex
 . have hno:∀ x ∈ o,¬ iC b x:=fun x hx hs=>hex ⟨x,hx,hs⟩
   have hddo:ddF o b=o++[b]:=by
    unfold ddF
    cases hl:o.getLast? with
    | none=>rfl
    | some q=>
     simp only;exact if_neg (fun hh=>hno q (List.mem_of_getLast? hl) (yA hh))
   rw[hddo];have hlt:∀ x ∈ o,jD x b:=fun x hx=>(Xk (hb x (hin x hx))).resolve_right fun hs=>hno x hx (yA hs)
   refine⟨List.pairwise_append.2 ⟨h.sorted,sI,fun x hx y hy=>by simp at hy;subst hy;exact hlt x hx⟩,fun x hx=>?_,fun y hy=>?_⟩
   . rcases bQ.1 hx with hx|hx
     . refine⟨List.mem_append_left _ (hin x hx),fun y hy hyx=>?_⟩
       rcases bQ.1 hy with hy|hy
       . exact (h.best x hx).2 y hy hyx
       . simp at hy;rw[hy];exact hb x (hin x hx)
     . simp at hx
       subst hx;refine⟨sI,fun y hy hyx=>?_⟩;rcases bQ.1 hy with hy|hy
       . obtain⟨z,hz,hyz⟩:=h.all y hy
         exact absurd (Wu (yA hyx) hyz) (hno z hz)
       . simp at hy;subst hy;exact lY.irrefl _
   . rcases bQ.1 hy with hy|hy
     . obtain⟨z,hz,hyz⟩:=h.all y hy
       exact⟨z,List.mem_append_left _ hz,hyz⟩
     . simp at hy;subst hy;exact⟨_,sI,rfl,rfl⟩
theorem SV:∀ (n:Nat) (ps:List Num),ps.length=n->ps.Pairwise (fun a b=>¬ dn b a)->J3 ps (ps.foldl ddF [])
 | 0,ps,h,_=>by
  have:=List.eq_nil_of_length_eq_zero h;subst this;exact⟨sI,sI,sI⟩
 | n+1,ps,h,hs=>by
  obtain⟨qs,b,rfl⟩:∃ qs b,ps=qs++[b]:=⟨ps.dropLast,ps.getLast (by intro e;subst e;simp at h),(List.dropLast_concat_getLast _).symm⟩;rw[List.pairwise_append] at hs;rw[List.foldl_append];exact ZT (SV n qs (by simpa using h) hs.1) fun a ha=>hs.2.2 a ha b sI
theorem SX{l:List aj}{ps:List Num}(hp:ps.Perm (eG l))(hs:ps.Pairwise (fun a b=>¬ dn b a)):kH l (ps.foldl ddF []):=by
 have h:=SV _ ps rfl hs;exact⟨h.sorted,fun x hx=>⟨hp.subset (h.best x hx).1,fun y hy=>(h.best x hx).2 y (hp.symm.subset hy)⟩,fun y hy=>h.all y (hp.symm.subset hy)⟩
noncomputable def dR(bits:Int)(l:List aj):List aj:=if dV bits l ≠ 0 then [] else jo l
end Go.Proofs.YtnlingegeangmaaGreatDoor
