/- The walks and the plain laws that a law of spaces needs, part 3 of 7. -/
import Derived.Test.YtaiondckookpiaaGreatDoorQEB
import Derived.Shelf.Strings.Builder1
import Derived.Shelf.Strings.Split
import Derived.RangeFuncIn
import Derived.Test.YtaiondckookpiaaGreatDoorRows
import Derived.ProofKit
import Derived.Deep.Slices
set_option linter.unusedVariables false
set_option linter.unusedSimpArgs false
namespace Go.Vx
open Go.RowKit Go.Shelf Go.Proofs
section
variable {w0 w w' : World} {V0 : Fr} {V : Vw} {μ : List Nat} {ω : List Value} {box : List (List D)} {row : Rows} {s : St} {a : Act} {P : Program} {T : Tab} {sz : TypeId → Nat}
theorem effK_string{f e i r m n:Nat}(C:StrC P f e)(h1:szOf T e=1){env:List (Nat × D)}{x:D}{xs:List (List D)}{l:List UInt8}{K:D->St->Prop}(hb:box[i]? = some [x,.own r m])(hr:row[r]? = some (some (e,xs)))
    (hm:m<=xs.length)(hl:xs.take m=l.map bcell)(h0:l ≠ [])(h:pubK r ⟨env,box,row,n⟩ [] fun _ s'=>K (.s l) s')(he:e<BIG:=by decide):effK P T ⟨env,box,row,n⟩ f [.bp i 0] K:=by
 refine⟨C.call,fun w0 V0 V μ ω a w vs hS hvl hR=>?_⟩
 obtain⟨v,rfl⟩:∃ v,vs=[v]:=by
  match vs,hvl with
  | [v],_=>exact⟨v,rfl⟩
 obtain⟨gb,hgb,rfl⟩:=(hR 0 v _ rfl rfl).bp_
 obtain⟨us,t',hh,hs,ho,hrel,hty⟩:=hS.mem.hbox i gb _ hgb hb
 have hs2:us.size=2:=hs
 have hu1:us[1]? = some us[1]:=Array.getElem?_eq_getElem (by omega)
 have hown1:=hrel 1 _ (.own r m) hu1 rfl
 obtain⟨A,N,c,hω,hn,hv1⟩:=hown1.own_
 obtain⟨A2,c2,vals,e1,hc,hmx,hA,hA2,hown,hRR⟩:=hS.mem.rowShape he hω hr
 cases e1
 have hml:m=l.length:=by have:=congrArg List.length hl;rw[List.length_take,List.length_map] at this;omega
 have hlp:l.length ≠ 0:=by simpa using h0
 rcases hown.2 with⟨hv,hz⟩|⟨g,cap,cur,hv,hbase,hg,h5,h6,h7,h8⟩
 . omega
 injection hv with hv2 hv3 hv4
 subst hv2 hv4
 rw[h1,Nat.mul_one] at h7 h8
 have hval:cur.toList.take l.length=Lib.byteCells l:=by
  apply List.ext_getElem?
  intro j
  rw[List.getElem?_take]
  split
  . rename_i hj
    have hlj:l[j]? = some l[j]:=List.getElem?_eq_getElem hj
    have hx:xs[j]? = some (bcell l[j]):=by
     have:=congrArg (fun q=>q[j]?) hl
     simp only[List.getElem?_map,hlj,Option.map_some] at this
     rw[List.getElem?_take] at this
     split at this
     . exact this
     . cases this
    obtain⟨u,hu,hu2⟩:=hRR.rel j (bcell l[j]) 0 _ hx rfl
    rw[h1,Nat.mul_one,Nat.add_zero,<- h8,List.getElem?_take] at hu
    split at hu
    . rw[hu]
      cases hu2
      simp[Lib.byteCells,hlj]
    . cases hu
  . rw[List.getElem?_eq_none]
    simp[Lib.byteCells]
    omega
 obtain⟨V',_,s',hk,_,hS',hle⟩:=pubK_sound (vs:=[]) (ds:=[]) (K:=fun _ s'=>K (.s l) s'/\s'.row=row.set r none) hS ⟨rfl,fun j v d h=>by simp at h⟩ (by
  simp only[pubK] at h ⊢
  rw[hr] at h ⊢
  simp only[subE_eq,subB_eq] at h ⊢
  obtain⟨hrl,h⟩:=setK_iff _ _ _ _ h
  exact setK_mk hrl ⟨h,rfl⟩)
 refine (C.run gb g w l c cur (by rw[cell_of_row w gb 1 us t' (0,0) hh,hu1,hv1,hml]) hg (by omega) h6 h7 hval h0).mono ?_
 rintro e' w' ⟨rfl,rfl⟩
 have hno:∀ q,¬ Own μ ω s'.row q g:=by
  intro q hq
  rw[hk.2] at hq
  cases q with
  | inl j=>
   have:=hS.mem.uniq (.inl j) (.inr r) g hq ⟨_,_,hω,hr,rfl⟩
   cases this
  | inr q=>
   obtain⟨v,y,k1,k2,k3⟩:=hq
   by_cases hqr:q=r
   . subst hqr
     rw[List.getElem?_set_self (List.getElem?_eq_some_iff.1 hr).1] at k2
     cases k2
   . rw[List.getElem?_set_ne (Ne.symm hqr)] at k2
     have:=hS.mem.uniq (.inr q) (.inr r) g ⟨v,y,k1,k2,k3⟩ ⟨_,_,hω,hr,rfl⟩
     cases this
     exact hqr rfl
 exact⟨_,_,s',V',μ,ω,rfl,hk.1,.imm _ _ (.s l),⟨hS'.tmps,hS'.defers.to (fun k o ho hn=>by rw[freeze_other _ _ _ _ (fun e=>by rw[e,hg] at ho;exact hn _ _ _ (Option.some.inj ho).symm)];exact ho),hS'.env,hS'.mem.freeze hbase hno⟩,hle,.refl μ,.refl ω,fun p v hp=>by rw[freeze_cell];exact hp⟩
theorem effW_of_effK{f:Nat}{ds:List D}{K:D->St->Prop}(h:effK P T s f ds K):effW P T s f ds K:=
 ⟨h.call,fun w0 V0 V μ ω a w vs hS hl hR=>(h.run w0 V0 V μ ω a w vs hS hl hR).mono fun e w' ⟨v,d,s',V',μ',ω',h1,h2,h3,h4,_⟩=>⟨v,d,s',V',μ',ω',h1,h2,h3,h4⟩⟩
end
end Go.Vx
namespace Go.Vx
open Go.RowKit
def planF(ops:Array Oper)(i:Nat):List Mv->Array Bool->Bool
 | [],listed=>(Region.ready .any ops listed) == [i]
 | .q i' :: r,listed=>(Region.ready .any ops listed).contains i' && Region.free .any ops listed i' && ((ops[i']?).map isQ).getD false && planF ops i r (listed.setIfInBounds i' true)
 | .l i' :: r,listed=>(Region.ready .any ops listed) == [i'] && planF ops i r (listed.setIfInBounds i' true)
def planPOk(ops:Array Oper)(A:Waits)(mvs:List Mv)(i:Nat):Bool:=
 Region.noSelect ops && waitsB ops A && Nat.blt mvs.length ops.size && planF ops i mvs (Array.replicate ops.size false)
section
variable {w0 w w' : World} {V0 : Fr} {V : Vw} {μ : List Nat} {ω : List Value} {s : St} {a : Act} {P : Program} {T : Tab}
theorem Ok.region_throw{id t1 t2 n:Nat}{ty:TypeId}{env:List (Nat × D)}{box:List (List D)}{row:Rows}{Q:Exit->St->Prop}{y1 y2 y3:TypeId}{p1 p2 p3:String}{a1 a2 a3:Array Edge}
    (hb:∀ w,(Instr.build ty #[]).run P w = .ok (.agg #[]) w)(hc:P.concrete ty=true)(h1:t1<n)(h2:t2<n)
    (h:Q (.panic [{ v:=.iface ty (.agg #[]),recovered:=false }]) ⟨(t2,.u) :: (t1,.u) :: env,box,row,n⟩) :
    Ok P T (.region id #[⟨some t1,.build ty #[],y1,p1,a1,none⟩,⟨some t2,.makeInterface ty (.tmp t1),y2,p2,a2,none⟩,⟨none,.panic (.tmp t2),y3,p3,a3,none⟩] false) Q ⟨env,box,row,n⟩:=by
 refine⟨fun w0 V0 V μ ω a w hS=>wp_region_lit ?_⟩
 have hsz:a.tmps.size=n:=hS.tmps
 have ps:∀ {a:Act} {t:Nat} {v:Value},t<a.tmps.size->(a.put (some t) v).eval (.tmp t)=v:=fun h=>by simp[Act.put,Act.eval,Array.getD,h]
 unfold wpList
 rw[if_pos (by simp[Region.wanted])]
 left
 unfold Oper.wp
 have r1:(execOp a.eval ⟨some t1,.build ty #[],y1,p1,a1,none⟩).run P w = .ok (.value (.agg #[])) w:=by
  simp only[execOp,Sem.run_bind,Array.map_empty,List.map_toArray,List.map_nil,hb,Result.andThen_ok,Sem.run_pure]
 rw[r1]
 show wpList P _ _ [_,_] (a.put (some t1) _) w
 unfold wpList
 rw[if_pos (by simp[Region.wanted])]
 left
 unfold Oper.wp
 have r2:(execOp (a.put (some t1) (.agg #[])).eval ⟨some t2,.makeInterface ty (.tmp t1),y2,p2,a2,none⟩).run P w = .ok (.value (.iface ty (.agg #[]))) w:=by
  simp only[execOp,ps (a:=a) (t:=t1) (v:=.agg #[]) (by omega),Sem.run_bind,run_makeInterface w ty _ hc,Result.andThen_ok,Sem.run_pure]
 rw[r2]
 show wpList P _ _ [_] ((a.put (some t1) _).put (some t2) _) w
 unfold wpList
 rw[if_pos (by simp[Region.wanted])]
 left
 unfold Oper.wp
 have r3:(execOp ((a.put (some t1) (.agg #[])).put (some t2) (.iface ty (.agg #[]))).eval ⟨none,.panic (.tmp t2),y3,p3,a3,none⟩).run P w = .halt (.panic (.iface ty (.agg #[]))) w:=by
  have e:((a.put (some t1) (.agg #[])).put (some t2) (.iface ty (.agg #[]))).eval (.tmp t2) = .iface ty (.agg #[]):=ps (by simp[Act.put];omega)
  simp[execOp,e,Instr.panic,goPanic]
 rw[r3]
 exact⟨_,V,μ,ω,h,(hS.put h1 (.imm _ _ (.u _))).put h2 (.imm _ _ (.u _))⟩
end
end Go.Vx
namespace Go.Vx
open Go.RowKit
section
variable {P : Program} {T : Tab} {Q : Exit → St → Prop}
theorem ri_nil{sz:TypeId->Nat}{V:Vw}(e:TypeId):RI sz V (.slice none 0 0) (.lst e [] []):=
 RI.lst e [] [] none ⟨0,0,none⟩ 0 (fun _ _=>undef) (by simp) (by unfold maxLen;omega) (by simp) (by simp) (by simp) (by simp) (by simp)
theorem Ok.nilC{c:Code}(i j:Nat)(e:TypeId){env:List (Nat × D)}{box:List (List D)}{cs:List D}{row:Rows}{n:Nat}(hi:box[i]? = some cs)(hj:cs[j]? = some .nilS)
    (h:setK cs j (.lst e [] []) fun cs'=>setK box i cs' fun box'=>Ok P T c Q ⟨env,box',row,n⟩):Ok P T c Q ⟨env,box,row,n⟩:=by
 refine⟨fun w0 V0 V μ ω a w hS=>?_⟩
 obtain⟨hjl,h⟩:=setK_iff _ _ _ _ h
 obtain⟨hil,h⟩:=setK_iff _ _ _ _ h
 have hM:=hS.mem
 refine h.run w0 V0 V μ ω a w ⟨hS.tmps,hS.defers,hS.env,?_⟩
 refine⟨hM.below,hM.vok,hM.vle,hM.vold,by simpa using hM.bl,?_,hM.rl,hM.hrow,hM.uniq,hM.new,hM.vmut⟩
 intro q g cs2 h1 h2
 by_cases hq:q=i
 . subst hq
   dsimp only at h2
   rw[List.getElem?_set_self hil] at h2
   cases h2
   obtain⟨us,t',a1,b,c',d,ty⟩:=hM.hbox q g cs h1 hi
   refine⟨us,t',a1,by simpa using b,c',fun k v d' e1 e2=>?_,bTy_set ty j rfl⟩
   by_cases hk:k=j
   . subst hk
     rw[List.getElem?_set_self hjl] at e2
     cases e2
     rw[(d k v _ e1 hj).nilS_]
     exact .imm _ _ (ri_nil e)
   . rw[List.getElem?_set_ne (Ne.symm hk)] at e2
     exact d k v d' e1 e2
 . dsimp only at h2
   rw[List.getElem?_set_ne (Ne.symm hq)] at h2
   exact hM.hbox q g cs2 h1 h2
end
end Go.Vx
namespace Go.Vx
open Go.RowKit
section
variable {P : Program} {T : Tab} {Q : Exit → St → Prop}
theorem Ok.into{c:Code}(q r:Nat){x:TypeId × List (List D)}{env:List (Nat × D)}{box:List (List D)}{row:Rows}{n:Nat}(hr:row[r]? = some (some x))(hqr:q ≠ r)(hq:q<row.length)
    (h:subE q (fun _=>.u) env fun env=>subB q (fun _=>.u) box fun box=>subE r (fun m=>.own q m) env fun env=>subB r (fun m=>.own q m) box fun box=>setK row q (some x) fun row=>setK row r none fun row=>Ok P T c Q ⟨env,box,row,n⟩) :
    Ok P T c Q ⟨env,box,row,n⟩:=by
 refine⟨fun w0 V0 V μ ω a w hS=>?_⟩
 simp only[subE_eq,subB_eq] at h
 obtain⟨hq1,h⟩:=setK_iff _ _ _ _ h
 obtain⟨hr1,h⟩:=setK_iff _ _ _ _ h
 have hM:=hS.mem
 have hl:ω.length=row.length:=hM.rl
 have hrr:r<row.length:=(List.getElem?_eq_some_iff.1 hr).1
 obtain⟨v,hv⟩:∃ v,ω[r]? = some v:=⟨_,List.getElem?_eq_getElem (by omega)⟩
 have hω:∀ p u,p ≠ q->ω[p]? = some u->(ω.set q v)[p]? = some u:=fun p u hp hu=>by rw[List.getElem?_set_ne (Ne.symm hp)];exact hu
 have hvq:(ω.set q v)[q]? = some v:=List.getElem?_set_self (by omega)
 have hvr:(ω.set q v)[r]? = some v:=by rw[List.getElem?_set_ne hqr];exact hv
 have hdead:∀ m u,RS (szOf T) V μ ω u (.own q m)->RS (szOf T) V μ (ω.set q v) u .u:=fun _ u _=>.imm _ _ (.u u)
 have hconv:∀ m u,RS (szOf T) V μ (ω.set q v) u (.own r m)->RS (szOf T) V μ (ω.set q v) u (.own q m):=by
  intro m u hu
  obtain⟨A,N,c,h1,h2,rfl⟩:=hu.own_
  rw[hvr] at h1
  cases h1
  exact .own _ m A N c hvq h2
 have own:∀ l g,Own μ (ω.set q v) ((row.set q (some x)).set r none) l g->∃ l',Own μ ω row l' g/\((l = .inr q/\l' = .inr r)\/(l=l'/\l ≠ .inr r/\l ≠ .inr q)):=by
  intro l g hl2
  cases l with
  | inl i=>exact⟨.inl i,hl2,.inr ⟨rfl,by simp,by simp⟩⟩
  | inr p=>
   obtain⟨u,y,h1,h2,h3⟩:=hl2
   by_cases hpr:p=r
   . subst hpr
     rw[List.getElem?_set_self hr1] at h2
     cases h2
   . rw[List.getElem?_set_ne (Ne.symm hpr)] at h2
     by_cases hpq:p=q
     . subst hpq
       rw[hvq] at h1
       cases h1
       exact⟨.inr r,⟨v,x,hv,hr,h3⟩,.inl ⟨rfl,rfl⟩⟩
     . rw[List.getElem?_set_ne (Ne.symm hpq)] at h1 h2
       exact⟨.inr p,⟨u,y,h1,h2,h3⟩,.inr ⟨rfl,by simpa using hpr,by simpa using hpq⟩⟩
 refine h.run w0 V0 V μ (ω.set q v) a w ⟨hS.tmps,hS.defers,fun t=>?_,?_⟩
 . show RS _ _ _ _ _ (look ((env.map fun x=>(x.1,subDF q (fun _=>.u) x.2)).map fun x=>(x.1,subDF r (fun m=>.own q m) x.2)) t)
   rw[look_sub,look_sub]
   exact ((hS.env t).sub (fun _ _ h=>h) hω hdead).sub (fun _ _ h=>h) (fun _ _ _ h=>h) hconv
 . refine⟨hM.below,hM.vok,hM.vle,hM.vold,by simp[hM.bl],?_,by simp[hl],?_,?_,?_,?_⟩
   . intro i g c' h1 h2
     simp only[List.getElem?_map,Option.map_eq_some_iff] at h2
     obtain⟨_,⟨cs,hcs,rfl⟩,rfl⟩:=h2
     obtain⟨us,t',a1,b,c'',d,ty⟩:=hM.hbox i g cs h1 hcs
     refine⟨us,t',a1,by simpa using b,c'',fun j u d' e1 e2=>?_,bTy_sub (fun _=>rfl) (bTy_sub (fun _=>rfl) ty)⟩
     simp only[List.getElem?_map,Option.map_eq_some_iff] at e2
     obtain⟨_,⟨d0,hd0,rfl⟩,rfl⟩:=e2
     exact ((d j u d0 e1 hd0).sub1 (fun _ _ h=>h) hω hdead).sub1 (fun _ _ h=>h) (fun _ _ _ h=>h) hconv
   . intro p u e' ys h1 h2
     by_cases hpr:p=r
     . subst hpr
       rw[List.getElem?_set_self hr1] at h2
       cases h2
     . rw[List.getElem?_set_ne (Ne.symm hpr)] at h2
       by_cases hpq:p=q
       . subst hpq
         rw[hvq] at h1
         cases h1
         rw[List.getElem?_set_self hq1] at h2
         cases h2
         exact hM.hrow r v e' ys hv hr
       . rw[List.getElem?_set_ne (Ne.symm hpq)] at h1 h2
         exact hM.hrow p u e' ys h1 h2
   . intro l l' g h1 h2
     obtain⟨m,o1,c1⟩:=own l g h1
     obtain⟨m',o2,c2⟩:=own l' g h2
     have:=hM.uniq m m' g o1 o2
     rcases c1 with⟨e1,e2⟩|⟨e1,e2,e3⟩<;>rcases c2 with⟨f1,f2⟩|⟨f1,f2,f3⟩
     . rw[e1,f1]
     . exact absurd (by rw[f1,<- this,e2]) f2
     . exact absurd (by rw[e1,this,f2]) e2
     . rw[e1,f1,this]
   . intro l g h1
     obtain⟨m,o1,_⟩:=own l g h1
     exact hM.new m g o1
   . intro p u l hp h1
     obtain⟨m,o1,_⟩:=own l _ h1
     exact hM.vmut p u m hp o1
end
end Go.Vx
namespace Go.Vx
open Go.RowKit Go.Shelf Go.Proofs
theorem split_one{P:Program}{ρ:Ren}(L:Lays.n146 P ρ)(hi9:(P.info? (ρ.t 9)).map (fun i=>(i.zero,i.size,i.bytes))=some (some (.string ByteArray.empty),1,16))(s:ByteArray)(c:UInt8)(w:World)(hs:s.size<4294967281) :
    Calls P (ρ.f 146) #[.string s,.string ⟨#[c]⟩] w fun e w'=>
     e = .returned (.slice (some ⟨w.heap.size,0,none⟩) (Lib.splitB ⟨#[c]⟩ 0 (Lib.countB s ⟨#[c]⟩) s).length (Lib.splitB ⟨#[c]⟩ 0 (Lib.countB s ⟨#[c]⟩) s).length)/\w'=w.alloc (.cells ((Lib.splitB ⟨#[c]⟩ 0 (Lib.countB s ⟨#[c]⟩) s).map Value.string).toArray (ρ.t 9)):=by
 have h1:1<=(ByteArray.mk #[c]).size:=Nat.le_refl 1
 have hle:=Lib.countB_le ⟨#[c]⟩ h1 s.size s (Nat.le_refl _)
 have hlen:=Lib.splitB_all ⟨#[c]⟩ h1 0 _ s rfl
 have q:Calls P (ρ.f 221) #[.string s,.string ⟨#[c]⟩,.int .i64 (0:Nat),.int .i64 (-1)] w _:=Any.strings_genSplit_core { L with } hi9 s ⟨#[c]⟩ 0 (-1) (Lib.countB s ⟨#[c]⟩+1) w hs h1 (Nat.zero_le _)
  (fun x cs hx=>(Any.strings_Index_one { L with } x c _).mono fun e w' ⟨he,hw⟩=>⟨he.trans (congrArg (fun i=>Ending.returned (Value.int .i64 i)) (Lib.index_one _ _).symm),hw⟩)
  ((Any.strings_Count_one { L with } s c w).mono fun e w' ⟨he,hw⟩=>⟨by rw[he];show _=Ending.returned (Value.int .i64 ((Lib.count s.data.toList [c]:Nat):Int));rw[Lib.count_one];rfl,hw⟩)
  (by decide) (by decide) (by rw[if_pos (by decide)];omega)
 rw[Nat.add_sub_cancel] at q
 have e2:Lib.cellsOf (Lib.splitB ⟨#[c]⟩ 0 (Lib.countB s ⟨#[c]⟩) s) (Lib.countB s ⟨#[c]⟩+1)=((Lib.splitB ⟨#[c]⟩ 0 (Lib.countB s ⟨#[c]⟩) s).map Value.string).toArray:=by rw[<- hlen];exact Lib.cellsOf_full _
 rw[e2] at q
 have t3:=L.t3;have t9:=L.t9;have t31:=L.t31
 have a3:=L.a3;have a9:=L.a9;have a31:=L.a31
 have z3:=L.z3;have v3:=L.v3;have z9:=L.z9;have v9:=L.v9;have z31:=L.z31;have v31:=L.v31
 have e221:∀ args w,(callFunc (ρ.f 221) args).run P w = .ok (.enter (ρ.f 221) args) w:=enters_of L.f221 (by kernel_rfl) rfl
 go_enter L.f146,Body.n146_ntmps ρ
 go_wp2_with (go_at_fn (ρ.f 221);refine q.mono ?_;rintro e w' ⟨rfl,hw⟩;rw[hw])
 go_ret
 rw[hlen]
 exact⟨rfl,rfl⟩
def cutL(c:UInt8):List UInt8->List (List UInt8)
 | []=>[[]]
 | b :: r=>if b=c then [] :: cutL c r else match cutL c r with
  | h :: t=>(b :: h) :: t
  | []=>[[b]]
theorem cutL_ne(c:UInt8):∀ l,cutL c l ≠ []
 | []=>by simp[cutL]
 | b :: r=>by
  unfold cutL
  split
  . simp
  . split<;>simp
theorem cutL_none{c:UInt8}:∀ {l:List UInt8},c ∉ l->cutL c l=[l]
 | [],_=>rfl
 | b :: r,h=>by
  rw[List.mem_cons,not_or] at h
  rw[cutL,if_neg (Ne.symm h.1),cutL_none h.2]
theorem cutL_at{c:UInt8}:∀ {a:List UInt8} {b:List UInt8},c ∉ a->cutL c (a++c :: b)=a :: cutL c b
 | [],b,_=>by rw[List.nil_append,cutL,if_pos rfl]
 | x :: a,b,h=>by
  rw[List.mem_cons,not_or] at h
  rw[List.cons_append,cutL,if_neg (Ne.symm h.1),cutL_at h.2]
theorem indexByte_cases(c:UInt8):∀ l:List UInt8,(c ∉ l/\Lib.indexByte l c=-1)\/∃ a b,l=a++c :: b/\c ∉ a/\Lib.indexByte l c=a.length
 | []=>.inl ⟨by simp,rfl⟩
 | x :: l=>by
  by_cases h:x=c
  . subst h
    exact .inr ⟨[],l,rfl,by simp,by simp[Lib.indexByte]⟩
  . have e:(x == c)=false:=beq_eq_false_iff_ne.2 h
    rcases indexByte_cases c l with⟨h1,h2⟩|⟨a,b,h0,h1,h2⟩
    . refine .inl ⟨fun hm=>?_,by simp[Lib.indexByte,e,h2]⟩
      rcases List.mem_cons.1 hm with q|q
      . exact h q.symm
      . exact h1 q
    . refine .inr ⟨x :: a,b,by rw[h0,List.cons_append],fun hm=>?_,?_⟩
      . rcases List.mem_cons.1 hm with q|q
        . exact h q.symm
        . exact h1 q
      . have h3:((a.length:Int) == -1)=false:=beq_eq_false_iff_ne.2 (by omega)
        simp[Lib.indexByte,e,h2,h3]
theorem splitK_cut(c:UInt8):∀ (k:Nat) (l:List UInt8),l.count c=k->Lib.splitK [c] 0 k l=cutL c l
 | 0,l,h=>by
  rw[cutL_none (List.count_eq_zero.1 h)]
  rfl
 | k+1,l,h=>by
  rcases indexByte_cases c l with⟨h1,h2⟩|⟨a,b,rfl,h1,h2⟩
  . rw[List.count_eq_zero.2 h1] at h;cases h
  . rw[Lib.splitK,Lib.index_one,h2]
    have e1:((a.length:Int) == -1)=false:=beq_eq_false_iff_ne.2 (by omega)
    rw[if_neg (by rw[e1];decide)]
    rw[List.count_append,List.count_eq_zero.2 h1,List.count_cons_self] at h
    rw[cutL_at h1,Int.toNat_natCast,Nat.add_zero,List.take_left' rfl,List.length_singleton,splitK_cut c k _ (by
     rw[<- List.drop_drop,List.drop_left' rfl]
     simp
     omega),<- List.drop_drop,List.drop_left' rfl]
    rfl
theorem splitB_cut(s:ByteArray)(c:UInt8):(Lib.splitB ⟨#[c]⟩ 0 (Lib.countB s ⟨#[c]⟩) s).map (·.data.toList)=cutL c s.data.toList:=by
 rw[Lib.splitB_data]
 exact splitK_cut c _ _ (Lib.count_one c _).symm
theorem RI.s_{sz:TypeId->Nat}{V:Vw}{v:Value}{l:List UInt8}(h:RI sz V v (.s l)):v = .string (bstr l):=by cases h;rfl
theorem FSpec.of_texts{P:Program}{T:Tab}{f:FuncId}{ds:List D}{e:TypeId}{pieces:List ByteArray}(hcall:∀ args w,(callFunc f args).run P w = .ok (.enter f args) w)(hsz:szOf T e=1)(hm:pieces.length<=maxLen)
    (h:∀ (V:Vw) (w:World) (args:Array Value),args.size=ds.length->(∀ (j:Nat) v d,args[j]? = some v->ds[j]? = some d->RI (szOf T) V v d)->Calls P f args w fun q w'=>
     q = .returned (.slice (some ⟨w.heap.size,0,none⟩) pieces.length pieces.length)/\w'=w.alloc (.cells (pieces.map Value.string).toArray e)) :
    FSpec P T f ds fun d rows=>d = .own 0 pieces.length/\rows=[some (e,pieces.map fun b=>[.s b.data.toList])]:=by
 refine⟨hcall,fun V w args hV hl hR=>(h V w args hl hR).mono ?_⟩
 rintro q w' ⟨rfl,rfl⟩
 refine⟨V,[.slice (some ⟨w.heap.size,0,none⟩) pieces.length pieces.length],_,_,_,rfl,⟨rfl,rfl⟩,.own 0 _ _ _ _ rfl (Nat.le_refl _),(Below.refl _ _).alloc (Nat.le_refl _) _,fun _ _ h=>h,hV.ext (Ext.alloc _ _),fun _ _=>rfl,rfl,?_,?_,?_⟩
 . intro r v e' xs h1 h2
   cases r with
   | succ r=>simp at h1
   | zero=>
    cases h1
    cases h2
    refine⟨pieces.map Value.string,.of ⟨by rw[hsz,List.length_map,List.length_map,Nat.mul_one],.inr ⟨w.heap.size,pieces.length,_,?_,Nat.le_refl _,heap_alloc_new w _,by rw[List.length_map];exact Nat.le_refl _,hm,by rw[hsz];simp,?_⟩⟩,?_,?_,?_⟩
    . rw[List.length_map]
    . rw[hsz,List.length_map,Nat.mul_one]
      show List.take _ (pieces.map Value.string)=_
      rw[List.take_of_length_le (by rw[List.length_map];exact Nat.le_refl _)]
    . intro u hu
      obtain⟨b,_,rfl⟩:=List.mem_map.1 hu
      rfl
    . intro i rw_ hi
      rw[List.getElem?_map] at hi
      obtain⟨b,_,rfl⟩:=Option.map_eq_some_iff.1 hi
      rw[hsz];rfl
    . intro i rw_ j d hi hj
      rw[List.getElem?_map] at hi
      obtain⟨b,hb,rfl⟩:=Option.map_eq_some_iff.1 hi
      cases j with
      | succ j=>simp at hj
      | zero=>
       cases hj
       refine⟨.string b,by rw[hsz,Nat.mul_one,Nat.add_zero,List.getElem?_map,hb];rfl,?_⟩
       have:b=bstr b.data.toList:=by simp[bstr]
       conv=>lhs;rw[this]
       exact .s _
 . intro r r' v v' x x' g h1 _ h2 _ _ _
   cases r with
   | succ r=>simp at h1
   | zero=>cases r' with
    | succ r=>simp at h2
    | zero=>rfl
 . intro p u r v x hp h1 _ hb
   cases r with
   | succ r=>simp at h1
   | zero=>
    cases h1
    have h3:=World.block_lt_of_cell? _ _ (hV.2 p u hp)
    simp only[Value.ownBlock,Option.some.injEq] at hb
    omega
theorem split_at{P:Program}{T:Tab}{ρ:Ren}(L:Lays.n146 P ρ)(hi9:(P.info? (ρ.t 9)).map (fun i=>(i.zero,i.size,i.bytes))=some (some (.string ByteArray.empty),1,16))
    (hc:∀ args w,(callFunc (ρ.f 146) args).run P w = .ok (.enter (ρ.f 146) args) w)(hsz:szOf T (ρ.t 9)=1)(s:List UInt8)(c:UInt8)(hs:s.length<4294967281) :
    FSpec P T (ρ.f 146) [.s s,.s [c]] fun d rows=>d = .own 0 (cutL c s).length/\rows=[some ((ρ.t 9),(cutL c s).map fun b=>[.s b])]:=by
 have e1:(bstr s).data.toList=s:=by simp[bstr]
 have hz:(bstr s).size=s.length:=by rw[Lib.size_eq,e1]
 have e0:=splitB_cut (bstr s) c
 rw[e1] at e0
 have hlen:(Lib.splitB ⟨#[c]⟩ 0 (Lib.countB (bstr s) ⟨#[c]⟩) (bstr s)).length=(cutL c s).length:=by rw[<- e0,List.length_map]
 have h:=FSpec.of_texts (P:=P) (T:=T) (ds:=[.s s,.s [c]]) (e:=(ρ.t 9)) (pieces:=Lib.splitB ⟨#[c]⟩ 0 (Lib.countB (bstr s) ⟨#[c]⟩) (bstr s)) hc hsz (by
     have:=Lib.splitB_length_le ⟨#[c]⟩ 0 (Lib.countB (bstr s) ⟨#[c]⟩) (bstr s)
     have:=Lib.countB_le ⟨#[c]⟩ (Nat.le_refl 1) (bstr s).size (bstr s) (Nat.le_refl _)
     unfold maxLen;omega) fun V w args hl hR=>by
  match args,hl with
  | ⟨[a,b]⟩,_=>
   have ha:=(hR 0 a _ rfl rfl).s_
   have hb:=(hR 1 b _ rfl rfl).s_
   subst ha hb
   exact split_one L hi9 (bstr s) c w (by rw[hz];exact hs)
 have e3:((Lib.splitB ⟨#[c]⟩ 0 (Lib.countB (bstr s) ⟨#[c]⟩) (bstr s)).map fun b=>[D.s b.data.toList])=(cutL c s).map fun b=>[.s b]:=by rw[<- e0,List.map_map];rfl
 rw[hlen,e3] at h
 exact h
end Go.Vx
namespace Go.Vx
open Go.RowKit
def memN:List Nat->Nat->Bool
 | [],_=>false
 | x :: r,t=>match Nat.beq x t with|true=>true|false=>memN r t
theorem memN_iff:∀ {l:List Nat} {t:Nat},memN l t=true ↔ t ∈ l
 | [],t=>by simp[memN]
 | x :: r,t=>by
  unfold memN
  cases h:Nat.beq x t with
  | true=>
   have:=beq_nat_true h
   simp[this]
  | false=>
   have:x ≠ t:=fun e=>by subst e;simp at h
   simp[memN_iff (l:=r) (t:=t),Ne.symm this]
def dstsN:List Oper->List Nat
 | []=>[]
 | o :: r=>match o.dst with|some t=>t :: dstsN r|none=>dstsN r
theorem dstsN_mem:∀ {l:List Oper} {o:Oper} {t:Nat},o ∈ l->o.dst=some t->t ∈ dstsN l
 | [],o,t,h,_=>by simp at h
 | x :: r,o,t,h,hd=>by
  unfold dstsN
  rcases List.mem_cons.1 h with rfl|h
  . rw[hd];simp
  . have:=dstsN_mem h hd
    split
    . simp[this]
    . exact this
def hidS(ds:List Nat):List (Nat × D)->(List (Nat × D)->Prop)->Prop
 | [],K=>K []
 | (t,d) :: r,K=>match memN ds t with|false=>hidS ds r fun r=>K ((t,d) :: r)|true=>hidS ds r K
def hidSL(ds:List Nat)(l:List (Nat × D)):List (Nat × D):=l.filter fun x=>!memN ds x.1
theorem hidS_eq(ds:List Nat):∀ (l:List (Nat × D)) (K:List (Nat × D)->Prop),hidS ds l K=K (hidSL ds l)
 | [],K=>rfl
 | (t,d) :: r,K=>by
  simp only[hidS,hidSL]
  cases h:memN ds t with
  | true=>simp[hidS_eq ds r,hidSL,h]
  | false=>simp[hidS_eq ds r,hidSL,h]
theorem hidSL_look(ds:List Nat)(l:List (Nat × D))(t:Nat):look (hidSL ds l) t=if t ∈ ds then .u else look l t:=by
 induction l with
 | nil=>simp[hidSL,look]
 | cons x l ih=>
  obtain⟨q,d⟩:=x
  unfold hidSL
  cases h:memN ds q with
  | false=>
   have hnq:q ∉ ds:=fun e=>by rw[<- memN_iff,h] at e;cases e
   rw[List.filter_cons_of_pos (by simp[h])]
   show look ((q,d) :: hidSL ds l) t=_
   unfold look
   cases hq:Nat.beq q t with
   | true=>
    have:=beq_nat_true hq
    subst this
    simp[hnq]
   | false=>exact ih
  | true=>
   have hnq:q ∈ ds:=memN_iff.1 h
   rw[List.filter_cons_of_neg (by simp[h])]
   show look (hidSL ds l) t=_
   rw[ih]
   split
   . rfl
   . rename_i hnt
     conv=>rhs;unfold look
     cases hq:Nat.beq q t with
     | true=>have:=beq_nat_true hq;subst this;exact absurd hnq hnt
     | false=>rfl
def callPanS(P:Program)(T:Tab)(ls:List Nat)(Q:Exit->St->Prop)(o:Oper)(s:St):Prop:=
 match o.guard with
 | some _=>False
 | none=>match o.op with
  | .call { callee:=.value (.func f),args,argTypes }=>expos T s.row argTypes.toList (s.gets args.toList) fun ds=>∃ v,PSpec P T f ds v/\(match s with|⟨env,box,row,n⟩=>hidS ls env fun env=>Q (.panic [{ v:=v,recovered:=false }]) ⟨env,box,row,n⟩)
  | _=>False
def panAtS(P:Program)(T:Tab)(l:List Oper)(i:Nat)(Q:Exit->St->Prop)(s:St):Prop:=match l[i]? with|some o=>callPanS P T (dstsN l) Q o s|none=>False
section
variable {w0 w w' : World} {V0 : Fr} {V : Vw} {μ : List Nat} {ω : List Value} {s : St} {a : Act} {P : Program} {T : Tab}
theorem dopsF2_sound(hT:TOk P T){ops:List Oper}{A:Waits}(hns:Region.noSelect ops.toArray=true)(hA:waitsB ops.toArray A=true){Q:Exit->Act->World->Prop}(hQ:∀ c o v a w,o ∈ ops->Q (.panic c) (Act.put a o.dst v) w->Q (.panic c) a w){i0 k:Nat} :
    ∀ (mvs:List Mv) (listed:Array Bool) (ps:Pends) (sps:List (Nat × Src)) (s:St) (V:Vw) (μ:List Nat) (ω:List Value) (a:Act) (w:World) (K:St->Prop),
     planF ops.toArray i0 mvs listed=true->Closed ops.toArray listed->Sim (szOf T) w0 V0 V μ ω s a w->All2 (PendOK V μ ω w) ps sps->dops P T ops A mvs sps s K ->
     (∀ s V μ ω a w (next:Act->World->Prop),K s->Sim (szOf T) w0 V0 V μ ω s a w->wpOp P ops.toArray Q i0 next a w)->wpAnyP P ops.toArray (befW A) Q (mvs.length+(k+1)) ps listed a w
 | [],listed,ps,sps,s,V,μ,ω,a,w,K,hB,hcl,hS,hps,h,hq=>by
  simp only[planF,beq_iff_eq] at hB
  rw[List.length_nil,Nat.zero_add]
  refine⟨fun h0=>(by rw[hB] at h0;cases h0),fun j hj=>?_⟩
  rw[hB] at hj
  have hji:j=i0:=by simpa using hj
  subst hji
  exact hq s V μ ω a w _ h hS
 | .q i :: r,listed,ps,sps,s,V,μ,ω,a,w,K,hB,hcl,hS,hps,h,hq=>by
  simp only[planF,Bool.and_eq_true] at hB
  obtain⟨⟨⟨hr,hf⟩,hq1⟩,hB⟩:=hB
  simp only[dops] at h
  rw[List.length_cons,show r.length+1+(k+1)=(r.length+(k+1))+1 by omega]
  cases ho:ops[i]? with
  | none=>rw[ho] at h;exact h.elim
  | some o=>
   rw[ho] at h
   dsimp only at h
   have ho':ops.toArray[i]? = some o:=by simpa using ho
   rw[ho'] at hq1
   have hri:i ∈ Region.ready .any ops.toArray listed:=by simpa using hr
   have hall:∀ x ∈ ps,x.2 w:=fun x hx=>let ⟨y,hy⟩:=hps.left x hx;hy.mono_
   rcases wantK_sound (o:=o) hS h with⟨hw,s1,h,hS⟩|⟨hw,s1,h,hS⟩
   . obtain⟨d,v,s2,h,hr2,hS2,p,n,hsrc,hq2⟩:=qop_sound hT hS h
     obtain⟨s3,h,hS3⟩:=putK_sound hS2 hr2 h
     refine wpAnyP_first (C:=KeepN p n w) (v:=v) (fun i j=>befW_spec hA i j) ho' (Region.noSelect_spec hns) (fun c a w hc=>hQ _ _ _ _ _ (List.mem_of_getElem? ho) hc) _ ps listed a w hcl (Region.free_spec ho' hf) hri
      (.inl ⟨hw,fun w' hk=>quiet_value (by simpa using hq1) (hq2 w' ?_)⟩) (fun _ _ _ h=>h) hall ?_
     . unfold QR
       split
       . exact hk
       . rename_i heq;simp[isQ,heq] at hq1
       . rename_i heq;simp[isQ,heq] at hq1
       . trivial
     . exact dopsF2_sound hT hns hA hQ r _ _ _ s3 V μ ω _ w K hB (hcl.set hri) hS3 (.cons ⟨rfl,p,n,w,rfl,hsrc,fun _ _ _ h=>h⟩ hps) h hq
   . obtain⟨s3,h,hS3⟩:=putK_sound hS (v:=undef) (d:=.tup []) (RS.tup [] #[] rfl (fun j v d h=>by simp at h)) h
     refine wpAnyP_first (C:=KeepN ⟨0,0,none⟩ 0 w) (v:=undef) (fun i j=>befW_spec hA i j) ho' (Region.noSelect_spec hns) (fun c a w hc=>hQ _ _ _ _ _ (List.mem_of_getElem? ho) hc) _ ps listed a w hcl (Region.free_spec ho' hf) hri
      (.inr ⟨hw,rfl⟩) (fun _ _ _ h=>h) hall ?_
     exact dopsF2_sound hT hns hA hQ r _ _ _ s3 V μ ω _ w K hB (hcl.set hri) hS3 (.cons ⟨rfl,⟨0,0,none⟩,0,w,rfl,SrcP.zero _,fun _ _ _ h=>h⟩ hps) h hq
 | .l i :: r,listed,ps,sps,s,V,μ,ω,a,w,K,hB,hcl,hS,hps,h,hq=>by
  simp only[planF,Bool.and_eq_true,beq_iff_eq] at hB
  obtain⟨hr,hB⟩:=hB
  simp only[dops] at h
  rw[List.length_cons,show r.length+1+(k+1)=(r.length+(k+1))+1 by omega]
  cases ho:ops[i]? with
  | none=>rw[ho] at h;exact h.elim
  | some o=>
   rw[ho] at h
   dsimp only at h
   have ho':ops.toArray[i]? = some o:=by simpa using ho
   have hri:i ∈ Region.ready .any ops.toArray listed:=by rw[hr];simp
   refine⟨fun h0=>(by rw[hr] at h0;cases h0),fun j hj=>?_⟩
   rw[hr] at hj
   have hji:j=i:=by simpa using hj
   subst hji
   unfold wpOp
   rw[ho']
   dsimp only
   rcases wantK_sound (o:=o) hS h with⟨hw,s1,h,hS⟩|⟨hw,s1,h,hS⟩
   . rw[if_pos hw]
     obtain⟨h,hst⟩:=clearK_step hS.mem hps h
     refine .inl (dop_sound hT hS h _ _ fun d v s2 V2 μ2 ω2 w2 hk hr2 hS2 hstep=>?_)
     obtain⟨h1,h2⟩:=hst _ _ _ _ hstep
     obtain⟨s3,h,hS3⟩:=putK_sound hS2 hr2 hk
     exact⟨h1,dopsF2_sound hT hns hA hQ r _ _ _ s3 _ _ _ _ w2 K hB (hcl.set hri) hS3 h2 h hq⟩
   . rw[if_neg (by rw[hw];simp)]
     obtain⟨s3,h,hS3⟩:=putK_sound hS (v:=undef) (d:=.tup []) (RS.tup [] #[] rfl (fun j v d h=>by simp at h)) h
     exact⟨fun x hx _=>let ⟨y,hy⟩:=hps.left x hx;hy.mono_,dopsF2_sound hT hns hA hQ r _ _ _ s3 _ _ _ _ w K hB (hcl.set hri) hS3 (hps.filter fun _ _ h=>h.1) h hq⟩
theorem Ok.region_planpanS(hT:TOk P T)(hm:P.follows .mixedOrders=true){s:St}{Q:Exit->St->Prop}{id:Nat}{l:List Oper}(A:Waits)(mvs:List Mv)(i0:Nat)(hB:planPOk l.toArray A mvs i0=true)
    (h:dops P T l A mvs [] s (panAtS P T l i0 Q)):Ok P T (.region id l.toArray true) Q s:=by
 refine⟨fun w0 V0 V μ ω a w hS=>?_⟩
 simp only[planPOk,Bool.and_eq_true] at hB
 obtain⟨⟨⟨hns,hA⟩,hlen⟩,hB⟩:=hB
 have hlt:mvs.length<l.toArray.size:=blt_true hlen
 have hd:Ext w { w with drawn:=w.drawn+1 }:=(Below.refl w.heap.size w).drew
 refine wp_mono (Q:=fun e a' w'=>∃ c,e = .panic c/\∃ s' V' μ' ω',Q e s'/\(∀ t,t ∈ dstsN l->look s'.env t = .u)/\Sim (szOf T) w0 V0 V' μ' ω' s' a' w') (wp_region_any hm ?_) ?_
 . refine wpAny_of_P (bef:=befW A) _ [] _ _ _ ?_
   have hz:∀ m j:Nat,(Array.replicate m false).getD j false=false:=fun m j=>by
    rcases Nat.lt_or_ge j m with h|h<;>simp[h]
   have hw:=dopsF2_sound hT hns hA (Q:=fun e a' w'=>∃ c,e = .panic c/\∃ s' V' μ' ω',Q e s'/\(∀ t,t ∈ dstsN l->look s'.env t = .u)/\Sim (szOf T) w0 V0 V' μ' ω' s' a' w')
    (by
     rintro c o v a w ho ⟨_,_,s',V',μ',ω',hq,hhid,hS'⟩
     refine⟨c,rfl,s',V',μ',ω',hq,hhid,⟨?_,?_,fun t=>?_,hS'.mem⟩⟩
     . have:=hS'.tmps
       cases hd:o.dst<;>simpa[Act.put,hd] using this
     . have:=hS'.defers
       cases hd:o.dst<;>simpa[Act.put,hd] using this
     . by_cases ht:t ∈ dstsN l
       . rw[hhid t ht];exact .imm _ _ (.u _)
       . have:=hS'.env t
         cases hd:o.dst with
         | none=>rw[hd] at this;exact this
         | some d=>
          have hne:d ≠ t:=fun e=>ht (by rw[<- e];exact dstsN_mem ho hd)
          rw[hd] at this
          unfold slotV at this ⊢
          split
          . rename_i hlt
            rw[if_pos hlt] at this
            have e1:(a.put (some d) v).tmps.getD t undef=a.tmps.getD t undef:=by
             show (a.tmps.setIfInBounds d v).getD t undef=_
             rw[Array.getD_eq_getD_getElem?,Array.getD_eq_getD_getElem?,Array.getElem?_setIfInBounds_ne hne]
            rw[<- e1]
            exact this
          . rename_i hlt
            rw[if_neg hlt] at this
            exact this) (i0:=i0) (k:=l.toArray.size - mvs.length - 1) mvs _ [] [] s V μ ω a _ _ hB
    (fun j o _ hl=>by rw[hz] at hl;cases hl) (hS.ext hd) .nil h ?_
   . rw[show mvs.length+(l.toArray.size - mvs.length - 1+1)=l.toArray.size by omega] at hw
     exact hw
   . intro s V μ ω a w next hk hS
     unfold panAtS at hk
     split at hk
     case h_2=>exact hk.elim
     rename_i o ho
     obtain⟨dst,op,type,pos,after,guard⟩:=o
     unfold callPanS at hk
     split at hk
     . exact hk.elim
     rename_i hg
     dsimp only at hg
     subst hg
     split at hk
     case h_2=>exact hk.elim
     rename_i f args argTypes hop
     dsimp only at hop
     subst hop
     obtain⟨es,⟨v,hp,hq⟩,hes,hri⟩:=expos_sound hS.mem argTypes.toList (s.gets args.toList) (args.toList.map a.eval) _ (by simp[St.gets]) (hS.gets args.toList).2 hk
     unfold wpOp
     have ho':l.toArray[i0]? = some ⟨dst,.call ⟨.value (.func f),args,argTypes⟩,type,pos,after,none⟩:=by simpa using ho
     rw[ho']
     dsimp only
     rw[if_pos (by simp[Region.wanted])]
     left
     unfold Oper.wp
     have hrun:(execOp a.eval ⟨dst,.call ⟨.value (.func f),args,argTypes⟩,type,pos,after,none⟩).run P w = .ok (.enter f (args.map a.eval)) w:=by
      simp only[execOp,resolve,Act.eval,Deferred.ofValue,invoke,Sem.run_bind,Sem.run_pure,Result.andThen_ok]
      rw[show (#[]++args.map a.eval)++#[]=args.map a.eval by simp,hp.call]
     rw[hrun]
     show Calls P f (args.map a.eval) w _
     have hcalls:=hp.run (heapV w) w (args.map a.eval) (.heap hS.mem.vok.gl (Ext.refl w)) (by simp[hes,St.gets]) (fun j v d h1 h2=>hri j v d (by simpa using h1) h2)
     refine hcalls.mono ?_
     rintro e w' ⟨rfl,hb⟩
     obtain⟨env,box,row,n⟩:=s
     dsimp only at hq
     rw[hidS_eq] at hq
     have hS2:=hS.ext hb
     refine⟨_,rfl,⟨hidSL (dstsN l) env,box,row,n⟩,V,μ,ω,hq,fun t ht=>by rw[hidSL_look,if_pos ht],⟨hS2.tmps,hS2.defers,fun t=>?_,hS2.mem⟩⟩
     show RS _ _ _ _ (slotV V0 n a t) (look (hidSL (dstsN l) env) t)
     rw[hidSL_look]
     split
     . exact .imm _ _ (.u _)
     . exact hS2.env t
 . rintro e a' w' ⟨c,rfl,s',V',μ',ω',hk,_,hS'⟩
   exact⟨s',V',μ',ω',hk,hS'⟩
end
section
variable {P : Program} {T : Tab}
theorem FSpec.of_deferK(k:Nat)(hT:TOk P T){f:FuncId}{fn:Func}{c:Code}(hf:P.funcs[f]? = some fn)(hb:fn.body=some c)(hcall:∀ args w,(callFunc f args).run P w = .ok (.enter f args) w){ds:List D}{R:D->Rows->Prop}(hn:ds.length<=fn.ntmps)
    {g:FuncId}{pv:Value}{z1 z2:List Value}(hD:DefSpec P g pv z1 z2){zd1 zd2:List D}(hz1:z1.map ofVal=zd1)(hz2:z2.map ofVal=zd2)(ho1:∀ v ∈ z1,v.oneCell'=true)(ho2:∀ v ∈ z2,v.oneCell'=true){id t p q:Nat}{ty1 ty2:TypeId}{p1 p2:String}{e1 e2:Array Edge}{Bs:List Code}
    (hflat:(flatC c).drop k = .region id #[⟨some t,.makeFunc (.func g) #[] #[.tmp p,.tmp q],ty1,p1,e1,none⟩,⟨none,.defer ⟨.value (.tmp t),#[],#[]⟩,ty2,p2,e2,none⟩] false :: Bs)
    (h:OkL P T ((flatC c).take k) (defA P T fn R pv zd1 zd2 t p q Bs) ⟨envOf 0 ds,[],[],fn.ntmps⟩):FSpec P T f ds R:=
 FSpec.of_defer hT hf hb hcall hn hz1 hz2 ho1 ho2 hD (by rw[<- hflat,List.take_append_drop]) h
end
end Go.Vx
namespace Go.Vx
open Go.RowKit
variable {P : Program} {T : Tab} {s : St}
theorem Ok.seqV{c1 c2:Code}{Q:Exit->St->Prop}{ι:Type}(L Cs:List Nat)(k0 kb0 k kb:Nat)(C:ι->List D)(B:ι->List (List D)->List (List D))(R:ι->Rows->Rows)(I:ι->Prop)
    (h:keepK L k0 kb0 s fun s0=>match s0 with
     | ⟨env,box,row,n⟩=>(Ok P T c1 (thenQ (fun s'=>∃ x,I x/\keepK (catL Cs L) k kb s' fun s1=>s1=⟨envCat Cs (C x) env,B x box,R x row,n⟩) Q) s) /\
      ∀ x,I x->envCatK Cs (C x) env fun env'=>Ok P T c2 Q ⟨env',B x box,R x row,n⟩):Ok P T (.seq c1 c2) Q s:=by
 obtain⟨⟨env,box,row,n⟩,h1,h2⟩:=keepK_some h
 exact Ok.seqK (catL Cs L) k kb (fun x=>⟨envCat Cs (C x) env,B x box,R x row,n⟩) I h1 fun x hx=>by
  have:=h2 x hx
  rwa [envCatK_eq] at this
theorem FSpec.mono{f:FuncId}{ds:List D}{R R':D->Rows->Prop}(h:FSpec P T f ds R)(hR:∀ d rows,R d rows->R' d rows):FSpec P T f ds R':=
 ⟨h.1,fun V w args a b c=>(h.2 V w args a b c).mono fun e w' ⟨V',ω,row,v,d,h1,h2,h3⟩=>⟨V',ω,row,v,d,h1,hR _ _ h2,h3⟩⟩
end Go.Vx
namespace Go.Vx
open Go.RowKit
variable {P : Program} {T : Tab}
inductive Pk(box:List (List D)):D->D->Prop
 | i (k n):Pk box (.i k n) (.i k n)
 | s (l):Pk box (.s l) (.s l)
 | bp (i off cs) (h:box[i]? = some cs) (hg:∀ d ∈ cs.drop off,∃ k n,d = .i k n):Pk box (.bp i off) (.ep (cs.drop off))
theorem RS.i_ri{sz:TypeId->Nat}{V V':Vw}{μ:List Nat}{ω:List Value}{v:Value}{k:IntKind}{n:Int}(h:RS sz V μ ω v (.i k n)):RI sz V' v (.i k n)/\v.oneCell'=true:=by
 cases h with
 | imm _ _ h=>cases h;exact⟨.i _ _,rfl⟩
theorem effK.peek{s:St}{f:FuncId}{ds es:List D}{K:D->St->Prop}{R:D->Rows->Prop}(hl:es.length=ds.length)(hp:∀ (j:Nat) d e,ds[j]? = some d->es[j]? = some e->Pk s.box d e)(hf:FSpec P T f es R)
    (h:∀ d rows,R d rows->gRowsP rows/\boolP d.ownOrG2 (match s with
     | ⟨env,box,row,n⟩=>shiftD row.length d fun d=>catK row rows fun row=>K d ⟨env,box,row,n⟩)):effK P T s f ds K:=by
 refine⟨hf.call,fun w0 V0 V μ ω a w vs hS hvl hvR=>?_⟩
 have hri:∀ (j:Nat) v e,vs[j]? = some v->es[j]? = some e->RI (szOf T) (heapV w) v e:=by
  intro j v e h1 h2
  have hj:j<ds.length:=by rw[<- hl];exact (List.getElem?_eq_some_iff.1 h2).1
  have h3:=List.getElem?_eq_getElem hj
  have hr:=hvR j v _ h1 h3
  generalize ds[j]=d0 at h3 hr
  cases hp j _ e h3 h2 with
  | i k n=>exact hr.i_ri.1
  | s l=>cases hr with
   | imm _ _ hr=>cases hr;exact .s _
  | bp i off cs hb hg=>
   obtain⟨g,rfl,hμ⟩:∃ g,v = .pointer (some ⟨g,off,none⟩)/\μ[i]? = some g:=by
    cases hr with
    | imm _ _ hr=>cases hr
    | bp _ _ g h=>exact⟨g,rfl,h⟩
   obtain⟨us,t,hu,hs,ho,hR',_⟩:=hS.mem.hbox i g cs hμ hb
   have key:∀ (j:Nat) d,(cs.drop off)[j]? = some d->∃ hj:off+j<us.size,RI (szOf T) (heapV w) us[off+j] d/\us[off+j].oneCell'=true:=by
    intro j d hj
    have hj2:cs[off+j]? = some d:=by rw[List.getElem?_drop] at hj;exact hj
    have hlt:off+j<us.size:=by rw[hs];exact (List.getElem?_eq_some_iff.1 hj2).1
    obtain⟨k,n,rfl⟩:=hg d (List.mem_of_getElem? hj)
    exact⟨hlt,(hR' (off+j) us[off+j] _ (by simp[hlt]) hj2).i_ri⟩
   refine .ep _ ⟨g,off,none⟩ (fun j=>us.getD (off+j) undef) (fun j d hj=>?_) (fun j d hj=>?_)
   . obtain⟨hlt,h1,h2⟩:=key j d hj
     have hgd:us.getD (off+j) undef=us[off+j]:=by simp[Array.getD,hlt]
     rw[hgd]
     refine⟨?_,h2⟩
     have ha:(⟨g,off,none⟩:Addr).add j=⟨g,off+j,none⟩:=by cases j<;>simp[Addr.add]
     show w.cell? _=_
     rw[ha]
     simp[World.cell?,hu,hlt]
   . obtain⟨hlt,h1,h2⟩:=key j d hj
     have hgd:us.getD (off+j) undef=us[off+j]:=by simp[Array.getD,hlt]
     rw[hgd]
     exact h1
 have hcalls:=hf.run (heapV w) w vs.toArray (.heap hS.mem.vok.gl (Ext.refl w)) (by simp[hl,hvl]) (fun j v d h1 h2=>hri j v d (by simpa using h1) h2)
 refine hcalls.mono ?_
 rintro e w'' ⟨V',ω0,row0,v,d,rfl,hR,hrs,hres⟩
 obtain⟨hg,hk⟩:=h d row0 hR
 obtain⟨hd,hk⟩:=boolP_iff.1 hk
 have hres2:=hres.less hS.mem.vok hg
 have hrs2:=hrs.ownOrG2 (V':=fun p=>if p.block<w.heap.size then V p else V' p) hd
 obtain⟨env,box,row,n⟩:=s
 have hM:=hS.mem.call hres2
 have hl:row.length=ω.length:=hS.mem.rl.symm
 dsimp only at hk
 rw[hl] at hk
 obtain⟨d',hk,hr⟩:=shiftD_sound (μ:=μ) (ω':=ω++ω0) (VLe.refl _) (fun r u hu=>by rw[List.getElem?_append_right (by omega),Nat.add_sub_cancel];exact hu) hrs2 hk
 rw[catK_eq] at hk
 exact⟨v,d',_,_,μ,ω++ω0,rfl,hk,hr,⟨hS.tmps,hS.defers.ext hres2.below,fun t=>(hS.env t).mono hres2.le (.refl μ) (.append _ _),hM⟩,hres2.le,.refl _,.append _ _,fun q v hq=>by rw[hres2.below.cell (World.block_lt_of_cell? _ _ hq)];exact hq⟩
end Go.Vx
namespace Go.Vx
open Go.RowKit
def fen(ρ:Option Nat):Fence:={ Fence.wide with round:=ρ }
section
variable {P : Program} {T : Tab} {s : St} {Q : Exit → St → Prop} {w0 : World} {V0 : Fr}
theorem fen_room(ρ:Option Nat)(k:Nat):(fen ρ).room k:=fun _ h=>by cases h
theorem opIn_of{ρ:Option Nat}{o:Oper}{a:Act}{w:World}{next:Act->World->Prop}{R:Exit->Act->World->Prop}(h:o.wp P a w next R)(hd:∀ c,o.op ≠ .defer c):o.wpIn (fen ρ) 0 P a w next R:=by
 refine⟨fun _ _=>trivial,?_⟩
 show o.uponIn (fen ρ) 0 P a next R ((o.semAt ρ a.eval).run P w)
 rw[Oper.semAt_eq ρ _ _ hd]
 unfold Oper.wp at h
 generalize (execOp a.eval o).run P w=r at h
 unfold Oper.upon at h
 unfold Oper.uponIn
 split at h
 . exact h
 . exact h
 . exact h
 . refine⟨(fun hh=>by cases hh),?_⟩
   exact (callsIn_wide (n:=0)).2 h
 . refine⟨(fun hh=>by cases hh),?_⟩
   intro c cs _
   obtain⟨v,w',hr,hs⟩:=h c cs
   exact⟨v,w',hr,stepsIn_wide.2 hs⟩
 . exact h
 . exact h.elim
theorem vop_nodefer{o:Oper}{K:D->St->Prop}(h:vop P T s o K):∀ c,o.op ≠ .defer c:=by
 intro c hc
 unfold vop at h
 rw[hc] at h
 dsimp only at h
 unfold qop at h
 rw[hc] at h
 exact h
theorem vopsIn_sound(hT:TOk P T){ρ:Option Nat}{ops:List Oper}{R:Exit->Act->World->Prop}:∀ (rest:List Oper) (s:St) (V:Vw) (μ:List Nat) (ω:List Value) (a:Act) (w:World) (K:St->Prop),Sim (szOf T) w0 V0 V μ ω s a w ->
    vops P T ops rest s K->(∀ s V μ ω a w,K s->Sim (szOf T) w0 V0 V μ ω s a w->R .normal a w)->wpListIn (fen ρ) 0 P ops.toArray R rest a w
 | [],s,V,μ,ω,a,w,K,hS,h,hq=>hq s V μ ω a w h hS
 | o :: rest,s,V,μ,ω,a,w,K,hS,h,hq=>by
  simp only[vops] at h
  unfold wpListIn
  rcases wantK_sound hS h with⟨hw,s1,h,hS⟩|⟨hw,s1,h,hS⟩
  . rw[if_pos hw]
    refine opIn_of (vop_sound hT hS h _ _ fun d v s2 V2 μ2 ω2 w2 hk hr hS2 _=>?_) (vop_nodefer h)
    obtain⟨s3,h,hS3⟩:=putK_sound hS2 hr hk
    exact vopsIn_sound hT rest s3 _ _ _ _ _ K hS3 h hq
  . rw[if_neg (by rw[hw];simp)]
    obtain⟨s3,h,hS3⟩:=putK_sound hS (v:=undef) (d:=.tup []) (RS.tup [] #[] rfl (fun j v d h=>by simp at h)) h
    exact⟨fun _ _=>trivial,vopsIn_sound hT rest s3 _ _ _ _ _ K hS3 h hq⟩
theorem vopsCutIn_sound(hT:TOk P T){ρ:Option Nat}{ops:List Oper}{R:Exit->Act->World->Prop}:∀ (n:Nat) (rest:List Oper) (s:St) (V:Vw) (μ:List Nat) (ω:List Value) (a:Act) (w:World) (K:Oper->St->Prop),Sim (szOf T) w0 V0 V μ ω s a w ->
    vopsCut P T ops n rest s K->(∀ o r s V μ ω a w,rest.drop n=o :: r->K o s->Sim (szOf T) w0 V0 V μ ω s a w->wpListIn (fen ρ) 0 P ops.toArray R (o :: r) a w)->wpListIn (fen ρ) 0 P ops.toArray R rest a w
 | 0,[],_,_,_,_,_,_,_,_,h,_=>by simp[vopsCut] at h
 | _+1,[],_,_,_,_,_,_,_,_,h,_=>by simp[vopsCut] at h
 | 0,o :: rest,s,V,μ,ω,a,w,K,hS,h,hq=>hq o rest s V μ ω a w rfl h hS
 | n+1,o :: rest,s,V,μ,ω,a,w,K,hS,h,hq=>by
  simp only[vopsCut] at h
  unfold wpListIn
  rcases wantK_sound hS h with⟨hw,s1,h,hS⟩|⟨hw,s1,h,hS⟩
  . rw[if_pos hw]
    refine opIn_of (vop_sound hT hS h _ _ fun d v s2 V2 μ2 ω2 w2 hk hr hS2 _=>?_) (vop_nodefer h)
    obtain⟨s3,h,hS3⟩:=putK_sound hS2 hr hk
    exact vopsCutIn_sound hT n rest s3 _ _ _ _ _ K hS3 h hq
  . rw[if_neg (by rw[hw];simp)]
    obtain⟨s3,h,hS3⟩:=putK_sound hS (v:=undef) (d:=.tup []) (RS.tup [] #[] rfl (fun j v d h=>by simp at h)) h
    exact⟨fun _ _=>trivial,vopsCutIn_sound hT n rest s3 _ _ _ _ _ K hS3 h hq⟩
structure OkR(P:Program)(T:Tab)(c:Code)(Q:Exit->St->Prop)(s:St):Prop where
 run:∀ (l:Nat) (w0:World) (V0:Fr) (V:Vw) (μ:List Nat) (ω:List Value) (a:Act) (w:World),(∃ r0,(l,Obj.loop r0) ∈ V0.kp)->Sim (szOf T) w0 V0 V μ ω s a w ->
  c.wpIn (fen (some l)) 0 P (fun e a' w'=>∃ s' V' μ' ω',Q e s'/\Sim (szOf T) w0 V0 V' μ' ω' s' a' w') a w
theorem OkR.mono{c:Code}{Q':Exit->St->Prop}(h:OkR P T c Q s)(hq:∀ e s,Q e s->Q' e s):OkR P T c Q' s:=by
 refine⟨fun l w0 V0 V μ ω a w hl hS=>wpIn_mono (h.run l w0 V0 V μ ω a w hl hS) ?_⟩
 rintro e a' w' ⟨s',V',μ',ω',hk,hS'⟩
 exact⟨s',V',μ',ω',hq _ _ hk,hS'⟩
theorem OkR.region(hT:TOk P T){id:Nat}{l:List Oper}(h:vops P T l l s (Q .normal)):OkR P T (.region id l.toArray false) Q s:=
 ⟨fun _ w0 V0 V μ ω a w _ hS=>wpIn_region_lit (vopsIn_sound hT l s V μ ω a w _ hS h fun s' V' μ' ω' a' w' hk hS'=>⟨s',V',μ',ω',hk,hS'⟩)⟩
theorem OkR.seq{x y:Code}(h:OkR P T x (thenQ (OkR P T y Q) Q) s):OkR P T (.seq x y) Q s:=by
 refine⟨fun l w0 V0 V μ ω a w hl hS=>wpIn_seq (wpIn_mono (h.run l w0 V0 V μ ω a w hl hS) ?_)⟩
 rintro e a' w' ⟨s',V',μ',ω',hk,hS'⟩
 cases e with
 | normal=>exact OkR.run hk l w0 V0 V' μ' ω' a' w' hl hS'
 | _=>exact⟨s',V',μ',ω',hk,hS'⟩
theorem OkR.skip(h:Q .normal s):OkR P T .skip Q s:=⟨fun _ _ _ V μ ω _ _ _ hS=>wpIn_skip ⟨s,V,μ,ω,h,hS⟩⟩
theorem OkR.ret(h:Q .ret s):OkR P T .ret Q s:=⟨fun _ _ _ V μ ω _ _ _ hS=>wpIn_ret ⟨s,V,μ,ω,h,hS⟩⟩
theorem OkR.exit{id:Nat}(h:Q (.exit id) s):OkR P T (.exit id) Q s:=⟨fun _ _ _ V μ ω _ _ _ hS=>wpIn_exit ⟨s,V,μ,ω,h,hS⟩⟩
theorem OkR.block{id:Nat}{c:Code}(h:OkR P T c (blockQ id Q) s):OkR P T (.block id c) Q s:=by
 refine⟨fun l w0 V0 V μ ω a w hl hS=>wpIn_block (wpIn_mono (h.run l w0 V0 V μ ω a w hl hS) ?_)⟩
 rintro e a' w' ⟨s',V',μ',ω',hk,hS'⟩
 cases e with
 | exit id'=>
  simp only[blockQ] at hk
  simp only[Exit.inBlock]
  split at hk
  . rename_i hb
    rw[if_pos (beq_nat_true hb)]
    exact⟨s',V',μ',ω',hk,hS'⟩
  . rename_i hb
    rw[if_neg (by rintro rfl;rw[Nat.beq_refl] at hb;cases hb)]
    exact⟨s',V',μ',ω',hk,hS'⟩
 | _=>exact⟨s',V',μ',ω',hk,hS'⟩
theorem OkR.cond{c:Operand}{x y:Code}(h:condK s c (OkR P T x Q) (OkR P T y Q)):OkR P T (.cond c x y) Q s:=by
 refine⟨fun l w0 V0 V μ ω a w hl hS=>?_⟩
 have hc:=hS.get c
 unfold condK at h
 split at h
 . rename_i hd;rw[hd] at hc;exact wpIn_cond_true hc.tt_ (h.run l w0 V0 V μ ω a w hl hS)
 . rename_i hd;rw[hd] at hc;exact wpIn_cond_false hc.ff_ (h.run l w0 V0 V μ ω a w hl hS)
 . rename_i p hd
   rw[hd] at hc
   obtain⟨b,hb,hbp⟩:=hc.bool
   cases b with
   | true=>exact wpIn_cond_true hb ((h.1 (hbp.1 rfl)).run l w0 V0 V μ ω a w hl (hS.know c (by rw[hb];exact .imm _ _ .tt)))
   | false=>exact wpIn_cond_false hb ((h.2 (fun hp=>by simpa using hbp.2 hp)).run l w0 V0 V μ ω a w hl (hS.know c (by rw[hb];exact .imm _ _ .ff)))
 . exact h.elim
theorem OkR.region_throw{id t1 t2 n:Nat}{ty:TypeId}{env:List (Nat × D)}{box:List (List D)}{row:Rows}{y1 y2 y3:TypeId}{p1 p2 p3:String}{a1 a2 a3:Array Edge}
    (hb:∀ w,(Instr.build ty #[]).run P w = .ok (.agg #[]) w)(hc:P.concrete ty=true)(h1:t1<n)(h2:t2<n)
    (h:Q (.panic [{ v:=.iface ty (.agg #[]),recovered:=false }]) ⟨(t2,.u) :: (t1,.u) :: env,box,row,n⟩) :
    OkR P T (.region id #[⟨some t1,.build ty #[],y1,p1,a1,none⟩,⟨some t2,.makeInterface ty (.tmp t1),y2,p2,a2,none⟩,⟨none,.panic (.tmp t2),y3,p3,a3,none⟩] false) Q ⟨env,box,row,n⟩:=by
 refine⟨fun l w0 V0 V μ ω a w hl hS=>wpIn_region_lit ?_⟩
 have hsz:a.tmps.size=n:=hS.tmps
 have ps:∀ {a:Act} {t:Nat} {v:Value},t<a.tmps.size->(a.put (some t) v).eval (.tmp t)=v:=fun h=>by simp[Act.put,Act.eval,Array.getD,h]
 unfold wpListIn
 rw[if_pos (by simp[Region.wanted])]
 refine opIn_of ?_ (by intro c;simp)
 unfold Oper.wp
 have r1:(execOp a.eval ⟨some t1,.build ty #[],y1,p1,a1,none⟩).run P w = .ok (.value (.agg #[])) w:=by
  simp only[execOp,Sem.run_bind,Array.map_empty,List.map_toArray,List.map_nil,hb,Result.andThen_ok,Sem.run_pure]
 rw[r1]
 show wpListIn _ _ P _ _ [_,_] (a.put (some t1) _) w
 unfold wpListIn
 rw[if_pos (by simp[Region.wanted])]
 refine opIn_of ?_ (by intro c;simp)
 unfold Oper.wp
 have r2:(execOp (a.put (some t1) (.agg #[])).eval ⟨some t2,.makeInterface ty (.tmp t1),y2,p2,a2,none⟩).run P w = .ok (.value (.iface ty (.agg #[]))) w:=by
  simp only[execOp,ps (a:=a) (t:=t1) (v:=.agg #[]) (by omega),Sem.run_bind,run_makeInterface w ty _ hc,Result.andThen_ok,Sem.run_pure]
 rw[r2]
 show wpListIn _ _ P _ _ [_] ((a.put (some t1) _).put (some t2) _) w
 unfold wpListIn
 rw[if_pos (by simp[Region.wanted])]
 refine opIn_of ?_ (by intro c;simp)
 unfold Oper.wp
 have r3:(execOp ((a.put (some t1) (.agg #[])).put (some t2) (.iface ty (.agg #[]))).eval ⟨none,.panic (.tmp t2),y3,p3,a3,none⟩).run P w = .halt (.panic (.iface ty (.agg #[]))) w:=by
  have e:((a.put (some t1) (.agg #[])).put (some t2) (.iface ty (.agg #[]))).eval (.tmp t2) = .iface ty (.agg #[]):=ps (by simp[Act.put];omega)
  simp[execOp,e,Instr.panic,goPanic]
 rw[r3]
 exact⟨_,V,μ,ω,h,(hS.put h1 (.imm _ _ (.u _))).put h2 (.imm _ _ (.u _))⟩
end
end Go.Vx
namespace Go.Vx
open Go.RowKit
section
variable {P : Program} {T : Tab}
def wpG(P:Program)(G:FuncId->Prop)(c:Code)(Q:Exit->Act->World->Prop)(a:Act)(w:World):Prop:=
 ∀ (b:Frame) (k:List Item) (cs:List Frame),G b.fn->∃ e a' w',Q e a' w'/\Arrives P (lone (b.at a (.code c :: k)) cs w) b k cs e a' w'
variable {G : FuncId → Prop} {Q : Exit → Act → World → Prop} {a : Act} {w : World}
theorem wpG_of{c:Code}(h:c.wp P Q a w):wpG P G c Q a w:=fun b k cs _=>h b k cs
theorem wpG_mono{c:Code}{Q':Exit->Act->World->Prop}(h:wpG P G c Q a w)(hq:∀ e a w,Q e a w->Q' e a w):wpG P G c Q' a w:=
 fun b k cs hG=>let ⟨e,a',w',q,r⟩:=h b k cs hG;⟨e,a',w',hq _ _ _ q,r⟩
theorem wpG_seq{x y:Code}(h:wpG P G x (Exit.then (wpG P G y Q) Q) a w):wpG P G (Code.seq x y) Q a w:=by
 intro b k cs hG
 obtain⟨e,a₁,w₁,hq,harr⟩:=h b (.code y :: k) cs hG
 cases e with
 | normal=>
  obtain⟨e₂,a₂,w₂,hq₂,harr₂⟩:=hq b k cs hG
  exact⟨e₂,a₂,w₂,hq₂,.of_steps (.head step_seq harr) harr₂⟩
 | exit id=>exact⟨_,a₁,w₁,hq,.of_steps (.one step_seq) (.pass (x:=.code y) rfl (fun _ _=>.inl (by simp)) harr)⟩
 | goto l=>exact⟨_,a₁,w₁,hq,.of_steps (.one step_seq) (.pass (x:=.code y) rfl (fun _ _=>.inl (by simp)) harr)⟩
 | ret=>exact⟨_,a₁,w₁,hq,.of_steps (.one step_seq) (.pass (x:=.code y) rfl (fun _ _=>.inl (by simp)) harr)⟩
 | panic ch=>exact⟨_,a₁,w₁,hq,.of_steps (.one step_seq) (.pass (x:=.code y) rfl (fun _ _=>.inl (by simp)) harr)⟩
 | outgrown=>exact⟨_,a₁,w₁,hq,.of_steps (.one step_seq) (.pass (x:=.code y) rfl (fun _ _=>.inl (by simp)) harr)⟩
theorem wpG_block{id:Nat}{c:Code}(h:wpG P G c (Exit.inBlock id Q) a w):wpG P G (Code.block id c) Q a w:=by
 intro b k cs hG
 obtain⟨e,a₁,w₁,hq,harr⟩:=h b (.inBlock id :: k) cs hG
 cases e with
 | normal=>exact⟨.normal,a₁,w₁,hq,.head step_block (Steps.trans harr (.one step_inBlock))⟩
 | exit id'=>
  by_cases hid:id'=id
  . simp only[Exit.inBlock,hid,if_true] at hq
    exact⟨.normal,a₁,w₁,hq,.head step_block (harr k (by simp[exitTo,hid]))⟩
  . simp only[Exit.inBlock,hid,if_false] at hq
    refine⟨.exit id',a₁,w₁,hq,fun k' hk=>.head step_block (harr k' ?_)⟩
    have:(id == id')=false:=by simp;exact fun h=>hid h.symm
    simp[exitTo,this,hk]
 | goto l=>exact⟨_,a₁,w₁,hq,fun k' hk=>.head step_block (harr k' (by simp[gotoIn,hk]))⟩
 | ret=>exact⟨_,a₁,w₁,hq,.of_steps (.one step_block) harr⟩
 | panic ch=>exact⟨_,a₁,w₁,hq,.of_steps (.one step_block) harr⟩
 | outgrown=>exact⟨_,a₁,w₁,hq,.of_steps (b:=b) (k:=k) (cs:=cs) (e:=.outgrown) (.one step_block) harr⟩
theorem calls_of_wpG{f:FuncId}{fn:Func}{c:Code}{args:Array Value}{w:World}{R:Ending->World->Prop}(hf:P.funcs[f]? = some fn)(hb:fn.body=some c)(hG:G f)
    (h:wpG P G c (bodyPostX P fn R) { tmps:=args++Array.replicate (fn.ntmps - args.size) undef,defers:=[] } w):Calls P f args w R:=by
 intro cs
 let b:Frame:={ (default:Frame) with fn:=f,kind:=.normal }
 have henter:Frame.enter P f args .normal =
     b.at { tmps:=args++Array.replicate (fn.ntmps - args.size) undef,defers:=[] } [.code c]:=by
  simp[Frame.enter,Frame.at,hf,hb,b]
 obtain⟨e,a',w',hq,harr⟩:=h b [] cs hG
 rw[<- henter] at harr
 cases e with
 | normal=>
  obtain⟨e',w'',fr',hR,hs,hfn,hl⟩:=leaves_stepsX a'.defers .returning w' { b.at a' [] with mode:=.returning } cs rfl rfl rfl hf rfl hq
  exact⟨e',w'',fr',hR,Comes.of_steps (Steps.trans harr (.one step_end)) hs,hfn,hl⟩
 | ret=>
  obtain⟨todo,hs₀⟩:=harr
  obtain⟨e',w'',fr',hR,hs,hfn,hl⟩:=leaves_stepsX a'.defers .returning w' { b.at a' todo with mode:=.returning } cs rfl rfl rfl hf rfl hq
  exact⟨e',w'',fr',hR,Comes.of_steps hs₀ hs,hfn,hl⟩
 | panic chain=>
  obtain⟨todo,hs₀⟩:=harr
  obtain⟨e',w'',fr',hR,hs,hfn,hl⟩:=leaves_stepsX a'.defers (.panicking chain) w' { b.at a' todo with mode:=.panicking chain } cs rfl rfl rfl hf rfl hq
  exact⟨e',w'',fr',hR,Comes.of_steps hs₀ hs,hfn,hl⟩
 | exit id=>exact hq.elim
 | goto l=>exact hq.elim
 | outgrown=>exact⟨.outgrown,w',b,hq,harr.resolve_left (by simp[b]),rfl,trivial⟩
def rangePostG(P:Program)(G:FuncId->Prop)(l:Nat)(Q:Exit->Act->World->Prop)(a':Act):Ending->World->Prop
 | .returned _,w₃=>∃ jump w₄,(Instr.endLoop l).run P w₃ = .ok jump w₄ /\
     (match jump with
      | none=>Q .normal a' w₄
      | some c=>wpG P G c Q a' w₄)
 | .panicked chain,w₃=>Q (.panic chain) a' w₃
 | .outgrown,_=>False
theorem wpG_rangeFunc{g:Operand}{ps:Array Tmp}{assign body:Code}
    (h:∀ fn,G fn->∃ (l:Nat) (mark:List Deferred) (w₁:World) (d:Deferred) (w₁':World) (f:FuncId) (args:Array Value) (w₂:World),
     (Instr.enterLoop fn a.tmps ps assign body none).run P w = .ok (l,mark) w₁ /\
     (resolve a.eval (rangeCall g l) 0).run P w₁ = .ok d w₁' /\
     (invoke d.target d.args).run P w₁' = .ok (.enter f args) w₂ /\
     Calls P f args w₂ (rangePostG P G l Q { a with defers:=mark++a.defers })) :
    wpG P G (Code.rangeFunc g ps assign body) Q a w:=by
 intro b k cs hG
 obtain⟨l,mark,w₁,d,w₁',f,args,w₂,he,hres,hinv,hcall⟩:=h b.fn hG
 obtain⟨b0,hb0⟩:∃ b0:Frame,b0={ b with roundOf:=none }:=⟨_,rfl⟩
 have hr0:b0.roundOf=none:=by rw[hb0]
 have hat:∀ a k,b0.atR a k=b.at a k:=fun a k=>by rw[Frame.atR_of_none hr0,hb0];rfl
 have henter:=stepR_rangeFunc (P:=P) (b:=b0) (a:=a) (k:=k) (cs:=cs) (w:=w) (by rw[hr0,hb0];exact he) hres hinv
 obtain⟨e,w₃,fr,hR,hsteps,hfn,hleave⟩:=hcall (b0.atR { a with defers:=mark++a.defers } (.inRangeFunc l :: k) :: cs)
 rw[hat] at henter
 cases e with
 | outgrown=>exact hR.elim
 | returned v=>
  obtain⟨jump,w₄,hend,hj⟩:=hR
  have sback:Steps P (lone (b.at a (.code (.rangeFunc g ps assign body) :: k)) cs w) (lone (b.at { a with defers:=mark++a.defers } ((jump.map Item.code).toList++k)) cs w₄):=by
   have s2:step P (lone fr (b0.atR { a with defers:=mark++a.defers } (.inRangeFunc l :: k) :: cs) w₃) = .next (lone (b0.atR { a with defers:=mark++a.defers } (.endRangeFunc l :: k)) cs w₃):=by
    rw[<- finish_atR_inRangeFunc l v];exact step_leave_returned hleave
   have s3:=stepR_endRangeFunc (P:=P) (b:=b0) (a:={ a with defers:=mark++a.defers }) (k:=k) (cs:=cs) hend
   rw[hat _ ((jump.map Item.code).toList++k)] at s3
   exact .head henter (Steps.trans hsteps (.head s2 (.one s3)))
  cases jump with
  | none=>exact⟨.normal,_,w₄,hj,sback⟩
  | some c=>
   obtain⟨e',a'',w₅,hq,harr⟩:=hj b k cs hG
   exact⟨e',a'',w₅,hq,.of_steps sback harr⟩
 | panicked chain=>
  refine⟨.panic chain,_,w₃,hR,.inRangeFunc l :: k,.head henter (Steps.trans hsteps (.one ?_))⟩
  have:=step_leave_panicked (P:=P) (c:=b0.atR { a with defers:=mark++a.defers } (.inRangeFunc l :: k)) (cs:=cs) hleave
  rw[Frame.raise_atR,hat] at this
  rw[hat]
  exact this
def roundPostV(P:Program)(l:Nat)(f:FuncId)(R:Ending->World->Prop):Exit->Act->World->Prop
 | .panic ch,a,w=>∃ fn,P.funcs[f]? = some fn/\LeavesX P fn a.tmps (fun e w'=>e = .panicked ch/\R e w') a.defers (.panicking ch) w
 | .normal,_,w=>∃ v w',(Instr.endRound l none).run P w = .ok v w'/\R (.returned v) w'
 | .ret,_,w=>∃ v w',(Instr.endRound l (some .ret)).run P w = .ok v w'/\R (.returned v) w'
 | .exit id,_,w=>∃ v w',(Instr.endRound l (some (.exit id))).run P w = .ok v w'/\R (.returned v) w'
 | .goto _,_,_=>False
 | .outgrown,_,_=>False
theorem roundIn_of{l:Nat}{f:FuncId}{tmps:Array Value}{assign body:Code}{w:World}{R:Ending->World->Prop}
    (h:assign.wpIn (fen (some l)) 0 P (Exit.then (fun a₁ w₁=>∃ w₂,(Instr.beginRound l).run P w₁ = .ok () w₂/\body.wpIn (fen (some l)) 0 P (roundPostV P l f R) a₁ w₂) (fun _ _ _=>False))
     { tmps:=tmps,defers:=[] } w) :
    RoundIn Fence.wide 0 P l f tmps assign body w R:=by
 refine⟨trivial,fun c cs hr=>?_⟩
 let b:Frame:={ (default:Frame) with fn:=f,kind:=.normal,roundOf:=some l }
 have hb0:Frame.round l f tmps assign body .normal=b.atR { tmps:=tmps,defers:=[] } [.code assign,.beginRound,.code body]:=by
  simp[Frame.round,Frame.atR,b]
 obtain⟨e,a₁,w₁,hq,harr⟩:=h b [.beginRound,.code body] (c :: cs) rfl trivial (fen_room _ _)
 rw[<- hb0] at harr
 have w_:∀ {m m'},StepsIn (Machine.fenced P (fen (some l))) P m m'->Steps P m m':=fun h=>h.steps
 cases e with
 | normal=>
  obtain⟨w₂,hbr,hbody⟩:=hq
  have s1:Steps P (lone (b.atR a₁ [.beginRound,.code body]) (c :: cs) w₁) (lone (b.atR a₁ [.code body]) (c :: cs) w₂):=.one (stepR_beginRound rfl hbr)
  obtain⟨e₂,a₂,w₃,hq₂,harr₂⟩:=hbody b [] (c :: cs) rfl trivial (fen_room _ _)
  cases e₂ with
  | normal=>
   obtain⟨v,w₄,hend,hR⟩:=hq₂
   exact⟨.returned v,w₄,hR,comesIn_wide.2 (((w_ harr).trans s1).trans ((w_ harr₂).trans (.one (stepR_round_end rfl rfl hend))))⟩
  | ret=>
   obtain⟨v,w₄,hend,hR⟩:=hq₂
   obtain⟨k₁,hs⟩:=harr₂.2 rfl
   exact⟨.returned v,w₄,hR,comesIn_wide.2 (((w_ harr).trans s1).trans ((w_ hs).trans (.one (stepR_round_ret rfl rfl hend))))⟩
  | exit id=>
   obtain⟨v,w₄,hend,hR⟩:=hq₂
   obtain⟨k₁,hk,hs⟩:=harr₂.2 rfl rfl
   exact⟨.returned v,w₄,hR,comesIn_wide.2 (((w_ harr).trans s1).trans ((w_ hs).trans (.one (stepR_round_exit rfl rfl hk hend))))⟩
  | goto t=>exact hq₂.elim
  | panic chain=>
   obtain⟨fn,hfn,hl⟩:=hq₂
   obtain⟨todo,hs⟩:=harr₂
   obtain⟨e',w'',fr',⟨he',hR'⟩,hs',hfn',hl'⟩:=leaves_stepsX a₂.defers (.panicking chain) w₃ { b.atR a₂ todo with mode:=.panicking chain } (c :: cs) rfl rfl rfl hfn rfl hl
   subst he'
   exact⟨.panicked chain,w'',hR',comesIn_wide.2 (((w_ harr).trans s1).trans ((w_ hs).trans (Steps.trans hs' (.one (step_leave_panicked hl')))))⟩
  | outgrown=>exact hq₂.elim
 | exit id=>exact hq.elim
 | goto l=>exact hq.elim
 | ret=>exact hq.elim
 | panic chain=>exact hq.elim
 | outgrown=>exact hq.elim
end
end Go.Vx
namespace Go.Vx
open Go.RowKit
section
variable {P : Program} {T : Tab}
structure Yields(P:Program)(T:Tab)(l B:Nat)(xs:List (List D))(J:Option Nat->Vw->World->Prop)(Jp:List PanicEntry->World->Prop):Prop where
 vok:∀ k V W,J k V W->VOk V W
 size:∀ k V W,J k V W->B<=W.heap.size
 grow:∀ k V V' W W',J k V W->Ext W W'->VLe V V'->VOk V' W'->(∀ p v,V' p=some v->V p=some v\/W.heap.size<=p.block)->J k V' W'
 shut:∀ k V W D,J k V W->B<=D->W.heap[D]? = some (.deferred (some []))->J k V (W.putObj D (.deferred none))
 shutp:∀ c W D,Jp c W->B<=D->W.heap[D]? = some (.deferred (some []))->Jp c (W.putObj D (.deferred none))
 round:∀ (k:Nat) x V W (vs:List Value),xs[k]? = some x->J (some k) V W->vs.length=x.length->(∀ (j:Nat) v d,vs[j]? = some v->x[j]? = some d->RI (szOf T) V v d) ->
  ∀ E:List (Nat × Obj),(∀ x ∈ E,B<=x.1/\W.heap[x.1]? = some x.2/\noC x.2) ->
  ∃ fn tmps assign body,(Instr.yield l vs.toArray).run P W = .ok (.round l fn tmps assign body) W /\
   RoundIn Fence.wide 0 P l fn tmps assign body W fun e W'=>(∀ x ∈ E,W'.heap[x.1]? = some x.2) /\
    ((∃ V',VLe V V'/\((e = .returned (.bool true)/\J (some (k+1)) V' W')\/(e = .returned (.bool false)/\J none V' W')))\/∃ c,e = .panicked c/\Jp c W')
structure YSpec(P:Program)(T:Tab)(f:FuncId)(cap:List D)(xs:List (List D)):Prop where
 call:∀ args w,(callFunc f args).run P w = .ok (.enter f args) w
 run:∀ (V:Vw) (w:World) (args:Array Value),args.size=cap.length->(∀ (j:Nat) v d,args[j]? = some v->cap[j]? = some d->RI (szOf T) V v d) ->
  ∀ l J Jp,Yields P T l w.heap.size xs J Jp->J (some 0) V w ->
  Calls P f (#[.func (.yield l) #[] #[]]++args) w fun e w'=>((∃ v,e = .returned v)/\∃ V',J (some xs.length) V' w'\/J none V' w')\/∃ c,e = .panicked c/\Jp c w'
structure YSpecI(P:Program)(T:Tab)(f:FuncId)(cap:List D)(xs:List (List D))(I:Nat->Prop):Prop where
 call:∀ args w,(callFunc f args).run P w = .ok (.enter f args) w
 run:∀ (V:Vw) (w:World) (args:Array Value),args.size=cap.length->(∀ (j:Nat) v d,args[j]? = some v->cap[j]? = some d->RI (szOf T) V v d) ->
  ∀ l J Jp,Yields P T l w.heap.size xs J Jp->(∀ k V W,J (some k) V W->I k)->J (some 0) V w ->
  Calls P f (#[.func (.yield l) #[] #[]]++args) w fun e w'=>((∃ v,e = .returned v)/\∃ V',J (some xs.length) V' w'\/J none V' w')\/∃ c,e = .panicked c/\Jp c w'
theorem YSpec.toI{f:FuncId}{cap:List D}{xs:List (List D)}(h:YSpec P T f cap xs)(I:Nat->Prop):YSpecI P T f cap xs I:=⟨h.call,fun V w args a b l J Jp hY _ hJ=>h.run V w args a b l J Jp hY hJ⟩
variable {w0 w w' : World} {V V' : Vw} {μ : List Nat} {ω : List Value} {box : List (List D)} {row : Rows} {s : St} {a : Act} {sz : TypeId → Nat}
theorem Mem.grow{F:Fr}(h:Mem sz w0 F V μ ω box row w)(he:Ext w w')(hV:VLe V V')(hok:VOk V' w')(hn:∀ p v,V' p=some v->V p=some v\/w.heap.size<=p.block):Mem sz w0 F V' μ ω box row w':=by
 have h1:=h.ext he
 refine⟨h1.below,hok,fun p v hp=>hV p v (h.vle p v hp),fun p hp=>?_,h1.bl,fun i g cs a b=>?_,h1.rl,fun r v e xs a b=>?_,h1.uniq,h1.new,fun p u l hp ho=>?_⟩
 . rw[<- h.vold p hp]
   cases hv:V' p with
   | none=>
    cases hv2:V p with
    | none=>rfl
    | some u=>rw[hV p u hv2] at hv;cases hv
   | some u=>
    rcases hn p u hv with hq|hq
    . exact hq.symm
    . have:=h.below.size;omega
 . obtain⟨vs,t,c1,c2,c3,c4,c5⟩:=h1.hbox i g cs a b
   exact⟨vs,t,c1,c2,c3,fun j v d e1 e2=>(c4 j v d e1 e2).mono hV (.refl _) (.refl _),c5⟩
 . obtain⟨vals,c1,c2,c3,c4⟩:=h1.hrow r v e xs a b
   exact⟨vals,c1,c2,c3,fun i rw j d e1 e2=>let ⟨u,x1,x2⟩:=c4 i rw j d e1 e2;⟨u,x1,x2.mono hV⟩⟩
 . have hg:=(h.new l p.block ho).2
   rcases hn p u hp with hq|hq
   . exact h.vmut p u l hq ho
   . omega
theorem Sim.grow{F:Fr}(h:Sim sz w0 F V μ ω s a w)(he:Ext w w')(hV:VLe V V')(hok:VOk V' w')(hn:∀ p v,V' p=some v->V p=some v\/w.heap.size<=p.block):Sim sz w0 F V' μ ω s a w':=
 ⟨h.tmps,h.defers.ext he,fun t=>(h.env t).mono hV (.refl _) (.refl _),h.mem.grow he hV hok hn⟩
theorem Sim.turn{V0:Vw}{gv:Nat->Value}{df:List Deferred}{l:Nat}{o:Obj}{R:List (Nat × Obj)}(h:Sim sz w0 ⟨V0,gv,df,(l,o) :: R⟩ V μ ω s a w)(o':Obj)(hR:∀ x ∈ R,x.1 ≠ l)(ho':noC o') :
    Sim sz w0 ⟨V0,gv,df,(l,o') :: R⟩ V μ ω s a (w.putObj l o'):=by
 obtain⟨h1,h2,h3⟩:=h.defers.kept (l,o) (by simp)
 have hlt:l<w.heap.size:=(Array.getElem?_eq_some_iff.1 h1).1
 refine⟨h.tmps,⟨?_,fun x hx=>?_⟩,h.env,(h.mem.putOther o' h1 h2 h3).fr rfl⟩
 . obtain⟨ms,e1,e2,e3⟩:=h.defers.marks
   refine⟨ms,e1,e2,fun D hD=>?_⟩
   obtain⟨k1,k2,k3⟩:=e3 D hD
   have hne:l ≠ D:=k3 (l,o) (by simp)
   refine⟨(World.putObj_heap_other (Ne.symm hne)).trans k1,k2,fun x hx=>?_⟩
   rcases List.mem_cons.1 hx with rfl|hx
   . exact hne
   . exact k3 x (List.mem_cons_of_mem _ hx)
 . rcases List.mem_cons.1 hx with rfl|hx
   . exact⟨World.putObj_heap_same hlt,ho',h3⟩
   . obtain⟨k1,k2⟩:=h.defers.kept x (List.mem_cons_of_mem _ hx)
     exact⟨(World.putObj_heap_other (hR x hx)).trans k1,k2⟩
theorem Sim.unkeep{V0:Vw}{gv:Nat->Value}{df:List Deferred}{x:Nat × Obj}{R:List (Nat × Obj)}(h:Sim sz w0 ⟨V0,gv,df,x :: R⟩ V μ ω s a w):Sim sz w0 ⟨V0,gv,df,R⟩ V μ ω s a w:=by
 refine⟨h.tmps,⟨?_,fun y hy=>h.defers.kept y (List.mem_cons_of_mem _ hy)⟩,h.env,h.mem.fr rfl⟩
 obtain⟨ms,e1,e2,e3⟩:=h.defers.marks
 exact⟨ms,e1,e2,fun D hD=>⟨(e3 D hD).1,(e3 D hD).2.1,fun y hy=>(e3 D hD).2.2 y (List.mem_cons_of_mem _ hy)⟩⟩
theorem Sim.putOld{F:Fr}(h:Sim sz w0 F V μ ω s a w){D:Nat}{o:Obj}(o':Obj)(hD:w.heap[D]? = some o)(hn:noC o)(hb:w0.heap.size<=D)(hk:∀ x ∈ F.kp,x.1 ≠ D)(hm:∀ ms:List Nat,a.defers=ms.map mkD++F.df->D ∉ ms) :
    Sim sz w0 F V μ ω s a (w.putObj D o'):=by
 refine⟨h.tmps,⟨?_,fun x hx=>⟨(World.putObj_heap_other (hk x hx)).trans (h.defers.kept x hx).1,(h.defers.kept x hx).2⟩⟩,h.env,h.mem.putOther o' hD hn hb⟩
 obtain⟨ms,e1,e2,e3⟩:=h.defers.marks
 refine⟨ms,e1,e2,fun E hE=>⟨(World.putObj_heap_other (k:=E) (r:=D) fun e=>hm ms e1 (e ▸ hE)).trans (e3 E hE).1,(e3 E hE).2⟩⟩
theorem Mem.base{F F':Fr}(h:Mem sz w0 F V μ ω box row w)(h1:VLe F'.V F.V)(h2:∀ p,p.block<w0.heap.size->F.V p=F'.V p):Mem sz w0 F' V μ ω box row w:=
 ⟨h.below,h.vok,fun p v hp=>h.vle p v (h1 p v hp),fun p hp=>(h.vold p hp).trans (h2 p hp),h.bl,h.hbox,h.rl,h.hrow,h.uniq,h.new,h.vmut⟩
theorem Mem.rebase{F F':Fr}(h:Mem sz w0 F V μ ω box row w)(h1:F'.V=V):Mem sz w0 F' V μ ω box row w:=
 ⟨h.below,h.vok,by rw[h1];exact fun _ _ h=>h,fun p _=>by rw[h1],h.bl,h.hbox,h.rl,h.hrow,h.uniq,h.new,h.vmut⟩
def putPs:List Nat->List D->List (Nat × D)->(List (Nat × D)->Prop)->Prop
 | p :: ps,x :: xs,env,K=>x.force fun x=>putPs ps xs ((p,x) :: env) K
 | [],[],env,K=>K env
 | _,_,_,_=>False
def cutE(n:Nat):List (Nat × D)->(List (Nat × D)->Prop)->Prop
 | [],K=>K []
 | (t,d) :: r,K=>match Nat.blt t n with|true=>cutE n r fun r=>K ((t,d) :: r)|false=>cutE n r K
def inRoundK(ps:List Nat)(x:List D)(s:St)(K:St->Prop):Prop:=
 match s with
 | ⟨env,box,row,n⟩=>shE n env fun env2=>cutE n env fun env1=>catK env1 env2 fun env2=>putPs ps x env2 fun env2=>K ⟨env2,box,row,n⟩
def offRoundK(s:St)(K:St->Prop):Prop:=match s with|⟨env,box,row,n⟩=>unE n env fun env=>K ⟨env,box,row,n⟩
theorem cutE_eq(n:Nat):∀ (env:List (Nat × D)) (K:List (Nat × D)->Prop),cutE n env K->K (env.filter fun x=>x.1<n)
 | [],K,h=>h
 | (t,d) :: r,K,h=>by
  unfold cutE at h
  split at h
  . rename_i hb
    have:=cutE_eq n r _ h
    rw[List.filter_cons_of_pos (by simpa using blt_true hb)]
    exact this
  . rename_i hb
    have:=cutE_eq n r _ h
    rw[List.filter_cons_of_neg (by
     simp only[decide_eq_true_eq]
     intro hlt
     have:Nat.blt t n=true:=by unfold Nat.blt;rw[Nat.ble_eq];exact hlt
     rw[hb] at this
     cases this)]
    exact this
theorem look_filter(env:List (Nat × D))(n t:Nat):look (env.filter fun x=>x.1<n) t=if t<n then look env t else .u:=by
 induction env with
 | nil=>simp[look]
 | cons x r ih=>
  obtain⟨k,d⟩:=x
  by_cases hk:k<n
  . rw[List.filter_cons_of_pos (by simpa using hk)]
    unfold look
    cases hb:Nat.beq k t with
    | true=>
     have:=beq_nat_true hb
     subst this
     rw[if_pos hk]
    | false=>exact ih
  . rw[List.filter_cons_of_neg (by simpa using hk),ih]
    split
    . rename_i ht
      show look r t=(match Nat.beq k t with|true=>d|false=>look r t)
      cases hb:Nat.beq k t with
      | true=>have:=beq_nat_true hb;omega
      | false=>rfl
    . rfl
theorem putPs_sound{F:Fr}{n:Nat}:∀ (ps:List Nat) (x:List D) (env:List (Nat × D)) (a:Act) (vs:List Value) (K:List (Nat × D)->Prop),(∀ p ∈ ps,p<n)->a.tmps.size=n->vs.length=x.length->(∀ (j:Nat) v d,vs[j]? = some v->x[j]? = some d->RS sz V μ ω v d) ->
    (∀ t,RS sz V μ ω (slotV F n a t) (look env t))->putPs ps x env K ->
    ∃ env',K env'/\(List.foldl (fun tmps (x:Nat × Value)=>tmps.setIfInBounds x.1 x.2) a.tmps (ps.zip vs)).size=n/\∀ t,RS sz V μ ω (slotV F n { a with tmps:=List.foldl (fun tmps (x:Nat × Value)=>tmps.setIfInBounds x.1 x.2) a.tmps (ps.zip vs) } t) (look env' t)
 | [],[],env,a,vs,K,_,hn,hl,_,he,h=>by
  obtain rfl:vs=[]:=List.eq_nil_of_length_eq_zero hl
  exact⟨env,h,by simpa using hn,by simpa using he⟩
 | [],_ :: _,_,_,_,_,_,_,_,_,_,h=>h.elim
 | _ :: _,[],_,_,_,_,_,_,_,_,_,h=>h.elim
 | p :: ps,d :: x,env,a,v :: vs,K,hp,hn,hl,hR,he,h=>by
  simp only[putPs,D.force_eq] at h
  exact putPs_sound ps x ((p,d) :: env) (a.put (some p) v) vs K (fun q hq=>hp q (by simp[hq])) (by simpa[Act.put] using hn) (by simpa using hl) (fun j u e h1 h2=>hR (j+1) u e (by simpa using h1) (by simpa using h2))
   (fun t=>look_put hn (hp p (by simp)) (hR 0 v d rfl rfl) he) h
 | _ :: _,_ :: _,_,_,[],_,_,_,hl,_,_,_=>by simp at hl
theorem zip_fold(ps:Array Tmp)(vs:List Value)(A:Array Value):(ps.zip vs.toArray).foldl (fun tmps (t,a)=>tmps.setIfInBounds t a) A=List.foldl (fun tmps (x:Nat × Value)=>tmps.setIfInBounds x.1 x.2) A (ps.toList.zip vs):=by
 obtain⟨ps⟩:=ps
 simp[List.zip_toArray]
theorem look_round{env:List (Nat × D)}{n:Nat}{F F':Fr}{a:Act}(he:∀ t,RS sz V μ ω (slotV F n a t) (look env t))(hF:∀ t,F'.gv t=slotV F n a (t - n))(ds:List Deferred) :
    ∀ t,RS sz V μ ω (slotV F' n { tmps:=a.tmps,defers:=ds } t) (look (env.filter (fun x=>x.1<n)++env.map fun x=>(x.1+n,x.2)) t):=by
 intro t
 by_cases ht:t<n
 . have h1:=he t
   unfold slotV at h1 ⊢
   rw[if_pos ht] at h1 ⊢
   have h2:look (env.filter (fun x=>x.1<n)++env.map fun x=>(x.1+n,x.2)) t=look env t:=by
    by_cases hx:∃ x ∈ env.filter (fun x=>x.1<n),x.1=t
    . rw[look_append_in _ _ _ hx,look_filter,if_pos ht]
    . rw[look_append _ _ _ (fun x hm e=>hx ⟨x,hm,e⟩),look_shift_lt _ _ _ ht]
      have h3:=look_filter env n t
      rw[if_pos ht] at h3
      rw[<- h3]
      have:∀ l:List (Nat × D),(¬ ∃ x ∈ l,x.1=t)->look l t = .u:=by
       intro l
       induction l with
       | nil=>intro _;rfl
       | cons y r ih=>
        intro hno
        unfold look
        cases hb:Nat.beq y.1 t with
        | true=>exact absurd ⟨y,by simp,beq_nat_true hb⟩ hno
        | false=>exact ih fun⟨x,hm,e⟩=>hno ⟨x,by simp[hm],e⟩
      rw[this _ hx]
   rw[h2]
   exact h1
 . unfold slotV
   rw[if_neg ht,hF]
   rw[look_append _ _ _ (fun x hm=>by
    have:=(List.mem_filter.1 hm).2
    simp only[decide_eq_true_eq] at this
    omega)]
   have e2:t=(t - n)+n:=by omega
   rw[e2,look_shift,<- e2]
   exact he (t - n)
end
end Go.Vx
namespace Go.Vx
open Go.RowKit
theorem mkD_inj{l m:List Nat}(h:l.map mkD=m.map mkD):l=m:=by
 induction l generalizing m with
 | nil=>cases m with
  | nil=>rfl
  | cons _ _=>simp at h
 | cons x l ih=>cases m with
  | nil=>simp at h
  | cons y m=>
   simp only[List.map_cons,List.cons.injEq] at h
   obtain⟨h1,h2⟩:=h
   simp only[mkD,Deferred.mk.injEq,Target.collected.injEq,and_true] at h1
   rw[h1,ih h2]
section
variable {P : Program} {T : Tab} {G : FuncId → Prop} {Q : Exit → St → Prop}
def rndQ(P:Program)(G:FuncId->Prop)(Q:Exit->St->Prop)(L:List Nat)(nr nb:Nat)(s1:St)(p:Prop):Exit->St->Prop
 | .normal,s'=>p/\offRoundK s' fun s'=>keepK L nr nb s' (·=s1)
 | .ret,s'=>offRoundK s' (Q .ret)
 | .exit id,s'=>offRoundK s' (Q (.exit id))
 | .panic c,s'=>(∀ fn,G fn->(P.funcs[fn]?).isSome=true)/\offRoundK s' (Q (.panic c))
 | _,_=>False
theorem RS.fn_{sz:TypeId->Nat}{V:Vw}{μ:List Nat}{ω:List Value}{v:Value}{f:FuncId}{cap:List D}(h:RS sz V μ ω v (.fn f [] cap)):∃ us:Array Value,v = .func (.func f) #[] us/\us.size=cap.length/\∀ (j:Nat) v d,us[j]? = some v->cap[j]? = some d->RI sz V v d:=by
 cases h with
 | imm _ _ h=>
  cases h with
  | fn f first cap vs us h1 h2 hR1 hR2=>
   obtain rfl:vs=#[]:=Array.eq_empty_of_size_eq_zero h1
   exact⟨us,rfl,h2,hR2⟩
theorem Sim.offRound{sz:TypeId->Nat}{w0 w:World}{V0 V V':Vw}{gv:Nat->Value}{df:List Deferred}{kp:List (Nat × Obj)}{F:Fr}{μ:List Nat}{ω:List Value}{a a':Act}{n:Nat}{x:Nat × Obj}{msA:List Nat}{s':St}{K:St->Prop}
    (h:Sim sz w0 F V' μ ω s' a w)(hF:F.V=V)(hg:∀ t,F.gv t=slotV ⟨V0,gv,df,kp⟩ n a' (t - n)){E:List (Nat × Obj)}(hk:F.kp=x :: (kp++keptOf msA++E))(hV:VLe V0 V)(hVo:∀ p,p.block<w0.heap.size->V p=V0 p)(hn:a'.tmps.size=n)
    (hd:a'.defers=msA.map mkD++df)(hm1:msA.Nodup)(hm2:∀ D ∈ msA,w0.heap.size<=D/\(∀ y ∈ kp,y.1 ≠ D)/\x.1 ≠ D)(hn2:s'.n=n)(hK:offRoundK s' K) :
    ∃ s2,K s2/\s2.n=n/\Sim sz w0 ⟨V0,gv,df,x :: kp⟩ V' μ ω s2 a' w:=by
 obtain⟨env,box,row,m⟩:=s'
 dsimp only at hn2
 subst hn2
 simp only[offRoundK,unE_eq] at hK
 refine⟨_,hK,rfl,hn,⟨⟨msA,hd,hm1,fun D hD=>⟨?_,(hm2 D hD).1,fun y hy=>?_⟩⟩,fun y hy=>h.defers.kept y ?_⟩,fun t=>?_,h.mem.base (by rw[hF];exact hV) (by rw[hF];exact hVo)⟩
 . exact (h.defers.kept (D,.deferred (some [])) (by rw[hk];exact List.mem_cons_of_mem _ (List.mem_append_left _ (List.mem_append_right _ (List.mem_map.2 ⟨D,hD,rfl⟩))))).1
 . rcases List.mem_cons.1 hy with rfl|hy
   . exact (hm2 D hD).2.2
   . exact (hm2 D hD).2.1 y hy
 . rw[hk]
   rcases List.mem_cons.1 hy with rfl|hy
   . simp
   . exact List.mem_cons_of_mem _ (List.mem_append_left _ (List.mem_append_left _ hy))
 . have:=h.env (t+m)
   unfold slotV at this
   dsimp only at this
   rw[if_neg (by omega),hg] at this
   dsimp only
   rw[look_unEF]
   have e3:t+m - m=t:=by omega
   rw[e3] at this
   exact this
theorem range_sound{s:St}{g:Operand}{ps:Array Tmp}{assign body:Code}{f:FuncId}{cap:List D}{xs:List (List D)}{n:Nat}(L:List Nat)(nr nb:Nat)(mk:Nat->St)(I:Nat->Prop)(hI:I 0)(hs:keepK L nr nb s (·=mk 0))(hg:(mk 0).get g = .fn f [] cap)
    (hY:YSpecI P T f cap xs I)(hmk:∀ k,(mk k).n=n)(hps:∀ p ∈ ps.toList,p<n)
    (round:∀ (k:Nat) x,xs[k]? = some x->I k->x.length=ps.size/\inRoundK ps.toList x (mk k) fun s1=>OkR P T assign (thenQ (fun s2=>OkR P T body (fun e s3=>s3.n=n/\rndQ P G Q L nr nb (mk (k+1)) (I (k+1)) e s3) s2) (fun _ _=>False)) s1)
    (done:I xs.length->Q .normal (mk xs.length)){w0:World}{V0:Fr}{V:Vw}{μ:List Nat}{ω:List Value}{a:Act}{w:World}(hS:Sim (szOf T) w0 V0 V μ ω s a w) :
    wpG P G (.rangeFunc g ps assign body) (fun e a' w'=>∃ s' V' μ' ω',Q e s'/\Sim (szOf T) w0 V0 V' μ' ω' s' a' w') a w:=by
 obtain⟨_,μ,ω,rfl,hS⟩:=keepK_sound hS hs
 clear hs
 obtain⟨V00,gv,df,kp⟩:=V0
 refine wpG_rangeFunc ?_
 intro fn hfn
 obtain⟨rec,hrec⟩:∃ rec:LoopState->Option Code->Loop,rec=fun st pe=>{ state:=st,pending:=pe,fn,tmps:=a.tmps,params:=ps,assign,body,defers:=w.heap.size }:=⟨_,rfl⟩
 obtain⟨W1,hW1⟩:∃ W1,(w.alloc (.deferred (some []))).alloc (.loop (rec .ready none))=W1:=⟨_,rfl⟩
 obtain⟨a',ha'⟩:∃ a':Act,a'={ a with defers:=mkD w.heap.size :: a.defers }:=⟨_,rfl⟩
 obtain⟨l,hl⟩:∃ l,l=w.heap.size+1:=⟨_,rfl⟩
 have hL1:W1.heap[l]? = some (.loop (rec .ready none)):=by
  rw[<- hW1,hl];have:=World.alloc_heap_new (w.alloc (.deferred (some []))) (.loop (rec .ready none));rwa [World.size_alloc] at this
 have hK1:W1.heap[w.heap.size]? = some (.deferred (some [])):=by
  rw[<- hW1];exact (Below.heap_alloc _ _ _ (by simp)).trans (World.alloc_heap_new w _)
 have hx1:Ext w W1:=by
  rw[<- hW1];exact (Ext.alloc w _).trans (Ext.alloc _ _)
 obtain⟨ms0,e1,e2,e3⟩:=hS.defers.marks
 have hsz0:=hS.mem.below.size
 have hkl:∀ x ∈ kp,x.1<w.heap.size:=fun x hx=>(Array.getElem?_eq_some_iff.1 (hS.defers.kept x hx).1).1
 have hml:∀ D ∈ ms0,D<w.heap.size:=fun D hD=>(Array.getElem?_eq_some_iff.1 (e3 D hD).1).1
 obtain⟨msA,hmsA⟩:∃ msA,msA=w.heap.size :: ms0:=⟨_,rfl⟩
 have hda:a'.defers=msA.map mkD++df:=by rw[ha',hmsA];simp[e1]
 have hmn:msA.Nodup:=by rw[hmsA];exact List.nodup_cons.2 ⟨fun h=>by have:=hml _ h;omega,e2⟩
 have hm2:∀ D ∈ msA,w0.heap.size<=D/\(∀ y ∈ kp,y.1 ≠ D)/\l ≠ D:=by
  intro D hD
  rw[hmsA] at hD
  rcases List.mem_cons.1 hD with rfl|hD
  . exact⟨hsz0,fun y hy e=>by have:=hkl y hy;omega,by omega⟩
  . exact⟨(e3 D hD).2.1,(e3 D hD).2.2,by have:=hml D hD;omega⟩
 have hlk:∀ x ∈ kp,x.1 ≠ l:=fun x hx=>by have:=hkl x hx;omega
 have htm:a'.tmps=a.tmps:=by rw[ha']
 have hns:a'.tmps.size=n:=by rw[htm,hS.tmps,hmk]
 have noL:∀ r,noC (.loop r):=fun r _ _ _ e=>by cases e
 have hS1:Sim (szOf T) w0 ⟨V00,gv,df,(l,.loop (rec .ready none)) :: kp⟩ V μ ω (mk 0) a' W1:=by
  have h:=hS.ext hx1
  refine⟨by rw[htm];exact h.tmps,⟨⟨msA,hda,hmn,fun D hD=>⟨?_,(hm2 D hD).1,fun x hx=>?_⟩⟩,fun x hx=>?_⟩,fun t=>?_,h.mem.fr rfl⟩
  . rw[hmsA] at hD
    rcases List.mem_cons.1 hD with rfl|hD
    . exact hK1
    . exact hx1.heap (e3 D hD).1
  . rcases List.mem_cons.1 hx with rfl|hx
    . exact (hm2 D hD).2.2
    . exact (hm2 D hD).2.1 x hx
  . rcases List.mem_cons.1 hx with rfl|hx
    . exact⟨hL1,noL _,by show w0.heap.size<=l;omega⟩
    . exact h.defers.kept x hx
  . have:=h.env t
    unfold slotV at this ⊢
    rw[htm]
    exact this
 obtain⟨us,hev,hus,hri⟩:=(by have:=hS1.get g;rw[hg] at this;exact this.fn_:∃ us:Array Value,a'.eval g = .func (.func f) #[] us/\us.size=cap.length/\∀ (j:Nat) v d,us[j]? = some v->cap[j]? = some d->RI (szOf T) V v d)
 have hev:a.eval g = .func (.func f) #[] us:=by rw[<- hev];cases g<;>simp[Act.eval,htm]
 obtain⟨J,hJ⟩:∃ J:Option Nat->Vw->World->Prop,J=fun k V W=>match k with
  | some k=>I k/\∃ μ ω,Sim (szOf T) w0 ⟨V00,gv,df,(l,.loop (rec .ready none)) :: kp⟩ V μ ω (mk k) a' W
  | none=>∃ c s' μ ω,((c=Code.ret/\Q .ret s')\/∃ id,c=Code.exit id/\Q (.exit id) s')/\Sim (szOf T) w0 ⟨V00,gv,df,(l,.loop (rec .done (some c))) :: kp⟩ V μ ω s' a' W:=⟨_,rfl⟩
 obtain⟨Jp,hJp⟩:∃ Jp:List PanicEntry->World->Prop,Jp=fun c W=>∃ s' V' μ' ω',Q (.panic c) s'/\Sim (szOf T) w0 ⟨V00,gv,df,kp⟩ V' μ' ω' s' a' W:=⟨_,rfl⟩
 have hYl:Yields P T l W1.heap.size xs J Jp:=by
  have hBl:l<W1.heap.size:=(Array.getElem?_eq_some_iff.1 hL1).1
  have hBm:∀ (D:Nat),W1.heap.size<=D->∀ ms:List Nat,a'.defers=ms.map mkD++df->D ∉ ms:=fun D hD ms hm hin=>by
   rw[hda] at hm
   rw[<- mkD_inj (List.append_cancel_right hm),hmsA] at hin
   have hws:=hx1.size
   rcases List.mem_cons.1 hin with rfl|hin
   . omega
   . have:=hml D hin;omega
  have hBk:∀ (D:Nat),W1.heap.size<=D->∀ (r:Loop),∀ x ∈ ((l,Obj.loop r) :: kp),x.1 ≠ D:=fun D hD r x hx e=>by
   have hws:=hx1.size
   rcases List.mem_cons.1 hx with rfl|hx
   . dsimp only at e;omega
   . have:=hkl x hx;omega
  have hB0:∀ (D:Nat),W1.heap.size<=D->w0.heap.size<=D:=fun D hD=>by have:=hx1.size;omega
  refine⟨fun k V W h=>?_,fun k V W h=>?_,fun k V V' W W' h he hV hok hn=>?_,fun k V W D h hD hh=>?_,fun c W D h hD hh=>?_,fun k x V W vs hx h hvl hvr E hE=>?_⟩
  . subst hJ
    cases k with
    | some k=>obtain⟨_,μ,ω,h⟩:=h;exact h.mem.vok
    | none=>obtain⟨c,s',μ,ω,_,h⟩:=h;exact h.mem.vok
  . subst hJ
    have hBs:W1.heap.size=l+1:=by rw[<- hW1,hl];simp
    have key:∀ {r:Loop} {W:World},W.heap[l]? = some (.loop r)->W1.heap.size<=W.heap.size:=fun h=>by have:=(Array.getElem?_eq_some_iff.1 h).1;omega
    cases k with
    | some k=>obtain⟨_,μ,ω,h⟩:=h;exact key (h.defers.kept _ (List.mem_cons_self)).1
    | none=>obtain⟨c,s',μ,ω,_,h⟩:=h;exact key (h.defers.kept _ (List.mem_cons_self)).1
  . subst hJ
    cases k with
    | some k=>obtain⟨hik,μ,ω,h⟩:=h;exact⟨hik,μ,ω,h.grow he hV hok hn⟩
    | none=>obtain⟨c,s',μ,ω,hc,h⟩:=h;exact⟨c,s',μ,ω,hc,h.grow he hV hok hn⟩
  . subst hJ
    cases k with
    | some k=>obtain⟨hik,μ,ω,h⟩:=h;exact⟨hik,μ,ω,h.putOld _ hh (fun _ _ _ e=>by cases e) (hB0 D hD) (hBk D hD _) (hBm D hD)⟩
    | none=>obtain⟨c,s',μ,ω,hc,h⟩:=h;exact⟨c,s',μ,ω,hc,h.putOld _ hh (fun _ _ _ e=>by cases e) (hB0 D hD) (hBk D hD _) (hBm D hD)⟩
  . subst hJp
    obtain⟨s',V',μ',ω',hq,h⟩:=h
    exact⟨s',V',μ',ω',hq,h.putOld _ hh (fun _ _ _ e=>by cases e) (hB0 D hD) (fun x hx=>hBk D hD (rec .ready none) x (List.mem_cons_of_mem _ hx)) (hBm D hD)⟩
  . have h':I k/\∃ μ ω,Sim (szOf T) w0 ⟨V00,gv,df,(l,.loop (rec .ready none)) :: kp⟩ V μ ω (mk k) a' W:=by rw[hJ] at h;exact h
    obtain⟨hik,μ,ω,hS⟩:=h'
    obtain⟨hxl,hround⟩:=round k x hx hik
    have hlW:=(hS.defers.kept (l,.loop (rec .ready none)) (by simp)).1
    have hy:=run_yield (P:=P) (args:=vs.toArray) hlW (by rw[hrec];simp[hvl,hxl])
    rw[hrec] at hy
    rw[zip_fold] at hy
    refine⟨fn,_,assign,body,hy,?_⟩
    clear hy
    have hV0:VLe V00 V:=hS.mem.vle
    have hVo:∀ p,p.block<w0.heap.size->V p=V00 p:=hS.mem.vold
    obtain⟨gv2,hgv2⟩:∃ gv2:Nat->Value,gv2=fun t=>slotV ⟨V00,gv,df,kp⟩ n a' (t - n):=⟨_,rfl⟩
    obtain⟨R2,hR2⟩:∃ R2,R2=kp++keptOf msA++E:=⟨_,rfl⟩
    have hRk:∀ x ∈ R2,x.1 ≠ l:=fun x hx=>by
     rw[hR2] at hx
     rcases List.mem_append.1 hx with hx|hx
     . rcases List.mem_append.1 hx with hx|hx
       . exact hlk x hx
       . obtain⟨D,hD,rfl⟩:=List.mem_map.1 hx;exact fun e=>(hm2 D hD).2.2 e.symm
     . have:=(hE x hx).1
       have:=(Array.getElem?_eq_some_iff.1 hL1).1
       omega
    have hmk':=hmk k
    obtain⟨env,box,row,n',hmkk⟩:∃ env box row n',mk k=⟨env,box,row,n'⟩:=⟨_,_,_,_,rfl⟩
    rw[hmkk] at hround hS hmk'
    dsimp only at hmk'
    subst hmk'
    simp only[inRoundK,shE_eq] at hround
    have hround:=cutE_eq _ _ _ hround
    rw[catK_eq] at hround
    obtain⟨env',hk,hsz',henv'⟩:=putPs_sound (F:=⟨V,gv2,[],(l,.loop (rec .ready none)) :: R2⟩) (μ:=μ) (ω:=ω) ps.toList x _ { tmps:=a.tmps,defers:=[] } vs _ hps (by rw[<- htm];exact hns) hvl (fun j v d h1 h2=>.imm _ _ (hvr j v d h1 h2))
     (by rw[<- htm];exact look_round hS.env (fun t=>by rw[hgv2];rfl) []) hround
    have hmarks:∀ D ∈ msA,W.heap[D]? = some (.deferred (some [])):=by
     obtain⟨ms',f1,f2,f3⟩:=hS.defers.marks
     have f1:a'.defers=ms'.map mkD++df:=f1
     rw[hda] at f1
     have:=mkD_inj (List.append_cancel_right f1)
     rw[this]
     exact fun D hD=>(f3 D hD).1
    have hSr:Sim (szOf T) w0 ⟨V,gv2,[],(l,.loop (rec .ready none)) :: R2⟩ V μ ω ⟨env',box,row,n'⟩ { tmps:=List.foldl (fun tmps (x:Nat × Value)=>tmps.setIfInBounds x.1 x.2) a.tmps (ps.toList.zip vs),defers:=[] } W:=by
     refine⟨hsz',⟨⟨[],rfl,List.nodup_nil,by simp⟩,fun x hx=>?_⟩,henv',hS.mem.rebase rfl⟩
     rcases List.mem_cons.1 hx with rfl|hx
     . exact hS.defers.kept _ (by simp)
     . rw[hR2] at hx
       rcases List.mem_append.1 hx with hx|hx
       . rcases List.mem_append.1 hx with hx|hx
         . exact hS.defers.kept _ (List.mem_cons_of_mem _ hx)
         . obtain⟨D,hD,rfl⟩:=List.mem_map.1 hx
           exact⟨hmarks D hD,(fun _ _ _ e=>by cases e),(hm2 D hD).1⟩
       . have:=hx1.size
         exact⟨(hE x hx).2.1,(hE x hx).2.2,by have:=(hE x hx).1;omega⟩
    have keepE:∀ {r:Loop} {V':Vw} {μ':List Nat} {ω':List Value} {s3:St} {a3:Act} {W3:World},Sim (szOf T) w0 ⟨V,gv2,[],(l,.loop r) :: R2⟩ V' μ' ω' s3 a3 W3->∀ x ∈ E,W3.heap[x.1]? = some x.2:=fun h x hx=>
     (h.defers.kept x (List.mem_cons_of_mem _ (by rw[hR2];exact List.mem_append_right _ hx))).1
    have back:∀ {r:Loop} {V':Vw} {μ':List Nat} {ω':List Value} {s3:St} {a3:Act} {W3:World} {K:St->Prop},Sim (szOf T) w0 ⟨V,gv2,[],(l,.loop r) :: R2⟩ V' μ' ω' s3 a3 W3->s3.n=n'->offRoundK s3 K ->
        ∃ s2,K s2/\s2.n=n'/\Sim (szOf T) w0 ⟨V00,gv,df,(l,.loop r) :: kp⟩ V' μ' ω' s2 a' W3:=fun h hn hK=>
     h.offRound rfl (fun t=>by rw[hgv2]) (by rw[hR2]) hV0 hVo hns hda hmn (fun D hD=>hm2 D hD) hn hK
    refine roundIn_of (wpIn_mono (hk.run l w0 _ V μ ω _ W ⟨_,List.mem_cons_self⟩ hSr) ?_)
    rintro e a1 W1' ⟨s2,V2,μ2,ω2,hq,hS2⟩
    cases e with
    | normal=>
     have hl2:=(hS2.defers.kept (l,.loop (rec .ready none)) (by simp)).1
     have hS3:=hS2.turn (.loop { rec .ready none with state:=.busy }) hRk (noL _)
     refine⟨_,run_beginRound hl2 (by rw[hrec]),wpIn_mono (OkR.run hq l w0 _ V2 μ2 ω2 a1 _ ⟨_,List.mem_cons_self⟩ hS3) ?_⟩
     rintro e a2 W2 ⟨s3,V3,μ3,ω3,⟨hn3,hq3⟩,hS4⟩
     have hl4:=(hS4.defers.kept (l,.loop { rec .ready none with state:=.busy }) (by simp)).1
     cases e with
     | normal=>
      obtain⟨hik1,hq3⟩:=hq3
      have hq3:offRoundK s3 (fun s'=>keepK L nr nb s' (·=mk (k+1))):=hq3
      have hS5:=hS4.turn (.loop (rec .ready none)) hRk (noL _)
      obtain⟨s4,hk4,_,hS6⟩:=back hS5 hn3 hq3
      obtain⟨_,μ5,ω5,rfl,hS7⟩:=keepK_sound hS6 hk4
      refine⟨_,W2.putObj l (.loop (rec .ready none)),by have:=run_endRound (P:=P) none hl4;rw[hrec] at this ⊢;exact this,keepE hS5,.inl ⟨V3,hS4.mem.vle,.inl ⟨rfl,?_⟩⟩⟩
      rw[hJ]
      exact⟨hik1,μ5,ω5,hS7⟩
     | ret=>
      have hq3:offRoundK s3 (Q .ret):=hq3
      have hS5:=hS4.turn (.loop (rec .done (some .ret))) hRk (noL _)
      obtain⟨s4,hk4,_,hS6⟩:=back hS5 hn3 hq3
      refine⟨_,W2.putObj l (.loop (rec .done (some .ret))),by have:=run_endRound (P:=P) (some .ret) hl4;rw[hrec] at this ⊢;exact this,keepE hS5,.inl ⟨V3,hS4.mem.vle,.inr ⟨rfl,?_⟩⟩⟩
      rw[hJ]
      exact⟨_,s4,μ3,ω3,.inl ⟨rfl,hk4⟩,hS6⟩
     | exit id=>
      have hq3:offRoundK s3 (Q (.exit id)):=hq3
      have hS5:=hS4.turn (.loop (rec .done (some (.exit id)))) hRk (noL _)
      obtain⟨s4,hk4,_,hS6⟩:=back hS5 hn3 hq3
      refine⟨_,W2.putObj l (.loop (rec .done (some (.exit id)))),by have:=run_endRound (P:=P) (some (.exit id)) hl4;rw[hrec] at this ⊢;exact this,keepE hS5,.inl ⟨V3,hS4.mem.vle,.inr ⟨rfl,?_⟩⟩⟩
      rw[hJ]
      exact⟨_,s4,μ3,ω3,.inr ⟨id,rfl,hk4⟩,hS6⟩
     | panic c=>
      obtain⟨hval,hq3⟩:=hq3
      obtain⟨fn',hfn'⟩:=Option.isSome_iff_exists.1 (hval fn hfn)
      obtain⟨ms2,f1,f2,f3,hS5⟩:=hS4.shut
      obtain⟨s4,hk4,_,hS6⟩:=back hS5 hn3 hq3
      refine⟨fn',hfn',?_⟩
      rw[f1]
      refine leavesX_marks (by simp) ms2 W2 f2 f3 ⟨rfl,keepE hS5,.inr ⟨c,rfl,?_⟩⟩
      rw[hJp]
      exact⟨s4,V3,μ3,ω3,hk4,hS6.unkeep⟩
     | goto t=>exact hq3.elim
     | outgrown=>exact hq3.elim
    | _=>exact hq.elim
 refine⟨l,[mkD w.heap.size],W1,{ target:=.fn (.func f) us,args:=#[.func (.yield l) #[] #[]] },W1,f,#[.func (.yield l) #[] #[]]++us,W1,?_,?_,?_,?_⟩
 . rw[<- hW1,hrec,hl];exact run_enterLoop_outer _ _ _ _ _
 . simp only[resolve,hev]
   simp[go_sem]
 . simp[invoke,go_sem,hY.call]
 . refine (hY.run V W1 us hus hri l J Jp hYl (fun k V W h=>by rw[hJ] at h;exact h.1) (by rw[hJ];exact⟨hI,μ,ω,hS1⟩)).mono ?_
   have haa:({ a with defers:=[mkD w.heap.size]++a.defers }:Act)=a':=by rw[ha'];rfl
   rw[haa]
   rintro e w' (⟨⟨v,rfl⟩,V',h⟩|⟨c,rfl,h⟩)
   . rw[hJ] at h
     rcases h with⟨hik,μ',ω',hS'⟩|⟨c,s',μ',ω',hc,hS'⟩
     . have hl':=(hS'.defers.kept (l,.loop (rec .ready none)) (by simp)).1
       refine⟨none,_,by have:=run_endLoop (P:=P) hl' (by rw[hrec];simp);rw[hrec] at this;exact this,?_⟩
       exact⟨_,V',μ',ω',done hik,(hS'.turn _ hlk (noL _)).unkeep⟩
     . have hl':=(hS'.defers.kept (l,.loop (rec .done (some c))) (by simp)).1
       refine⟨some c,_,by have:=run_endLoop (P:=P) hl' (by rw[hrec];simp);rw[hrec] at this;exact this,?_⟩
       have hS2:=(hS'.turn (.loop { rec .done (some c) with state:=.exhausted }) hlk (noL _)).unkeep
       rw[hrec] at hS2
       rcases hc with⟨rfl,hq⟩|⟨id,rfl,hq⟩
       . exact wpG_of (wp_ret ⟨_,V',μ',ω',hq,hS2⟩)
       . exact wpG_of (wp_exit ⟨_,V',μ',ω',hq,hS2⟩)
   . rw[hJp] at h
     obtain⟨s',V',μ',ω',hq,hS'⟩:=h
     exact⟨s',V',μ',ω',hq,hS'⟩
end
end Go.Vx
namespace Go.Vx
open Go.RowKit
section
variable {P : Program} {T : Tab} {G : FuncId → Prop} {Q : Exit → St → Prop} {s : St}
structure OkG(P:Program)(T:Tab)(G:FuncId->Prop)(c:Code)(Q:Exit->St->Prop)(s:St):Prop where
 run:∀ (w0:World) (V0:Fr) (V:Vw) (μ:List Nat) (ω:List Value) (a:Act) (w:World),Sim (szOf T) w0 V0 V μ ω s a w ->
  wpG P G c (fun e a' w'=>∃ s' V' μ' ω',Q e s'/\Sim (szOf T) w0 V0 V' μ' ω' s' a' w') a w
theorem OkG.of{c:Code}(h:Ok P T c Q s):OkG P T G c Q s:=⟨fun w0 V0 V μ ω a w hS=>wpG_of (h.run w0 V0 V μ ω a w hS)⟩
theorem OkG.seq{x y:Code}(h:OkG P T G x (thenQ (OkG P T G y Q) Q) s):OkG P T G (.seq x y) Q s:=by
 refine⟨fun w0 V0 V μ ω a w hS=>wpG_seq (wpG_mono (h.run w0 V0 V μ ω a w hS) ?_)⟩
 rintro e a' w' ⟨s',V',μ',ω',hk,hS'⟩
 cases e with
 | normal=>exact OkG.run hk w0 V0 V' μ' ω' a' w' hS'
 | _=>exact⟨s',V',μ',ω',hk,hS'⟩
theorem OkG.block{id:Nat}{c:Code}(h:OkG P T G c (blockQ id Q) s):OkG P T G (.block id c) Q s:=by
 refine⟨fun w0 V0 V μ ω a w hS=>wpG_block (wpG_mono (h.run w0 V0 V μ ω a w hS) ?_)⟩
 rintro e a' w' ⟨s',V',μ',ω',hk,hS'⟩
 cases e with
 | exit id'=>
  simp only[blockQ] at hk
  simp only[Exit.inBlock]
  split at hk
  . rename_i hb
    rw[if_pos (beq_nat_true hb)]
    exact⟨s',V',μ',ω',hk,hS'⟩
  . rename_i hb
    rw[if_neg (by rintro rfl;rw[Nat.beq_refl] at hb;cases hb)]
    exact⟨s',V',μ',ω',hk,hS'⟩
 | _=>exact⟨s',V',μ',ω',hk,hS'⟩
theorem OkG.range{g:Operand}{ps:Array Tmp}{assign body:Code}{f:FuncId}{cap:List D}{xs:List (List D)}{n:Nat}(L:List Nat)(nr nb:Nat)(mk:Nat->St)(I:Nat->Prop)(hI:I 0)(hs:keepK L nr nb s (·=mk 0))(hg:(mk 0).get g = .fn f [] cap)
    (hY:YSpec P T f cap xs)(hmk:∀ k,(mk k).n=n)(hps:∀ p ∈ ps.toList,p<n)
    (round:∀ (k:Nat) x,xs[k]? = some x->I k->x.length=ps.size/\inRoundK ps.toList x (mk k) fun s1=>OkR P T assign (thenQ (fun s2=>OkR P T body (fun e s3=>s3.n=n/\rndQ P G Q L nr nb (mk (k+1)) (I (k+1)) e s3) s2) (fun _ _=>False)) s1)
    (done:I xs.length->Q .normal (mk xs.length)):OkG P T G (.rangeFunc g ps assign body) Q s:=
 ⟨fun _ _ _ _ _ _ _ hS=>range_sound L nr nb mk I hI hs hg (hY.toI I) hmk hps round done hS⟩
def isFn(P:Program)(f:FuncId):Prop:=(P.funcs[f]?).isSome=true
theorem FSpec.of_okG(hT:TOk P T){f:FuncId}{fn:Func}{c:Code}(hf:P.funcs[f]? = some fn)(hb:fn.body=some c)(hcall:∀ args w,(callFunc f args).run P w = .ok (.enter f args) w){ds:List D}{R:D->Rows->Prop}(hn:ds.length<=fn.ntmps)
    (h:OkG P T (isFn P) c (endQ T fn R) ⟨envOf 0 ds,[],[],fn.ntmps⟩):FSpec P T f ds R:=by
 refine⟨hcall,fun V w args hV hl hR=>calls_of_wpG hf hb (G:=isFn P) (by unfold isFn;rw[hf];rfl) ?_⟩
 refine wpG_mono (h.run w ⟨V,fun _=>undef,[],[]⟩ V [] [] _ w (start_sim hn hV hl hR)) ?_
 rintro e a' w' ⟨s',V',μ',ω',hq,hS'⟩
 have fin:retK T fn R s'->LeavesX P fn a'.tmps (fun e w'=>∃ V' ω row v' d,e = .returned v'/\R d row/\RS (szOf T) V' [] ω v' d/\Res (szOf T) V V' ω row w w') a'.defers .returning w':=by
  intro hr
  obtain⟨ms',e1,e2,e3,hS'⟩:=hS'.shut
  rw[e1]
  refine leavesX_marks (by simp) ms' w' e2 e3 ?_
  obtain⟨v,hv,hr⟩:=retK_leaves (P:=P) hT rfl hS' hr
  exact⟨v,hv,hr⟩
 cases e<;>simp only[endQ] at hq
 . exact fin hq
 . exact fin hq
theorem PSpec.of_okG{f:FuncId}{fn:Func}{c:Code}(hf:P.funcs[f]? = some fn)(hb:fn.body=some c)(hcall:∀ args w,(callFunc f args).run P w = .ok (.enter f args) w){ds:List D}{v:Value}(hn:ds.length<=fn.ntmps)
    (h:OkG P T (isFn P) c (panQ v) ⟨envOf 0 ds,[],[],fn.ntmps⟩):PSpec P T f ds v:=by
 refine⟨hcall,fun V w args hV hl hR=>calls_of_wpG hf hb (G:=isFn P) (by unfold isFn;rw[hf];rfl) ?_⟩
 refine wpG_mono (h.run w ⟨V,fun _=>undef,[],[]⟩ V [] [] _ w (start_sim hn hV hl hR)) ?_
 rintro e a' w' ⟨s',V',μ',ω',hq,hS'⟩
 cases e<;>simp only[panQ] at hq
 subst hq
 obtain⟨ms',e1,e2,e3,hS'⟩:=hS'.shut
 show LeavesX _ _ _ _ a'.defers _ _
 rw[e1]
 exact leavesX_marks (by simp) ms' w' e2 e3 ⟨rfl,hS'.mem.below⟩
def pbD1(box:List (List D))(d:D)(K:D->Prop):Prop:=
 match d with
 | .bp i off=>match box[i]? with|some cs=>forceL (cs.drop off) fun cs=>K (.ep cs)|none=>K .u
 | .own ..=>K .u
 | .op ..=>K .u
 | .agg cs=>match immL cs with|true=>K (.agg cs)|false=>K .u
 | .tup _=>K .u
 | .fnh ..=>K .u
 | .osl ..=>K .u
 | d=>d.force K
def pbL(box:List (List D)):List D->(List D->Prop)->Prop
 | [],K=>K []
 | d :: r,K=>pbD1 box d fun d=>pbL box r fun r=>K (d :: r)
def pbD(box:List (List D))(d:D)(K:D->Prop):Prop:=
 match d with
 | .fnh f x y=>pbL box x fun x=>pbL box y fun y=>K (.fn f x y)
 | d=>pbD1 box d K
def pbE(box:List (List D)):List (Nat × D)->(List (Nat × D)->Prop)->Prop
 | [],K=>K []
 | (t,d) :: r,K=>pbD box d fun d=>pbE box r fun r=>K ((t,d) :: r)
def immLL:List (List D)->Bool|[]=>true|c :: r=>immL c && immLL r
theorem immLL_at:∀ {l:List (List D)},immLL l=true->∀ (i:Nat) c,l[i]? = some c->immL c=true
 | [],_,i,c,h=>by simp at h
 | x :: l,hf,i,c,h=>by
  simp only[immLL,Bool.and_eq_true] at hf
  cases i with
  | zero=>simp at h;subst h;exact hf.1
  | succ i=>exact immLL_at hf.2 i c (by simpa using h)
section
variable {sz : TypeId → Nat} {w0 w : World} {V0 : Fr} {V V' : Vw} {μ : List Nat} {ω : List Value} {box : List (List D)} {row : Rows} {a : Act}
theorem RS.fnh_{v:Value}{f:FuncId}{x y:List D}(h:RS sz V μ ω v (.fnh f x y)):∃ vs us:Array Value,v = .func (.func f) vs us/\vs.size=x.length/\us.size=y.length/\(∀ (j:Nat) v d,vs[j]? = some v->x[j]? = some d->RS sz V μ ω v d) /\
    ∀ (j:Nat) v d,us[j]? = some v->y[j]? = some d->RS sz V μ ω v d:=by
 cases h with
 | imm _ _ h=>cases h
 | fnh f x y vs us h1 h2 hR1 hR2=>exact⟨vs,us,rfl,h1,h2,hR1,hR2⟩
theorem pbD1_sound(hM:Mem sz w0 V0 V μ ω box row w)(hi:immLL box=true)(hV:VLe V V')(hp:∀ (i g:Nat) (off:Nat) v,μ[i]? = some g->w.cell? ⟨g,off,none⟩=some v->V' ⟨g,off,none⟩=some v){d:D}{K:D->Prop}(h:pbD1 box d K) :
    ∃ d',K d'/\∀ v,RS sz V μ ω v d->RI sz V' v d':=by
 unfold pbD1 at h
 split at h
 . rename_i i off
   split at h
   . rename_i cs hcs
     rw[forceL_eq] at h
     refine⟨_,h,fun v hv=>?_⟩
     obtain⟨g,hg,rfl⟩:=hv.bp_
     obtain⟨vs,t,hh,hs,ho,hR,_⟩:=hM.hbox i g cs hg hcs
     refine .ep _ _ (fun j=>vs.getD (off+j) undef) (fun j d hd=>?_) fun j d hd=>?_
     . rw[List.getElem?_drop] at hd
       have hlt:off+j<vs.size:=by rw[hs];exact (List.getElem?_eq_some_iff.1 hd).1
       have hvj:vs[off+j]? = some vs[off+j]:=Array.getElem?_eq_getElem hlt
       have hadd:(⟨g,off,none⟩:Addr).add j=⟨g,off+j,none⟩:=by unfold Addr.add;split<;>simp_all
       rw[hadd]
       have hcell:w.cell? ⟨g,off+j,none⟩=some vs[off+j]:=by rw[cell_of_row w g (off+j) vs t (0,0) hh,hvj]
       refine⟨?_,?_⟩
       . rw[hp i g _ _ hg hcell]
         simp[Array.getD,hlt]
       . rw[show vs.getD (off+j) undef=vs[off+j] by simp[Array.getD,hlt]]
         exact ho _ (by simp)
     . rw[List.getElem?_drop] at hd
       have hlt:off+j<vs.size:=by rw[hs];exact (List.getElem?_eq_some_iff.1 hd).1
       rw[show vs.getD (off+j) undef=vs[off+j] by simp[Array.getD,hlt]]
       exact (imm1_ri (hR _ _ d (Array.getElem?_eq_getElem hlt) hd) (immL_at (immLL_at hi i cs hcs) _ d hd)).mono hV
   . exact⟨_,h,fun v _=>.u v⟩
 . exact⟨_,h,fun v _=>.u v⟩
 . exact⟨_,h,fun v _=>.u v⟩
 . split at h
   . rename_i cs hc
     exact⟨_,h,fun v hv=>(immD_ri hv hc).mono hV⟩
   . exact⟨_,h,fun v _=>.u v⟩
 . exact⟨_,h,fun v _=>.u v⟩
 . exact⟨_,h,fun v _=>.u v⟩
 . exact⟨_,h,fun v _=>.u v⟩
 . rename_i h1 h2 h3 h4 h5 h6 h7
   rw[D.force_eq] at h
   refine⟨d,h,fun v hv=>(imm1_ri hv ?_).mono hV⟩
   cases d<;>first|rfl|(exfalso;first|exact h1 _ _ rfl|exact h2 _ _ rfl|exact h3 _ _ _ _ rfl|exact h4 _ rfl|exact h5 _ rfl|exact h6 _ _ _ rfl|exact h7 _ _ _ _ rfl)
theorem pbL_sound(hM:Mem sz w0 V0 V μ ω box row w)(hi:immLL box=true)(hV:VLe V V')(hp:∀ (i g:Nat) (off:Nat) v,μ[i]? = some g->w.cell? ⟨g,off,none⟩=some v->V' ⟨g,off,none⟩=some v):∀ {l:List D} {K:List D->Prop},pbL box l K ->
    ∃ l',K l'/\l'.length=l.length/\∀ (j:Nat) d d' v,l[j]? = some d->l'[j]? = some d'->RS sz V μ ω v d->RI sz V' v d'
 | [],K,h=>⟨[],h,rfl,fun j d d' v h1=>by simp at h1⟩
 | d :: l,K,h=>by
  simp only[pbL] at h
  obtain⟨d',h,hd⟩:=pbD1_sound hM hi hV hp h
  obtain⟨l',h,hl,hr⟩:=pbL_sound hM hi hV hp h
  refine⟨d' :: l',h,by simp[hl],fun j e e' v h1 h2 hv=>?_⟩
  cases j with
  | zero=>simp at h1 h2;subst h1 h2;exact hd v hv
  | succ j=>exact hr j e e' v (by simpa using h1) (by simpa using h2) hv
theorem pbD_sound(hM:Mem sz w0 V0 V μ ω box row w)(hi:immLL box=true)(hV:VLe V V')(hp:∀ (i g:Nat) (off:Nat) v,μ[i]? = some g->w.cell? ⟨g,off,none⟩=some v->V' ⟨g,off,none⟩=some v){d:D}{K:D->Prop}(h:pbD box d K) :
    ∃ d',K d'/\∀ v,RS sz V μ ω v d->RI sz V' v d':=by
 unfold pbD at h
 split at h
 . obtain⟨x',h,hx,hxr⟩:=pbL_sound hM hi hV hp h
   obtain⟨y',h,hy,hyr⟩:=pbL_sound hM hi hV hp h
   refine⟨_,h,fun v hv=>?_⟩
   obtain⟨vs,us,rfl,h1,h2,hR1,hR2⟩:=hv.fnh_
   refine .fn _ _ _ vs us (by rw[h1,hx]) (by rw[h2,hy]) (fun j v d' a b=>?_) fun j v d' a b=>?_
   . obtain⟨hlt,_⟩:=Array.getElem?_eq_some_iff.1 a
     have:=List.getElem?_eq_getElem (show j<_ by rw[<- h1];exact hlt)
     exact hxr j _ d' v this b (hR1 j v _ a this)
   . obtain⟨hlt,_⟩:=Array.getElem?_eq_some_iff.1 a
     have:=List.getElem?_eq_getElem (show j<_ by rw[<- h2];exact hlt)
     exact hyr j _ d' v this b (hR2 j v _ a this)
 . exact pbD1_sound hM hi hV hp h
theorem pbE_sound{n:Nat}(hM:Mem sz w0 V0 V μ ω box row w)(hi:immLL box=true)(hV:VLe V V')(hp:∀ (i g:Nat) (off:Nat) v,μ[i]? = some g->w.cell? ⟨g,off,none⟩=some v->V' ⟨g,off,none⟩=some v):∀ {env:List (Nat × D)} {K:List (Nat × D)->Prop},pbE box env K ->
    ∃ env',K env'/\∀ t v,RS sz V μ ω v (look env t)->RI sz V' v (look env' t)
 | [],K,h=>⟨[],h,fun t v _=>.u v⟩
 | (k,d) :: env,K,h=>by
  simp only[pbE] at h
  obtain⟨d',h,hd⟩:=pbD_sound hM hi hV hp h
  obtain⟨env',h,he⟩:=pbE_sound (n:=n) hM hi hV hp h
  refine⟨(k,d') :: env',h,fun t v hv=>?_⟩
  unfold look at hv ⊢
  cases hb:Nat.beq k t with
  | true=>rw[hb] at hv;exact hd v hv
  | false=>rw[hb] at hv;exact he t v hv
theorem Ok.pubB{c:Code}{env:List (Nat × D)}{box:List (List D)}{row:Rows}{n:Nat}(hi:immLL box=true)(h:pbE box env fun env'=>Ok P T c Q ⟨env',[],[],n⟩):Ok P T c Q ⟨env,box,row,n⟩:=by
 refine⟨fun w0 V0 V μ ω a w hS=>?_⟩
 have hM:=hS.mem
 dsimp only at hM
 classical
 obtain⟨V',hV'⟩:∃ V':Vw,V'=(fun p=>if ∃ i:Nat,μ[i]? = some p.block then w.cell? p else V p:Vw):=⟨(fun p=>if ∃ i:Nat,μ[i]? = some p.block then w.cell? p else V p:Vw),rfl⟩
 have hle:VLe V V':=fun p v hp=>by
  rw[hV']
  dsimp only
  split
  . exact hM.vok.2 p v hp
  . exact hp
 have hok:VOk V' w:=⟨⟨fun p v hp=>hle p v (hM.vok.1.1 p v hp),hM.vok.1.2⟩,fun p v hp=>by
  rw[hV'] at hp
  dsimp only at hp
  split at hp
  . exact hp
  . exact hM.vok.2 p v hp⟩
 obtain⟨env',hk,he⟩:=pbE_sound (n:=n) hM hi hle (fun i g off v h1 h2=>by rw[hV'];dsimp only;rw[if_pos ⟨i,h1⟩];exact h2) h
 refine hk.run w0 V0 V' [] [] a w ⟨hS.tmps,hS.defers,fun t=>.imm _ _ (he t _ (hS.env t)),?_⟩
 refine⟨hM.below,hok,fun p v hp=>hle p v (hM.vle p v hp),fun p hp=>?_,rfl,by simp,rfl,by simp,fun l l' g h1=>?_,fun l g h1=>?_,fun p u l _ h1=>?_⟩
 . rw[<- hM.vold p hp,hV']
   dsimp only
   rw[if_neg]
   rintro⟨i,hi⟩
   have:=(hM.new (.inl i) p.block hi).1
   omega
 all_goals
  cases l with
  | inl i=>simp[Own] at h1
  | inr r=>obtain⟨v,x,h1,_⟩:=h1;simp at h1
end
end
end Go.Vx
namespace Go.Vx
open Go.RowKit
section
variable {P : Program} {T : Tab}
structure PureS(sz:TypeId->Nat)(B:Nat)(V:Vw)(env:List (Nat × D))(n:Nat)(a:Act)(w:World):Prop where
 tmps:a.tmps.size=n
 marks:∃ ms:List Nat,a.defers=ms.map mkD/\ms.Nodup/\∀ D ∈ ms,B<=D/\w.heap[D]? = some (.deferred (some []))
 size:B<=w.heap.size
 vok:VOk V w
 env:∀ t,RS sz V [] [] (slotV ⟨V,fun _=>undef,[],[]⟩ n a t) (look env t)
theorem PureS.sim{B:Nat}{V:Vw}{env:List (Nat × D)}{n:Nat}{a:Act}{w:World}(h:PureS (szOf T) B V env n a w):Sim (szOf T) w ⟨V,fun _=>undef,a.defers,[]⟩ V [] [] ⟨env,[],[],n⟩ a w:=
 ⟨h.tmps,.start,h.env,(Mem.start h.vok).fr rfl⟩
def purE:List (Nat × D)->(List (Nat × D)->Prop)->Prop
 | [],K=>K []
 | (t,d) :: r,K=>match immD d with|true=>d.force fun d=>purE r fun r=>K ((t,d) :: r)|false=>purE r fun r=>K ((t,.u) :: r)
def purK(n:Nat)(s:St)(K:List (Nat × D)->Prop):Prop:=match s with|⟨env,_,_,m⟩=>eqN m n <| purE env K
theorem purE_sound{sz:TypeId->Nat}{V:Vw}{μ:List Nat}{ω:List Value}:∀ {env:List (Nat × D)} {K:List (Nat × D)->Prop},purE env K->∃ env',K env'/\∀ t v,RS sz V μ ω v (look env t)->RI sz V v (look env' t)
 | [],K,h=>⟨[],h,fun t v _=>.u v⟩
 | (k,d) :: env,K,h=>by
  simp only[purE] at h
  split at h
  . rename_i hd
    rw[D.force_eq] at h
    obtain⟨env',h,he⟩:=purE_sound (sz:=sz) (V:=V) (μ:=μ) (ω:=ω) h
    refine⟨_,h,fun t v hv=>?_⟩
    unfold look at hv ⊢
    cases hb:Nat.beq k t with
    | true=>rw[hb] at hv;exact immD_ri hv hd
    | false=>rw[hb] at hv;exact he t v hv
  . obtain⟨env',h,he⟩:=purE_sound (sz:=sz) (V:=V) (μ:=μ) (ω:=ω) h
    refine⟨_,h,fun t v hv=>?_⟩
    unfold look at hv ⊢
    cases hb:Nat.beq k t with
    | true=>exact .u v
    | false=>rw[hb] at hv;exact he t v hv
theorem PureS.after{B:Nat}{V V':Vw}{env:List (Nat × D)}{n:Nat}{a a':Act}{w w':World}{μ':List Nat}{ω':List Value}{s':St}{K:List (Nat × D)->Prop}(h:PureS (szOf T) B V env n a w)
    (hS:Sim (szOf T) w ⟨V,fun _=>undef,a.defers,[]⟩ V' μ' ω' s' a' w')(hK:purK n s' K):∃ env',K env'/\PureS (szOf T) B V' env' n a' w':=by
 obtain⟨env2,box,row,m⟩:=s'
 obtain⟨hmn,hK2⟩:=eqN_iff hK
 subst hmn
 obtain⟨env',hk,he⟩:=purE_sound (sz:=szOf T) (V:=V') (μ:=μ') (ω:=ω') hK2
 obtain⟨ms,e1,e2,e3⟩:=h.marks
 obtain⟨ms',f1,f2,f3⟩:=hS.defers.marks
 have hsz:=h.size
 refine⟨env',hk,hS.tmps,⟨ms'++ms,?_,?_,fun D hD=>?_⟩,by have:=hS.mem.below.size;omega,hS.mem.vok,fun t=>.imm _ _ (he t _ (hS.env t))⟩
 . rw[f1,List.map_append]
   show ms'.map mkD++a.defers=_
   rw[e1]
 . refine List.nodup_append.2 ⟨f2,e2,fun x hx y hy e=>?_⟩
   have h1:=(f3 x hx).2.1
   have h2:=(Array.getElem?_eq_some_iff.1 (e3 y hy).2).1
   omega
 . rcases List.mem_append.1 hD with hD|hD
   . exact⟨by have:=(f3 D hD).2.1;omega,(f3 D hD).1⟩
   . exact⟨(e3 D hD).1,by rw[hS.mem.below.block D (Array.getElem?_eq_some_iff.1 (e3 D hD).2).1];exact (e3 D hD).2⟩
theorem fresh_of{F:Fr}{V V':Vw}{μ:List Nat}{ω:List Value}{box:List (List D)}{row:Rows}{w w':World}{sz:TypeId->Nat}(h:Mem sz w F V' μ ω box row w')(hF:F.V=V):∀ p v,V' p=some v->V p=some v\/w.heap.size<=p.block:=by
 intro p v hp
 by_cases hb:p.block<w.heap.size
 . left
   rw[<- hF,<- h.vold p hb]
   exact hp
 . right;omega
def yPost(P:Program)(T:Tab)(B:Nat)(J:Option Nat->Vw->World->Prop)(Jp:List PanicEntry->World->Prop)(n:Nat)(Q:Exit->Option Nat->List (Nat × D)->Prop)(e:Exit)(a':Act)(w':World):Prop:=
 (∃ g' env' V',Q e g' env'/\J g' V' w'/\PureS (szOf T) B V' env' n a' w') \/
  ∃ ch,e = .panic ch/\Jp ch w'/\∃ ms:List Nat,a'.defers=ms.map mkD/\ms.Nodup/\∀ D ∈ ms,B<=D/\w'.heap[D]? = some (.deferred (some []))
structure OkY(P:Program)(T:Tab)(l:Nat)(xs:List (List D))(n:Nat)(c:Code)(Q:Exit->Option Nat->List (Nat × D)->Prop)(g:Option Nat)(env:List (Nat × D)):Prop where
 run:∀ (B:Nat) J Jp,Yields P T l B xs J Jp->∀ (V:Vw) (a:Act) (w:World),J g V w->PureS (szOf T) B V env n a w->c.wp P (yPost P T B J Jp n Q) a w
variable {l : Nat} {xs : List (List D)} {n : Nat} {Q : Exit → Option Nat → List (Nat × D) → Prop} {g : Option Nat} {env : List (Nat × D)}
theorem OkY.piece{c:Code}(h:Ok P T c (fun e s'=>purK n s' fun env'=>Q e g env') ⟨env,[],[],n⟩):OkY P T l xs n c Q g env:=by
 refine⟨fun B J Jp hY V a w hJ hp=>wp_mono (h.run w _ V [] [] a w hp.sim) ?_⟩
 rintro e a' w' ⟨s',V',μ',ω',hq,hS⟩
 obtain⟨env',hk,hp'⟩:=hp.after hS hq
 exact .inl ⟨g,env',V',hk,hY.grow g V V' w w' hJ hS.mem.below hS.mem.vle hS.mem.vok (fresh_of hS.mem rfl),hp'⟩
theorem OkY.mono{c:Code}{Q':Exit->Option Nat->List (Nat × D)->Prop}(h:OkY P T l xs n c Q g env)(hq:∀ e g env,Q e g env->Q' e g env):OkY P T l xs n c Q' g env:=by
 refine⟨fun B J Jp hY V a w hJ hp=>wp_mono (h.run B J Jp hY V a w hJ hp) ?_⟩
 rintro e a' w' (⟨g',env',V',hk,h1,h2⟩|h)
 . exact .inl ⟨g',env',V',hq _ _ _ hk,h1,h2⟩
 . exact .inr h
def thenY(N:Option Nat->List (Nat × D)->Prop)(Q:Exit->Option Nat->List (Nat × D)->Prop):Exit->Option Nat->List (Nat × D)->Prop
 | .normal,g,env=>N g env
 | e,g,env=>Q e g env
theorem OkY.seq{x y:Code}(h:OkY P T l xs n x (thenY (OkY P T l xs n y Q) Q) g env):OkY P T l xs n (.seq x y) Q g env:=by
 refine⟨fun B J Jp hY V a w hJ hp=>wp_seq (wp_mono (h.run B J Jp hY V a w hJ hp) ?_)⟩
 rintro e a' w' (⟨g',env',V',hk,h1,h2⟩|⟨ch,rfl,h⟩)
 . cases e with
   | normal=>exact OkY.run hk B J Jp hY V' a' w' h1 h2
   | _=>exact .inl ⟨g',env',V',hk,h1,h2⟩
 . exact .inr ⟨ch,rfl,h⟩
theorem OkY.skip(h:Q .normal g env):OkY P T l xs n .skip Q g env:=⟨fun _ _ _ _ V _ _ hJ hp=>wp_skip (.inl ⟨g,env,V,h,hJ,hp⟩)⟩
theorem OkY.ret(h:Q .ret g env):OkY P T l xs n .ret Q g env:=⟨fun _ _ _ _ V _ _ hJ hp=>wp_ret (.inl ⟨g,env,V,h,hJ,hp⟩)⟩
theorem OkY.exit{id:Nat}(h:Q (.exit id) g env):OkY P T l xs n (.exit id) Q g env:=⟨fun _ _ _ _ V _ _ hJ hp=>wp_exit (.inl ⟨g,env,V,h,hJ,hp⟩)⟩
def blockY(id:Nat)(Q:Exit->Option Nat->List (Nat × D)->Prop):Exit->Option Nat->List (Nat × D)->Prop
 | .exit id',g,env=>match Nat.beq id' id with|true=>Q .normal g env|false=>Q (.exit id') g env
 | e,g,env=>Q e g env
theorem OkY.block{id:Nat}{c:Code}(h:OkY P T l xs n c (blockY id Q) g env):OkY P T l xs n (.block id c) Q g env:=by
 refine⟨fun B J Jp hY V a w hJ hp=>wp_block (wp_mono (h.run B J Jp hY V a w hJ hp) ?_)⟩
 rintro e a' w' (⟨g',env',V',hk,h1,h2⟩|⟨ch,rfl,h⟩)
 . cases e with
   | exit id'=>
    simp only[blockY] at hk
    simp only[Exit.inBlock]
    split at hk
    . rename_i hb
      rw[if_pos (beq_nat_true hb)]
      exact .inl ⟨g',env',V',hk,h1,h2⟩
    . rename_i hb
      rw[if_neg (by rintro rfl;rw[Nat.beq_refl] at hb;cases hb)]
      exact .inl ⟨g',env',V',hk,h1,h2⟩
   | _=>exact .inl ⟨g',env',V',hk,h1,h2⟩
 . exact .inr ⟨ch,rfl,h⟩
def condY(env:List (Nat × D))(n:Nat)(c:Operand)(X Y:List (Nat × D)->Prop):Prop:=
 condK ⟨env,[],[],n⟩ c (fun s=>X s.env) (fun s=>Y s.env)
theorem PureS.know{B:Nat}{V:Vw}{a:Act}{w:World}(hp:PureS (szOf T) B V env n a w)(c:Operand){d:D}(hd:RS (szOf T) V [] [] (a.eval c) d):PureS (szOf T) B V ((⟨env,[],[],n⟩:St).know c d).env n a w:=by
 have h:=hp.sim.know c hd
 have hn:((⟨env,[],[],n⟩:St).know c d).n=n:=by
  unfold St.know
  split
  . split<;>rfl
  . rfl
 refine⟨hp.tmps,hp.marks,hp.size,hp.vok,fun t=>?_⟩
 have:=h.env t
 rw[hn] at this
 exact this
theorem OkY.cond{c:Operand}{x y:Code}(h:condY env n c (OkY P T l xs n x Q g) (OkY P T l xs n y Q g)):OkY P T l xs n (.cond c x y) Q g env:=by
 refine⟨fun B J Jp hY V a w hJ hp=>?_⟩
 have hc:=hp.sim.get c
 unfold condY condK at h
 split at h
 . rename_i hd;rw[hd] at hc;exact wp_cond_true hc.tt_ (h.run B J Jp hY V a w hJ hp)
 . rename_i hd;rw[hd] at hc;exact wp_cond_false hc.ff_ (h.run B J Jp hY V a w hJ hp)
 . rename_i p hd
   rw[hd] at hc
   obtain⟨b,hb,hbp⟩:=hc.bool
   cases b with
   | true=>exact wp_cond_true hb ((h.1 (hbp.1 rfl)).run B J Jp hY V a w hJ (hp.know c (by rw[hb];exact .imm _ _ .tt)))
   | false=>exact wp_cond_false hb ((h.2 (fun hp=>by simpa using hbp.2 hp)).run B J Jp hY V a w hJ (hp.know c (by rw[hb];exact .imm _ _ .ff)))
 . exact h.elim
def selE(env:List (Nat × D)):List Nat->(List (Nat × D)->Prop)->Prop
 | [],K=>K []
 | t :: L,K=>(look env t).force fun d=>selE env L fun r=>K ((t,d) :: r)
theorem selE_sound{sz:TypeId->Nat}{V:Vw}{env:List (Nat × D)}:∀ {L:List Nat} {K:List (Nat × D)->Prop},selE env L K->∃ env',K env'/\∀ t v,RS sz V [] [] v (look env t)->RS sz V [] [] v (look env' t)
 | [],K,h=>⟨[],h,fun t v _=>.imm _ _ (.u v)⟩
 | x :: L,K,h=>by
  simp only[selE,D.force_eq] at h
  obtain⟨env',h,he⟩:=selE_sound (sz:=sz) (V:=V) h
  refine⟨_,h,fun t v hv=>?_⟩
  show RS sz V [] [] v (match Nat.beq x t with|true=>look env x|false=>look env' t)
  cases hb:Nat.beq x t with
  | true=>rw[<- beq_nat_true hb] at hv;exact hv
  | false=>exact he t v hv
theorem OkY.keep{c:Code}(L:List Nat)(h:selE env L fun env=>OkY P T l xs n c Q g env):OkY P T l xs n c Q g env:=by
 refine⟨fun B J Jp hY V a w hJ hp=>?_⟩
 obtain⟨env',hk,he⟩:=selE_sound (sz:=szOf T) (V:=V) h
 exact hk.run B J Jp hY V a w hJ ⟨hp.tmps,hp.marks,hp.size,hp.vok,fun t=>he t _ (hp.env t)⟩
theorem OkY.loopK{c:Code}{ι:Type}(L:List Nat)(mk:ι->List (Nat × D))(gk:ι->Option Nat)(I:ι->Prop)(m:ι->Nat)(x0:ι)(h0:I x0)(hg:g=gk x0)(hs:selE env L (·=mk x0))
    (round:∀ x,I x->OkY P T l xs n c (thenY (fun g' env'=>∃ x',m x' < m x/\I x'/\g'=gk x'/\selE env' L (·=mk x')) Q) (gk x) (mk x)):OkY P T l xs n (.loop c) Q g env:=by
 refine⟨fun B J Jp hY V a w hJ hp=>?_⟩
 obtain⟨env',hk,he⟩:=selE_sound (sz:=szOf T) (V:=V) hs
 subst hg
 refine wp_loop_at (fun k a w=>∃ x V,m x=k/\I x/\J (gk x) V w/\PureS (szOf T) B V (mk x) n a w) ?_ ⟨x0,V,rfl,h0,hJ,by rw[<- hk];exact⟨hp.tmps,hp.marks,hp.size,hp.vok,fun t=>he t _ (hp.env t)⟩⟩
 rintro k a w ⟨x,V,rfl,hI,hJ,hp⟩
 refine wp_mono ((round x hI).run B J Jp hY V a w hJ hp) ?_
 rintro e a' w' (⟨g',env',V',hk,h1,h2⟩|⟨ch,rfl,h⟩)
 . cases e with
   | normal=>
    obtain⟨x',hlt,hI',rfl,hs'⟩:=hk
    obtain⟨env2,hk2,he2⟩:=selE_sound (sz:=szOf T) (V:=V') hs'
    exact⟨m x',hlt,x',V',rfl,hI',h1,by rw[<- hk2];exact⟨h2.tmps,h2.marks,h2.size,h2.vok,fun t=>he2 t _ (h2.env t)⟩⟩
   | _=>exact .inl ⟨g',env',V',hk,h1,h2⟩
 . exact .inr ⟨ch,rfl,h⟩
theorem OkY.loop{c:Code}{ι:Type}(I:ι->Option Nat->List (Nat × D)->Prop)(m:ι->Nat)(x0:ι)(h0:I x0 g env)
    (round:∀ x g env,I x g env->OkY P T l xs n c (thenY (fun g' env'=>∃ x',m x' < m x/\I x' g' env') Q) g env):OkY P T l xs n (.loop c) Q g env:=by
 refine⟨fun B J Jp hY V a w hJ hp=>?_⟩
 refine wp_loop_at (fun k a w=>∃ x g env V,m x=k/\I x g env/\J g V w/\PureS (szOf T) B V env n a w) ?_ ⟨x0,g,env,V,rfl,h0,hJ,hp⟩
 rintro k a w ⟨x,g,env,V,rfl,hI,hJ,hp⟩
 refine wp_mono ((round x g env hI).run B J Jp hY V a w hJ hp) ?_
 rintro e a' w' (⟨g',env',V',hk,h1,h2⟩|⟨ch,rfl,h⟩)
 . cases e with
   | normal=>
    obtain⟨x',hlt,hI'⟩:=hk
    exact⟨m x',hlt,x',g',env',V',rfl,hI',h1,h2⟩
   | _=>exact .inl ⟨g',env',V',hk,h1,h2⟩
 . exact .inr ⟨ch,rfl,h⟩
def yCallK(P:Program)(T:Tab)(l n:Nat)(ops r:List Oper)(x:List D)(Q:Exit->Option Nat->List (Nat × D)->Prop)(k:Nat)(o:Oper)(s:St):Prop:=
 match o.guard with
 | some _=>False
 | none=>match o.op with
  | .call { callee:=.value (.tmp t),args,argTypes:=_ }=>s.get (.tmp t) = .yld l/\s.gets args.toList=x/\imms x=true/\purK n s fun env'=>
      (putK ⟨env',[],[],n⟩ o.dst .tt fun s=>vops P T ops r s fun s'=>purK n s' (Q .normal (some (k+1))))/\(putK ⟨env',[],[],n⟩ o.dst .ff fun s=>vops P T ops r s fun s'=>purK n s' (Q .normal none))
  | _=>False
theorem RS.yld_{sz:TypeId->Nat}{V:Vw}{μ:List Nat}{ω:List Value}{v:Value}{l:Nat}(h:RS sz V μ ω v (.yld l)):v = .func (.yield l) #[] #[]:=by
 cases h with|imm _ _ h=>cases h;rfl
structure OkZ(P:Program)(T:Tab)(l:Nat)(xs:List (List D))(n:Nat)(c:Code)(Q:Exit->Option Nat->List (Nat × D)->Prop)(g:Option Nat)(s:St):Prop where
 run:∀ (B:Nat) J Jp,Yields P T l B xs J Jp->∀ (V:Vw) (a0:Act) (w0:World) (env:List (Nat × D)),J g V w0->PureS (szOf T) B V env n a0 w0 ->
  ∀ (V':Vw) (μ:List Nat) (ω:List Value) (a:Act) (w:World),Sim (szOf T) w0 ⟨V,fun _=>undef,a0.defers,[]⟩ V' μ ω s a w->c.wp P (yPost P T B J Jp n Q) a w
theorem OkY.ofZ{c:Code}(h:OkZ P T l xs n c Q g ⟨env,[],[],n⟩):OkY P T l xs n c Q g env:=
 ⟨fun B J Jp hY V a w hJ hp=>h.run B J Jp hY V a w env hJ hp V [] [] a w hp.sim⟩
theorem OkZ.seq{x y:Code}{s:St}(h:Ok P T x (thenQ (OkZ P T l xs n y Q g) (fun e s'=>purK n s' fun env'=>Q e g env')) s):OkZ P T l xs n (.seq x y) Q g s:=by
 refine⟨fun B J Jp hY V a0 w0 env hJ hp V' μ ω a w hS=>wp_seq (wp_mono (h.run w0 _ V' μ ω a w hS) ?_)⟩
 rintro e a' w' ⟨s',V2,μ',ω',hq,hS2⟩
 have pur:∀ e,purK n s' (fun env'=>Q e g env')->yPost P T B J Jp n Q e a' w':=fun e hq=>by
  obtain⟨env',hk,hp'⟩:=hp.after hS2 hq
  exact .inl ⟨g,env',V2,hk,hY.grow g V V2 w0 w' hJ hS2.mem.below hS2.mem.vle hS2.mem.vok (fresh_of hS2.mem rfl),hp'⟩
 cases e with
 | normal=>exact OkZ.run hq B J Jp hY V a0 w0 env hJ hp V2 μ' ω' a' w' hS2
 | _=>exact pur _ hq
theorem OkZ.seqY{x y:Code}{s:St}(h:OkZ P T l xs n x (thenY (OkY P T l xs n y Q) Q) g s):OkZ P T l xs n (.seq x y) Q g s:=by
 refine⟨fun B J Jp hY V a0 w0 env hJ hp V' μ ω a w hS=>wp_seq (wp_mono (h.run B J Jp hY V a0 w0 env hJ hp V' μ ω a w hS) ?_)⟩
 rintro e a' w' (⟨g',env',V',hk,h1,h2⟩|⟨ch,rfl,h⟩)
 . cases e with
   | normal=>exact OkY.run hk B J Jp hY V' a' w' h1 h2
   | _=>exact .inl ⟨g',env',V',hk,h1,h2⟩
 . exact .inr ⟨ch,rfl,h⟩
theorem OkZ.ofY{c:Code}{s:St}(h:purK n s fun env'=>OkY P T l xs n c Q g env'):OkZ P T l xs n c Q g s:=by
 refine⟨fun B J Jp hY V a0 w0 env hJ hp V' μ ω a w hS=>?_⟩
 obtain⟨env',hk,hp'⟩:=hp.after hS h
 exact hk.run B J Jp hY V' a w (hY.grow g V V' w0 w hJ hS.mem.below hS.mem.vle hS.mem.vok (fresh_of hS.mem rfl)) hp'
theorem OkZ.yreg(hT:TOk P T){s0:St}{id:Nat}{ops:List Oper}(j k:Nat)(x:List D)(hx:xs[k]? = some x)(h:vopsCut P T ops j ops s0 (yCallK P T l n ops (ops.drop (j+1)) x Q k)) :
    OkZ P T l xs n (.region id ops.toArray false) Q (some k) s0:=by
 refine⟨fun B J Jp hY V a0 w0 env hJ hp V' μ ω a w hS0=>(wpIn_wide (n:=0)).1 ?_⟩
 show Code.wpIn (fen none) 0 P _ _ a w
 refine wpIn_region_lit (vopsCutIn_sound hT j ops _ V' μ ω a w _ hS0 h ?_)
 intro o r s V1 μ1 ω1 a1 w1 hr hk hS1
 have hr2:ops.drop (j+1)=r:=by rw[<- List.drop_drop,hr];rfl
 rw[hr2] at hk
 obtain⟨dst,op,type,pos,after,guard⟩:=o
 unfold yCallK at hk
 split at hk
 . exact hk.elim
 rename_i hg
 dsimp only at hg
 subst hg
 split at hk
 case h_2=>exact hk.elim
 rename_i t args ats hop
 dsimp only at hop
 subst hop
 obtain⟨hyl,hgs,him,hk⟩:=hk
 have hev:a1.eval (.tmp t) = .func (.yield l) #[] #[]:=by have:=hS1.get (.tmp t);rw[hyl] at this;exact this.yld_
 obtain⟨env',⟨hk1,hk2⟩,hp1⟩:=hp.after hS1 hk
 have hJ1:=hY.grow _ _ _ _ _ hJ hS1.mem.below hS1.mem.vle hS1.mem.vok (fresh_of hS1.mem rfl)
 obtain⟨ms,e1,e2,e3⟩:=hp1.marks
 have hvals:=hS1.gets args.toList
 rw[hgs] at hvals
 obtain⟨fn,tmps,assign,body,hyi,hround⟩:=hY.round k x V1 w1 (args.toList.map a1.eval) hx hJ1 hvals.1 (fun i v d h1 h2=>immD_ri (hvals.2 i v d h1 h2) (imms_at him i d h2)) (keptOf ms) (fun y hy=>by
  obtain⟨D,hD,rfl⟩:=List.mem_map.1 hy
  exact⟨(e3 D hD).1,(e3 D hD).2,fun _ _ _ e=>by cases e⟩)
 unfold wpListIn
 rw[if_pos (by simp[Region.wanted])]
 refine⟨fun _ _=>trivial,?_⟩
 have hrun:(execOp a1.eval ⟨dst,.call ⟨.value (.tmp t),args,ats⟩,type,pos,after,none⟩).run P w1 = .ok (.round l fn tmps assign body) w1:=by
  have ha:(args.toList.map a1.eval).toArray=args.map a1.eval:=by apply Array.ext';simp
  rw[ha] at hyi
  simp only[execOp,resolve,hev,Deferred.ofValue,Sem.run_bind,Sem.run_pure,Result.andThen_ok]
  simp[invoke,go_sem,hyi]
 have hsem:∀ o,Oper.semAt (fen none).round a1.eval o=execOp a1.eval o:=fun o=>Oper.semAt_none _ _
 rw[hsem,hrun]
 refine⟨(fun hh=>by cases hh),?_⟩
 refine RoundIn.mono hround ?_
 rintro e W' ⟨hE,h⟩
 have hmk:∃ ms:List Nat,a1.defers=ms.map mkD/\ms.Nodup/\∀ D ∈ ms,B<=D/\W'.heap[D]? = some (.deferred (some [])):=⟨ms,e1,e2,fun D hD=>⟨(e3 D hD).1,hE (D,_) (List.mem_map.2 ⟨D,hD,rfl⟩)⟩⟩
 have go:∀ {g':Option Nat} {V2:Vw} {d:D} {v:Value},VLe V1 V2->J g' V2 W'->RS (szOf T) V2 [] [] v d->(putK ⟨env',[],[],n⟩ dst d fun s=>vops P T ops r s fun s'=>purK n s' (Q .normal g')) ->
     wpListIn (fen none) 0 P ops.toArray (yPost P T B J Jp n Q) r (a1.put dst v) W':=by
  intro g' V2 d v hle hJ2 hv hput
  have hp2:PureS (szOf T) B V2 env' n a1 W':=⟨hp1.tmps,hmk,hY.size _ _ _ hJ2,hY.vok _ _ _ hJ2,fun t=>(hp1.env t).mono hle (.refl _) (.refl _)⟩
  obtain⟨s3,hq3,hS3⟩:=putK_sound hp2.sim hv hput
  refine vopsIn_sound hT r s3 V2 [] [] _ W' _ hS3 hq3 ?_
  intro s4 V4 μ4 ω4 a4 w4 hk4 hS4
  obtain⟨env5,hk5,hp5⟩:=hp2.after (a':=a4) (w':=w4) hS4 hk4
  exact .inl ⟨g',env5,V4,hk5,hY.grow _ _ _ _ _ hJ2 hS4.mem.below hS4.mem.vle hS4.mem.vok (fresh_of hS4.mem rfl),hp5⟩
 rcases h with⟨V2,hle,⟨rfl,hJ2⟩|⟨rfl,hJ2⟩⟩|⟨c,rfl,hJp⟩
 . exact go hle hJ2 (.imm _ _ .tt) hk1
 . exact go hle hJ2 (.imm _ _ .ff) hk2
 . exact .inr ⟨c,rfl,hJp,hmk⟩
theorem OkY.yreg(hT:TOk P T){id:Nat}{ops:List Oper}(j k:Nat)(x:List D)(hx:xs[k]? = some x)(h:vopsCut P T ops j ops ⟨env,[],[],n⟩ (yCallK P T l n ops (ops.drop (j+1)) x Q k)) :
    OkY P T l xs n (.region id ops.toArray false) Q (some k) env:=.ofZ (.yreg hT j k x hx h)
theorem J_shut{l B:Nat}{xs:List (List D)}{J:Option Nat->Vw->World->Prop}{Jp:List PanicEntry->World->Prop}(hY:Yields P T l B xs J Jp):∀ (ms:List Nat) (w:World),ms.Nodup->(∀ D ∈ ms,B<=D/\w.heap[D]? = some (.deferred (some []))) ->
    (∀ g V,J g V w->J g V (shut ms w))/\∀ c,Jp c w->Jp c (shut ms w)
 | [],w,_,_=>⟨fun _ _ h=>h,fun _ h=>h⟩
 | D :: ms,w,hn,hd=>by
  obtain⟨h1,h2⟩:=List.nodup_cons.1 hn
  obtain⟨a,b⟩:=J_shut hY ms (w.putObj D (.deferred none)) h2 (fun E hE=>⟨(hd E (by simp[hE])).1,(World.putObj_heap_other (r:=D) (k:=E) fun e=>h1 (e ▸ hE)).trans (hd E (by simp[hE])).2⟩)
  exact⟨fun g V h=>a g V (hY.shut g V w D h (hd D (by simp)).1 (hd D (by simp)).2),fun c h=>b c (hY.shutp c w D h (hd D (by simp)).1 (hd D (by simp)).2)⟩
theorem YSpec.of_okY{f:FuncId}{fn:Func}{c:Code}(hf:P.funcs[f]? = some fn)(hb:fn.body=some c)(hcall:∀ args w,(callFunc f args).run P w = .ok (.enter f args) w){cap:List D}(hres:fn.results=#[])(hn:cap.length+1<=fn.ntmps)
    (h:∀ l,OkY P T l xs fn.ntmps c (fun e g _=>(e = .normal\/e = .ret)/\(g=some xs.length\/g=none)) (some 0) (envOf 0 (.yld l :: cap))):YSpec P T f cap xs:=by
 refine⟨hcall,fun V w args hl hR l J Jp hY hJ=>calls_of_wp_X hf hb ?_⟩
 have hst:=start_sim (T:=T) (fn:=fn) (ds:=.yld l :: cap) (V:=V) (w:=w) (args:=#[.func (.yield l) #[] #[]]++args) (df:=[]) (by simpa using hn) (hY.vok _ _ _ hJ) (by simp;omega) (fun j v d h1 h2=>by
  cases j with
  | zero=>
   rw[Array.getElem?_append_left (by simp)] at h1
   simp at h1 h2
   subst h1 h2
   exact .yld l
  | succ j=>
   refine hR j v d ?_ (by simpa using h2)
   rw[Array.getElem?_append_right (by simp)] at h1
   simpa using h1)
 refine wp_mono ((h l).run w.heap.size J Jp hY V _ w hJ ⟨hst.tmps,⟨[],rfl,List.nodup_nil,by simp⟩,Nat.le_refl _,hY.vok _ _ _ hJ,hst.env⟩) ?_
 rintro e a' w' (⟨g',env',V',⟨he,hg⟩,hJ',hp⟩|⟨ch,rfl,hJp,ms,e1,e2,e3⟩)
 . obtain⟨ms,e1,e2,e3⟩:=hp.marks
   have fin:LeavesX P fn a'.tmps (fun e w'=>((∃ v,e = .returned v)/\∃ V',J (some xs.length) V' w'\/J none V' w')\/∃ c,e = .panicked c/\Jp c w') a'.defers .returning w':=by
    rw[e1,<- List.append_nil (ms.map mkD)]
    refine leavesX_marks (by simp) ms w' e2 (fun D hD=>(e3 D hD).2) ⟨.tuple #[],?_,.inl ⟨⟨_,rfl⟩,V',?_⟩⟩
    . rw[results_eq,hres]
      simp
    . have:=(J_shut hY ms w' e2 e3).1 g' V' hJ'
      rcases hg with rfl|rfl
      . exact .inl this
      . exact .inr this
   rcases he with rfl|rfl
   . exact fin
   . exact fin
 . show LeavesX P fn a'.tmps _ a'.defers _ w'
   rw[e1,<- List.append_nil (ms.map mkD)]
   exact leavesX_marks (by simp) ms w' e2 (fun D hD=>(e3 D hD).2) (.inr ⟨ch,rfl,(J_shut hY ms w' e2 e3).2 ch hJp⟩)
theorem effW.of{s:St}{f:FuncId}{ds:List D}{K:D->St->Prop}(h:effK P T s f ds K):effW P T s f ds K:=
 ⟨h.call,fun w0 V0 V μ ω a w vs hS hl hR=>(h.run w0 V0 V μ ω a w vs hS hl hR).mono fun _ _ ⟨v,d,s',V',μ',ω',h1,h2,h3,h4,_⟩=>⟨v,d,s',V',μ',ω',h1,h2,h3,h4⟩⟩
end
end Go.Vx
namespace Go.Vx
open Go.RowKit
section
variable {P : Program} {T : Tab} {l : Nat} {x : List D} {n : Nat} {Q : Exit → List (Nat × D) → Prop} {s : St}
structure OkO(P:Program)(T:Tab)(l:Nat)(x:List D)(n:Nat)(c:Code)(Q:Exit->List (Nat × D)->Prop)(s:St):Prop where
 run:∀ (B:Nat) J Jp,Yields P T l B [x] J Jp->(∀ V W,¬ J (some 1) V W)->∀ (V:Vw) (a0:Act) (w0:World) (env:List (Nat × D)),J (some 0) V w0->PureS (szOf T) B V env n a0 w0 ->
  ∀ (V':Vw) (μ:List Nat) (ω:List Value) (a:Act) (w:World),Sim (szOf T) w0 ⟨V,fun _=>undef,a0.defers,[]⟩ V' μ ω s a w->c.wp P (yPost P T B J Jp n fun e g env=>g=none/\Q e env) a w
theorem OkO.seq{c y:Code}(h:Ok P T c (thenQ (OkO P T l x n y Q) (fun _ _=>False)) s):OkO P T l x n (.seq c y) Q s:=by
 refine⟨fun B J Jp hY h1 V a0 w0 env hJ hp V' μ ω a w hS=>wp_seq (wp_mono (h.run w0 _ V' μ ω a w hS) ?_)⟩
 rintro e a' w' ⟨s',V2,μ',ω',hq,hS2⟩
 cases e with
 | normal=>exact OkO.run hq B J Jp hY h1 V a0 w0 env hJ hp V2 μ' ω' a' w' hS2
 | _=>exact False.elim hq
def thenO(N:List (Nat × D)->Prop)(Q:Exit->List (Nat × D)->Prop):Exit->List (Nat × D)->Prop
 | .normal,env=>N env
 | e,env=>Q e env
def blockO(id:Nat)(Q:Exit->List (Nat × D)->Prop):Exit->List (Nat × D)->Prop
 | .exit id',env=>match Nat.beq id' id with|true=>Q .normal env|false=>Q (.exit id') env
 | e,env=>Q e env
theorem OkO.block{id:Nat}{c:Code}(h:OkO P T l x n c (blockO id Q) s):OkO P T l x n (.block id c) Q s:=by
 refine⟨fun B J Jp hY h1 V a0 w0 env hJ hp V' μ ω a w hS=>wp_block (wp_mono (h.run B J Jp hY h1 V a0 w0 env hJ hp V' μ ω a w hS) ?_)⟩
 rintro e a' w' (⟨g',env',V',⟨rfl,hk⟩,h1,h2⟩|⟨ch,rfl,h⟩)
 . cases e with
   | exit id'=>
    simp only[blockO] at hk
    simp only[Exit.inBlock]
    split at hk
    . rename_i hb
      rw[if_pos (beq_nat_true hb)]
      exact .inl ⟨none,env',V',⟨rfl,hk⟩,h1,h2⟩
    . rename_i hb
      rw[if_neg (by rintro rfl;rw[Nat.beq_refl] at hb;cases hb)]
      exact .inl ⟨none,env',V',⟨rfl,hk⟩,h1,h2⟩
   | _=>exact .inl ⟨none,env',V',⟨rfl,hk⟩,h1,h2⟩
 . exact .inr ⟨ch,rfl,h⟩
theorem OkO.loop{c:Code}(h:OkO P T l x n c (thenO (fun _=>False) Q) s):OkO P T l x n (.loop c) Q s:=by
 refine⟨fun B J Jp hY h1 V a0 w0 env hJ hp V' μ ω a w hS=>wp_loop_at (fun k a1 w1=>k=0/\a1=a/\w1=w) ?_ ⟨rfl,rfl,rfl⟩⟩
 rintro k a1 w1 ⟨rfl,rfl,rfl⟩
 refine wp_mono (h.run B J Jp hY h1 V a0 w0 env hJ hp V' μ ω _ _ hS) ?_
 rintro e a' w' (⟨g',env',V',⟨rfl,hk⟩,h1,h2⟩|⟨ch,rfl,h⟩)
 . cases e with
   | normal=>exact False.elim hk
   | _=>exact .inl ⟨none,env',V',⟨rfl,hk⟩,h1,h2⟩
 . exact .inr ⟨ch,rfl,h⟩
def yCallO(P:Program)(T:Tab)(l n:Nat)(ops r:List Oper)(x:List D)(Q:Exit->List (Nat × D)->Prop)(o:Oper)(s:St):Prop:=
 match o.guard with
 | some _=>False
 | none=>match o.op with
  | .call { callee:=.value (.tmp t),args,argTypes:=_ }=>s.get (.tmp t) = .yld l/\s.gets args.toList=x/\imms x=true/\purK n s fun env'=>
      putK ⟨env',[],[],n⟩ o.dst .ff fun s=>vops P T ops r s fun s'=>purK n s' (Q .normal)
  | _=>False
theorem OkO.yreg(hT:TOk P T){id:Nat}{ops:List Oper}(j:Nat)(h:vopsCut P T ops j ops s (yCallO P T l n ops (ops.drop (j+1)) x Q)) :
    OkO P T l x n (.region id ops.toArray false) Q s:=by
 refine⟨fun B J Jp hY h1 V a0 w0 env hJ hp V' μ ω a w hS0=>(wpIn_wide (n:=0)).1 ?_⟩
 show Code.wpIn (fen none) 0 P _ _ a w
 refine wpIn_region_lit (vopsCutIn_sound hT j ops _ V' μ ω a w _ hS0 h ?_)
 intro o r s V1 μ1 ω1 a1 w1 hr hk hS1
 have hr2:ops.drop (j+1)=r:=by rw[<- List.drop_drop,hr];rfl
 rw[hr2] at hk
 obtain⟨dst,op,type,pos,after,guard⟩:=o
 unfold yCallO at hk
 split at hk
 . exact hk.elim
 rename_i hg
 dsimp only at hg
 subst hg
 split at hk
 case h_2=>exact hk.elim
 rename_i t args ats hop
 dsimp only at hop
 subst hop
 obtain⟨hyl,hgs,him,hk⟩:=hk
 have hev:a1.eval (.tmp t) = .func (.yield l) #[] #[]:=by have:=hS1.get (.tmp t);rw[hyl] at this;exact this.yld_
 obtain⟨env',hk2,hp1⟩:=hp.after hS1 hk
 have hJ1:=hY.grow _ _ _ _ _ hJ hS1.mem.below hS1.mem.vle hS1.mem.vok (fresh_of hS1.mem rfl)
 obtain⟨ms,e1,e2,e3⟩:=hp1.marks
 have hvals:=hS1.gets args.toList
 rw[hgs] at hvals
 obtain⟨fn,tmps,assign,body,hyi,hround⟩:=hY.round 0 x V1 w1 (args.toList.map a1.eval) rfl hJ1 hvals.1 (fun i v d h1 h2=>immD_ri (hvals.2 i v d h1 h2) (imms_at him i d h2)) (keptOf ms) (fun y hy=>by
  obtain⟨D,hD,rfl⟩:=List.mem_map.1 hy
  exact⟨(e3 D hD).1,(e3 D hD).2,fun _ _ _ e=>by cases e⟩)
 unfold wpListIn
 rw[if_pos (by simp[Region.wanted])]
 refine⟨fun _ _=>trivial,?_⟩
 have hrun:(execOp a1.eval ⟨dst,.call ⟨.value (.tmp t),args,ats⟩,type,pos,after,none⟩).run P w1 = .ok (.round l fn tmps assign body) w1:=by
  have ha:(args.toList.map a1.eval).toArray=args.map a1.eval:=by apply Array.ext';simp
  rw[ha] at hyi
  simp only[execOp,resolve,hev,Deferred.ofValue,Sem.run_bind,Sem.run_pure,Result.andThen_ok]
  simp[invoke,go_sem,hyi]
 have hsem:∀ o,Oper.semAt (fen none).round a1.eval o=execOp a1.eval o:=fun o=>Oper.semAt_none _ _
 rw[hsem,hrun]
 refine⟨(fun hh=>by cases hh),?_⟩
 refine RoundIn.mono hround ?_
 rintro e W' ⟨hE,h⟩
 have hmk:∃ ms:List Nat,a1.defers=ms.map mkD/\ms.Nodup/\∀ D ∈ ms,B<=D/\W'.heap[D]? = some (.deferred (some [])):=⟨ms,e1,e2,fun D hD=>⟨(e3 D hD).1,hE (D,_) (List.mem_map.2 ⟨D,hD,rfl⟩)⟩⟩
 rcases h with⟨V2,hle,⟨rfl,hJ2⟩|⟨rfl,hJ2⟩⟩|⟨c,rfl,hJp⟩
 . exact absurd hJ2 (h1 _ _)
 . have hp2:PureS (szOf T) B V2 env' n a1 W':=⟨hp1.tmps,hmk,hY.size _ _ _ hJ2,hY.vok _ _ _ hJ2,fun t=>(hp1.env t).mono hle (.refl _) (.refl _)⟩
   obtain⟨s3,hq3,hS3⟩:=putK_sound hp2.sim (.imm _ _ .ff) hk2
   refine vopsIn_sound hT r s3 V2 [] [] _ W' _ hS3 hq3 ?_
   intro s4 V4 μ4 ω4 a4 w4 hk4 hS4
   obtain⟨env5,hk5,hp5⟩:=hp2.after (a':=a4) (w':=w4) hS4 hk4
   exact .inl ⟨none,env5,V4,⟨rfl,hk5⟩,hY.grow _ _ _ _ _ hJ2 hS4.mem.below hS4.mem.vle hS4.mem.vok (fresh_of hS4.mem rfl),hp5⟩
 . exact .inr ⟨c,rfl,hJp,hmk⟩
end
end Go.Vx
namespace Go.Vx
open Go.RowKit
section
variable {P : Program} {T : Tab}
structure PureE(sz:TypeId->Nat)(B:Nat)(E:List (Nat × Obj))(V:Vw)(env:List (Nat × D))(n:Nat)(a:Act)(w:World):Prop where
 tmps:a.tmps.size=n
 marks:∃ ms:List Nat,a.defers=ms.map mkD/\ms.Nodup/\∀ D ∈ ms,B<=D/\w.heap[D]? = some (.deferred (some []))/\∀ x ∈ E,x.1 ≠ D
 size:B<=w.heap.size
 vok:VOk V w
 env:∀ t,RS sz V [] [] (slotV ⟨V,fun _=>undef,[],[]⟩ n a t) (look env t)
 kept:∀ x ∈ E,B<=x.1/\w.heap[x.1]? = some x.2/\noC x.2
theorem PureE.sim{B:Nat}{E:List (Nat × Obj)}{V:Vw}{env:List (Nat × D)}{n:Nat}{a:Act}{w:World}(h:PureE (szOf T) B E V env n a w):Sim (szOf T) w ⟨V,fun _=>undef,a.defers,[]⟩ V [] [] ⟨env,[],[],n⟩ a w:=
 ⟨h.tmps,.start,h.env,(Mem.start h.vok).fr rfl⟩
theorem PureE.after{B:Nat}{E:List (Nat × Obj)}{V V':Vw}{env:List (Nat × D)}{n:Nat}{a a':Act}{w w':World}{μ':List Nat}{ω':List Value}{s':St}{K:List (Nat × D)->Prop}(h:PureE (szOf T) B E V env n a w)
    (hS:Sim (szOf T) w ⟨V,fun _=>undef,a.defers,[]⟩ V' μ' ω' s' a' w')(hK:purK n s' K):∃ env',K env'/\PureE (szOf T) B E V' env' n a' w':=by
 obtain⟨env2,box,row,m⟩:=s'
 obtain⟨hmn,hK2⟩:=eqN_iff hK
 subst hmn
 obtain⟨env',hk,he⟩:=purE_sound (sz:=szOf T) (V:=V') (μ:=μ') (ω:=ω') hK2
 obtain⟨ms,e1,e2,e3⟩:=h.marks
 obtain⟨ms',f1,f2,f3⟩:=hS.defers.marks
 have hsz:=h.size
 have hlt:∀ x ∈ E,x.1<w.heap.size:=fun x hx=>(Array.getElem?_eq_some_iff.1 (h.kept x hx).2.1).1
 refine⟨env',hk,hS.tmps,⟨ms'++ms,?_,?_,fun D hD=>?_⟩,by have:=hS.mem.below.size;omega,hS.mem.vok,fun t=>.imm _ _ (he t _ (hS.env t)),fun x hx=>?_⟩
 . rw[f1,List.map_append]
   show ms'.map mkD++a.defers=_
   rw[e1]
 . refine List.nodup_append.2 ⟨f2,e2,fun x hx y hy e=>?_⟩
   have h1:=(f3 x hx).2.1
   have h2:=(Array.getElem?_eq_some_iff.1 (e3 y hy).2.1).1
   omega
 . rcases List.mem_append.1 hD with hD|hD
   . exact⟨by have:=(f3 D hD).2.1;omega,(f3 D hD).1,fun x hx=>by have:=(f3 D hD).2.1;have:=hlt x hx;omega⟩
   . exact⟨(e3 D hD).1,by rw[hS.mem.below.block D (Array.getElem?_eq_some_iff.1 (e3 D hD).2.1).1];exact (e3 D hD).2.1,(e3 D hD).2.2⟩
 . obtain⟨k1,k2,k3⟩:=h.kept x hx
   exact⟨k1,by rw[hS.mem.below.block x.1 (hlt x hx)];exact k2,k3⟩
def yPostE(P:Program)(T:Tab)(B:Nat)(E:List (Nat × Obj))(V0:Vw)(J:Option Nat->Vw->World->Prop)(Jp:List PanicEntry->World->Prop)(n:Nat)(Q:Exit->Option Nat->List (Nat × D)->Prop)(e:Exit)(a':Act)(w':World):Prop:=
 (∃ g' env' V',Q e g' env'/\J g' V' w'/\VLe V0 V'/\PureE (szOf T) B E V' env' n a' w') \/
  ∃ ch,e = .panic ch/\Jp ch w'/\(∀ x ∈ E,w'.heap[x.1]? = some x.2)/\∃ ms:List Nat,a'.defers=ms.map mkD/\ms.Nodup/\∀ D ∈ ms,B<=D/\w'.heap[D]? = some (.deferred (some []))/\∀ x ∈ E,x.1 ≠ D
structure OkE(P:Program)(T:Tab)(l:Nat)(xs:List (List D))(n:Nat)(c:Code)(Q:Exit->Option Nat->List (Nat × D)->Prop)(g:Option Nat)(env:List (Nat × D)):Prop where
 run:∀ (B:Nat) (E:List (Nat × Obj)) J Jp,Yields P T l B xs J Jp->∀ (V:Vw) (a:Act) (w:World),J g V w->PureE (szOf T) B E V env n a w->c.wp P (yPostE P T B E V J Jp n Q) a w
variable {l : Nat} {xs : List (List D)} {n : Nat} {Q : Exit → Option Nat → List (Nat × D) → Prop} {g : Option Nat} {env : List (Nat × D)}
theorem yPostE.up{B:Nat}{E:List (Nat × Obj)}{V0 V1:Vw}{J:Option Nat->Vw->World->Prop}{Jp:List PanicEntry->World->Prop}{e:Exit}{a:Act}{w:World}(h:yPostE P T B E V1 J Jp n Q e a w)(hV:VLe V0 V1):yPostE P T B E V0 J Jp n Q e a w:=by
 rcases h with⟨g',env',V',h1,h2,h3,h4⟩|h
 . exact .inl ⟨g',env',V',h1,h2,fun p v hp=>h3 p v (hV p v hp),h4⟩
 . exact .inr h
theorem OkE.seq{x y:Code}(h:OkE P T l xs n x (thenY (OkE P T l xs n y Q) Q) g env):OkE P T l xs n (.seq x y) Q g env:=by
 refine⟨fun B E J Jp hY V a w hJ hp=>wp_seq (wp_mono (h.run B E J Jp hY V a w hJ hp) ?_)⟩
 rintro e a' w' (⟨g',env',V',hk,h1,hv,h2⟩|⟨ch,rfl,h⟩)
 . cases e with
   | normal=>exact wp_mono (OkE.run hk B E J Jp hY V' a' w' h1 h2) fun _ _ _ h=>h.up hv
   | _=>exact .inl ⟨g',env',V',hk,h1,hv,h2⟩
 . exact .inr ⟨ch,rfl,h⟩
theorem OkE.skip(h:Q .normal g env):OkE P T l xs n .skip Q g env:=⟨fun _ _ _ _ _ V _ _ hJ hp=>wp_skip (.inl ⟨g,env,V,h,hJ,fun _ _ h=>h,hp⟩)⟩
theorem OkE.ret(h:Q .ret g env):OkE P T l xs n .ret Q g env:=⟨fun _ _ _ _ _ V _ _ hJ hp=>wp_ret (.inl ⟨g,env,V,h,hJ,fun _ _ h=>h,hp⟩)⟩
theorem OkE.exit{id:Nat}(h:Q (.exit id) g env):OkE P T l xs n (.exit id) Q g env:=⟨fun _ _ _ _ _ V _ _ hJ hp=>wp_exit (.inl ⟨g,env,V,h,hJ,fun _ _ h=>h,hp⟩)⟩
theorem OkE.block{id:Nat}{c:Code}(h:OkE P T l xs n c (blockY id Q) g env):OkE P T l xs n (.block id c) Q g env:=by
 refine⟨fun B E J Jp hY V a w hJ hp=>wp_block (wp_mono (h.run B E J Jp hY V a w hJ hp) ?_)⟩
 rintro e a' w' (⟨g',env',V',hk,h1,hv,h2⟩|⟨ch,rfl,h⟩)
 . cases e with
   | exit id'=>
    simp only[blockY] at hk
    simp only[Exit.inBlock]
    split at hk
    . rename_i hb
      rw[if_pos (beq_nat_true hb)]
      exact .inl ⟨g',env',V',hk,h1,hv,h2⟩
    . rename_i hb
      rw[if_neg (by rintro rfl;rw[Nat.beq_refl] at hb;cases hb)]
      exact .inl ⟨g',env',V',hk,h1,hv,h2⟩
   | _=>exact .inl ⟨g',env',V',hk,h1,hv,h2⟩
 . exact .inr ⟨ch,rfl,h⟩
theorem PureE.know{B:Nat}{E:List (Nat × Obj)}{V:Vw}{a:Act}{w:World}(hp:PureE (szOf T) B E V env n a w)(c:Operand){d:D}(hd:RS (szOf T) V [] [] (a.eval c) d):PureE (szOf T) B E V ((⟨env,[],[],n⟩:St).know c d).env n a w:=by
 have h:=hp.sim.know c hd
 have hn:((⟨env,[],[],n⟩:St).know c d).n=n:=by
  unfold St.know
  split
  . split<;>rfl
  . rfl
 refine⟨hp.tmps,hp.marks,hp.size,hp.vok,fun t=>?_,hp.kept⟩
 have:=h.env t
 rw[hn] at this
 exact this
theorem OkE.cond{c:Operand}{x y:Code}(h:condY env n c (OkE P T l xs n x Q g) (OkE P T l xs n y Q g)):OkE P T l xs n (.cond c x y) Q g env:=by
 refine⟨fun B E J Jp hY V a w hJ hp=>?_⟩
 have hc:=hp.sim.get c
 unfold condY condK at h
 split at h
 . rename_i hd;rw[hd] at hc;exact wp_cond_true hc.tt_ (h.run B E J Jp hY V a w hJ hp)
 . rename_i hd;rw[hd] at hc;exact wp_cond_false hc.ff_ (h.run B E J Jp hY V a w hJ hp)
 . rename_i p hd
   rw[hd] at hc
   obtain⟨b,hb,hbp⟩:=hc.bool
   cases b with
   | true=>exact wp_cond_true hb ((h.1 (hbp.1 rfl)).run B E J Jp hY V a w hJ (hp.know c (by rw[hb];exact .imm _ _ .tt)))
   | false=>exact wp_cond_false hb ((h.2 (fun hp=>by simpa using hbp.2 hp)).run B E J Jp hY V a w hJ (hp.know c (by rw[hb];exact .imm _ _ .ff)))
 . exact h.elim
theorem PureE.envs{B:Nat}{E:List (Nat × Obj)}{V:Vw}{a:Act}{w:World}{env':List (Nat × D)}(hp:PureE (szOf T) B E V env n a w)(he:∀ t v,RS (szOf T) V [] [] v (look env t)->RS (szOf T) V [] [] v (look env' t)):PureE (szOf T) B E V env' n a w:=
 ⟨hp.tmps,hp.marks,hp.size,hp.vok,fun t=>he t _ (hp.env t),hp.kept⟩
theorem OkE.keep{c:Code}(L:List Nat)(h:selE env L fun env=>OkE P T l xs n c Q g env):OkE P T l xs n c Q g env:=by
 refine⟨fun B E J Jp hY V a w hJ hp=>?_⟩
 obtain⟨env',hk,he⟩:=selE_sound (sz:=szOf T) (V:=V) h
 exact hk.run B E J Jp hY V a w hJ (hp.envs he)
structure OkF(P:Program)(T:Tab)(l:Nat)(xs:List (List D))(n:Nat)(c:Code)(Q:Exit->Option Nat->List (Nat × D)->Prop)(g:Option Nat)(s:St):Prop where
 run:∀ (B:Nat) (E:List (Nat × Obj)) J Jp,Yields P T l B xs J Jp->∀ (V:Vw) (a0:Act) (w0:World) (env:List (Nat × D)),J g V w0->PureE (szOf T) B E V env n a0 w0 ->
  ∀ (V':Vw) (μ:List Nat) (ω:List Value) (a:Act) (w:World),Sim (szOf T) w0 ⟨V,fun _=>undef,a0.defers,[]⟩ V' μ ω s a w->c.wp P (yPostE P T B E V J Jp n Q) a w
theorem OkE.ofF{c:Code}(h:OkF P T l xs n c Q g ⟨env,[],[],n⟩):OkE P T l xs n c Q g env:=
 ⟨fun B E J Jp hY V a w hJ hp=>h.run B E J Jp hY V a w env hJ hp V [] [] a w hp.sim⟩
theorem OkF.seq{x y:Code}{s:St}(h:Ok P T x (thenQ (OkF P T l xs n y Q g) (fun e s'=>purK n s' fun env'=>Q e g env')) s):OkF P T l xs n (.seq x y) Q g s:=by
 refine⟨fun B E J Jp hY V a0 w0 env hJ hp V' μ ω a w hS=>wp_seq (wp_mono (h.run w0 _ V' μ ω a w hS) ?_)⟩
 rintro e a' w' ⟨s',V2,μ',ω',hq,hS2⟩
 have pur:∀ e,purK n s' (fun env'=>Q e g env')->yPostE P T B E V J Jp n Q e a' w':=fun e hq=>by
  obtain⟨env',hk,hp'⟩:=hp.after hS2 hq
  exact .inl ⟨g,env',V2,hk,hY.grow g V V2 w0 w' hJ hS2.mem.below hS2.mem.vle hS2.mem.vok (fresh_of hS2.mem rfl),hS2.mem.vle,hp'⟩
 cases e with
 | normal=>exact OkF.run hq B E J Jp hY V a0 w0 env hJ hp V2 μ' ω' a' w' hS2
 | _=>exact pur _ hq
theorem OkF.cond{c:Operand}{x y:Code}{s:St}(h:condK s c (OkF P T l xs n x Q g) (OkF P T l xs n y Q g)):OkF P T l xs n (.cond c x y) Q g s:=by
 refine⟨fun B E J Jp hY V a0 w0 env hJ hp V' μ ω a w hS=>?_⟩
 have hc:=hS.get c
 unfold condK at h
 split at h
 . rename_i hd;rw[hd] at hc;exact wp_cond_true hc.tt_ (h.run B E J Jp hY V a0 w0 env hJ hp V' μ ω a w hS)
 . rename_i hd;rw[hd] at hc;exact wp_cond_false hc.ff_ (h.run B E J Jp hY V a0 w0 env hJ hp V' μ ω a w hS)
 . rename_i p hd
   rw[hd] at hc
   obtain⟨b,hb,hbp⟩:=hc.bool
   cases b with
   | true=>exact wp_cond_true hb ((h.1 (hbp.1 rfl)).run B E J Jp hY V a0 w0 env hJ hp V' μ ω a w (hS.know c (by rw[hb];exact .imm _ _ .tt)))
   | false=>exact wp_cond_false hb ((h.2 (fun hp=>by simpa using hbp.2 hp)).run B E J Jp hY V a0 w0 env hJ hp V' μ ω a w (hS.know c (by rw[hb];exact .imm _ _ .ff)))
 . exact h.elim
theorem E_go(hT:TOk P T){B:Nat}{E:List (Nat × Obj)}{J:Option Nat->Vw->World->Prop}{Jp:List PanicEntry->World->Prop}(hY:Yields P T l B xs J Jp){V0 V1:Vw}{a1:Act}{w1 W':World}{env':List (Nat × D)}{ops r:List Oper}{dst:Option Nat}
    (hp1:PureE (szOf T) B E V1 env' n a1 w1)(hV:VLe V0 V1)(hmk:∀ ms:List Nat,a1.defers=ms.map mkD->∀ D ∈ ms,W'.heap[D]? = some (.deferred (some [])))(hE:∀ x ∈ E,W'.heap[x.1]? = some x.2)
    {g':Option Nat}{V2:Vw}{d:D}{v:Value}(hle:VLe V1 V2)(hJ2:J g' V2 W')(hv:RS (szOf T) V2 [] [] v d)(hput:putK ⟨env',[],[],n⟩ dst d fun s=>vops P T ops r s fun s'=>purK n s' (Q .normal g')) :
    wpListIn (fen none) 0 P ops.toArray (yPostE P T B E V0 J Jp n Q) r (a1.put dst v) W':=by
 obtain⟨ms,e1,e2,e3⟩:=hp1.marks
 have hp2:PureE (szOf T) B E V2 env' n a1 W':=⟨hp1.tmps,⟨ms,e1,e2,fun D hD=>⟨(e3 D hD).1,hmk ms e1 D hD,(e3 D hD).2.2⟩⟩,hY.size _ _ _ hJ2,hY.vok _ _ _ hJ2,fun t=>(hp1.env t).mono hle (.refl _) (.refl _),fun x hx=>⟨(hp1.kept x hx).1,hE x hx,(hp1.kept x hx).2.2⟩⟩
 obtain⟨s3,hq3,hS3⟩:=putK_sound hp2.sim hv hput
 refine vopsIn_sound hT r s3 V2 [] [] _ W' _ hS3 hq3 ?_
 intro s4 V4 μ4 ω4 a4 w4 hk4 hS4
 obtain⟨env5,hk5,hp5⟩:=hp2.after (a':=a4) (w':=w4) hS4 hk4
 exact .inl ⟨g',env5,V4,hk5,hY.grow _ _ _ _ _ hJ2 hS4.mem.below hS4.mem.vle hS4.mem.vok (fresh_of hS4.mem rfl),fun p v h=>hS4.mem.vle p v (hle p v (hV p v h)),hp5⟩
theorem keptE{B:Nat}{E:List (Nat × Obj)}{V:Vw}{a:Act}{w:World}{ms:List Nat}(hp:PureE (szOf T) B E V env n a w)(e1:a.defers=ms.map mkD):∀ y ∈ keptOf ms++E,B<=y.1/\w.heap[y.1]? = some y.2/\noC y.2:=by
 obtain⟨ms',f1,f2,f3⟩:=hp.marks
 rw[e1] at f1
 have:=mkD_inj f1
 subst this
 intro y hy
 rcases List.mem_append.1 hy with hy|hy
 . obtain⟨D,hD,rfl⟩:=List.mem_map.1 hy
   exact⟨(f3 D hD).1,(f3 D hD).2.1,fun _ _ _ e=>by cases e⟩
 . exact hp.kept y hy
theorem OkF.yreg(hT:TOk P T){s0:St}{id:Nat}{ops:List Oper}(j k:Nat)(x:List D)(hx:xs[k]? = some x)(h:vopsCut P T ops j ops s0 (yCallK P T l n ops (ops.drop (j+1)) x Q k)) :
    OkF P T l xs n (.region id ops.toArray false) Q (some k) s0:=by
 refine⟨fun B E J Jp hY V a0 w0 env hJ hp V' μ ω a w hS0=>(wpIn_wide (n:=0)).1 ?_⟩
 show Code.wpIn (fen none) 0 P _ _ a w
 refine wpIn_region_lit (vopsCutIn_sound hT j ops _ V' μ ω a w _ hS0 h ?_)
 intro o r s V1 μ1 ω1 a1 w1 hr hk hS1
 have hr2:ops.drop (j+1)=r:=by rw[<- List.drop_drop,hr];rfl
 rw[hr2] at hk
 obtain⟨dst,op,type,pos,after,guard⟩:=o
 unfold yCallK at hk
 split at hk
 . exact hk.elim
 rename_i hg
 dsimp only at hg
 subst hg
 split at hk
 case h_2=>exact hk.elim
 rename_i t args ats hop
 dsimp only at hop
 subst hop
 obtain⟨hyl,hgs,him,hk⟩:=hk
 have hev:a1.eval (.tmp t) = .func (.yield l) #[] #[]:=by have:=hS1.get (.tmp t);rw[hyl] at this;exact this.yld_
 obtain⟨env',⟨hk1,hk2⟩,hp1⟩:=hp.after hS1 hk
 have hJ1:=hY.grow _ _ _ _ _ hJ hS1.mem.below hS1.mem.vle hS1.mem.vok (fresh_of hS1.mem rfl)
 obtain⟨ms,e1,e2,e3⟩:=hp1.marks
 have hvals:=hS1.gets args.toList
 rw[hgs] at hvals
 obtain⟨fn,tmps,assign,body,hyi,hround⟩:=hY.round k x V1 w1 (args.toList.map a1.eval) hx hJ1 hvals.1 (fun i v d h1 h2=>immD_ri (hvals.2 i v d h1 h2) (imms_at him i d h2)) (keptOf ms++E) (keptE hp1 e1)
 unfold wpListIn
 rw[if_pos (by simp[Region.wanted])]
 refine⟨fun _ _=>trivial,?_⟩
 have hrun:(execOp a1.eval ⟨dst,.call ⟨.value (.tmp t),args,ats⟩,type,pos,after,none⟩).run P w1 = .ok (.round l fn tmps assign body) w1:=by
  have ha:(args.toList.map a1.eval).toArray=args.map a1.eval:=by apply Array.ext';simp
  rw[ha] at hyi
  simp only[execOp,resolve,hev,Deferred.ofValue,Sem.run_bind,Sem.run_pure,Result.andThen_ok]
  simp[invoke,go_sem,hyi]
 have hsem:∀ o,Oper.semAt (fen none).round a1.eval o=execOp a1.eval o:=fun o=>Oper.semAt_none _ _
 rw[hsem,hrun]
 refine⟨(fun hh=>by cases hh),?_⟩
 refine RoundIn.mono hround ?_
 rintro e W' ⟨hK,h⟩
 have hE:∀ x ∈ E,W'.heap[x.1]? = some x.2:=fun x hx=>hK x (List.mem_append_right _ hx)
 have hmk:∀ ms':List Nat,a1.defers=ms'.map mkD->∀ D ∈ ms',W'.heap[D]? = some (.deferred (some [])):=fun ms' h1 D hD=>by
  rw[e1] at h1
  rw[<- mkD_inj h1] at hD
  exact hK (D,_) (List.mem_append_left _ (List.mem_map.2 ⟨D,hD,rfl⟩))
 rcases h with⟨V2,hle,⟨rfl,hJ2⟩|⟨rfl,hJ2⟩⟩|⟨c,rfl,hJp⟩
 . exact E_go hT hY hp1 hS1.mem.vle hmk hE hle hJ2 (.imm _ _ .tt) hk1
 . exact E_go hT hY hp1 hS1.mem.vle hmk hE hle hJ2 (.imm _ _ .ff) hk2
 . exact .inr ⟨c,rfl,hJp,hE,ms,e1,e2,fun D hD=>⟨(e3 D hD).1,hmk ms e1 D hD,(e3 D hD).2.2⟩⟩
theorem OkE.yreg(hT:TOk P T){id:Nat}{ops:List Oper}(j k:Nat)(x:List D)(hx:xs[k]? = some x)(h:vopsCut P T ops j ops ⟨env,[],[],n⟩ (yCallK P T l n ops (ops.drop (j+1)) x Q k)) :
    OkE P T l xs n (.region id ops.toArray false) Q (some k) env:=.ofF (.yreg hT j k x hx h)
end
end Go.Vx
namespace Go.Vx
open Go.RowKit
variable {P : Program} {T : Tab}
structure FSpecN(P:Program)(T:Tab)(f:FuncId)(ds:List D)(R:D->Rows->Prop):Prop where
 call:∀ args w,(callFunc f args).run P w = .ok (.enter f args) w
 run:∀ (V Vb:Vw) (w:World) (args:Array Value),VOk V w->VOk Vb w->args.size=ds.length->(∀ (j:Nat) v d,args[j]? = some v->ds[j]? = some d->RI (szOf T) V v d) ->
  Calls P f args w fun e w'=>∃ V' ω row v d,e = .returned v/\R d row/\RS (szOf T) V' [] ω v d/\Res (szOf T) Vb V' ω row w w'
theorem FSpecN.plain{f:FuncId}{ds:List D}{R:D->Rows->Prop}(h:FSpecN P T f ds R):FSpec P T f ds R:=
 ⟨h.call,fun V w args hV hl hR=>h.run V V w args hV hV hl hR⟩
theorem FSpecN.imp{f:FuncId}{ds:List D}{R R':D->Rows->Prop}(h:FSpecN P T f ds R)(hi:∀ d rows,R d rows->R' d rows):FSpecN P T f ds R':=
 ⟨h.call,fun V Vb w args hV hb hl hR=>(h.run V Vb w args hV hb hl hR).mono (by rintro e w' ⟨V',ω,row,v,d,rfl,h1,h2,h3⟩;exact⟨V',ω,row,v,d,rfl,hi _ _ h1,h2,h3⟩)⟩
def fg1:D->Bool
 | .bp _ _=>true
 | .lst _ [] []=>true
 | d=>d.ownOrG
def fgs:List D->Bool|[]=>true|d :: r=>fg1 d && fgs r
def fg2:D->Bool|.agg cs=>fgs cs|d=>fg1 d
def fgt:List D->Bool|[]=>true|d :: r=>fg2 d && fgt r
def fgD:D->Bool|.tup cs=>fgt cs|d=>fg2 d
theorem fgs_at:∀ {l:List D},fgs l=true->∀ (j:Nat) d,l[j]? = some d->fg1 d=true
 | [],_,j,d,h=>by simp at h
 | c :: l,hf,j,d,h=>by
  simp only[fgs,Bool.and_eq_true] at hf
  cases j with
  | zero=>simp at h;subst h;exact hf.1
  | succ j=>exact fgs_at hf.2 j d (by simpa using h)
theorem fgt_at:∀ {l:List D},fgt l=true->∀ (j:Nat) d,l[j]? = some d->fg2 d=true
 | [],_,j,d,h=>by simp at h
 | c :: l,hf,j,d,h=>by
  simp only[fgt,Bool.and_eq_true] at hf
  cases j with
  | zero=>simp at h;subst h;exact hf.1
  | succ j=>exact fgt_at hf.2 j d (by simpa using h)
theorem RS.fg1{sz:TypeId->Nat}{V V':Vw}{μ:List Nat}{ω:List Value}{v:Value}{d:D}(h:RS sz V μ ω v d)(hg:fg1 d=true):RS sz V' μ ω v d:=by
 unfold Go.Vx.fg1 at hg
 split at hg
 . obtain⟨g,hm,rfl⟩:=h.bp_
   exact .bp _ _ g hm
 . cases h with
   | imm _ _ h=>
    cases h with
    | lst _ _ _ A ad c val hc hm hA hn hl hV hR=>
     exact .imm _ _ (.lst _ [] [] A ad c val hc hm hA hn hl (fun i row j d h1=>by simp at h1) fun i row j d h1=>by simp at h1)
 . exact h.ownOrG hg
theorem RS.fg2{sz:TypeId->Nat}{V V':Vw}{μ:List Nat}{ω:List Value}{v:Value}{d:D}(h:RS sz V μ ω v d)(hg:fg2 d=true):RS sz V' μ ω v d:=by
 by_cases hd:∃ cs,d = .agg cs
 . obtain⟨cs,rfl⟩:=hd
   obtain⟨vs,rfl,hs,ho,hR⟩:=h.agg_
   exact .agg _ vs hs ho fun j v d h1 h2=>(hR j v d h1 h2).fg1 (fgs_at hg j d h2)
 . refine h.fg1 ?_
   cases d<;>first|exact hg|exact absurd ⟨_,rfl⟩ hd
theorem RS.fg{sz:TypeId->Nat}{V V':Vw}{μ:List Nat}{ω:List Value}{v:Value}{d:D}(h:RS sz V μ ω v d)(hg:fgD d=true):RS sz V' μ ω v d:=by
 by_cases hd:∃ cs,d = .tup cs
 . obtain⟨cs,rfl⟩:=hd
   obtain⟨vs,rfl,hs,hR⟩:=h.tup_
   exact .tup _ vs hs fun j v d h1 h2=>(hR j v d h1 h2).fg2 (fgt_at hg j d h2)
 . refine h.fg2 ?_
   cases d<;>first|exact hg|exact absurd ⟨_,rfl⟩ hd
structure Fg(s s':St):Prop where
 box:s'.box=s.box
 row:s'.row=s.row
 n:s'.n=s.n
 env:∀ x ∈ s'.env,look s.env x.1=x.2/\fgD x.2=true
 boxes:∀ cs ∈ s.box,∀ d ∈ cs,fgD d=true
 rows:gRowsP s.row
def fgss:List (List D)->Bool|[]=>true|c :: r=>fgs c && fgss r
theorem fgss_at:∀ {l:List (List D)},fgss l=true->∀ cs ∈ l,∀ d ∈ cs,fgD d=true
 | [],_,cs,h=>by simp at h
 | c :: l,hf,cs,h=>by
  simp only[fgss,Bool.and_eq_true] at hf
  rcases List.mem_cons.1 h with rfl|h
  . intro d hd
    obtain⟨j,hj⟩:=List.getElem?_of_mem hd
    have h1:=fgs_at hf.1 j d hj
    cases d<;>first|exact h1|cases h1
  . exact fgss_at hf.2 cs h
theorem Fg.keep{env:List (Nat × D)}{box:List (List D)}{row:Rows}{n:Nat}(env':List (Nat × D))(h1:∀ x ∈ env',look env x.1=x.2/\fgD x.2=true)(h2:fgss box=true)(h3:gRowsP row):Fg ⟨env,box,row,n⟩ ⟨env',box,row,n⟩:=
 ⟨rfl,rfl,rfl,h1,fgss_at h2,h3⟩
theorem look_mem:∀ (l:List (Nat × D)) (t:Nat),look l t = .u\/(t,look l t) ∈ l
 | [],_=>.inl rfl
 | (x,d) :: l,t=>by
  unfold look
  cases h:Nat.beq x t with
  | true=>have:=beq_nat_true h;subst this;exact .inr (by simp)
  | false=>exact (look_mem l t).imp id fun h=>List.mem_cons_of_mem _ h
theorem Sim.forget{sz:TypeId->Nat}{w0 w:World}{V0:Fr}{V Vb:Vw}{μ:List Nat}{ω:List Value}{s s':St}{a:Act}(h:Sim sz w0 V0 V μ ω s a w)(hb:VOk Vb w0)(hf:Fg s s') :
    Sim sz w0 ⟨Vb,V0.gv,V0.df,V0.kp⟩ (fun p=>if p.block<w0.heap.size then Vb p else V p) μ ω s' a w:=by
 have hin:∀ p u,Vb p=some u->p.block<w0.heap.size:=fun p u hp=>by
  have hc:=hb.2 p u hp
  apply Classical.byContradiction
  intro hn
  have:w0.heap[p.block]? = none:=by simp;omega
  simp[World.cell?,this] at hc
 have hM:=h.mem
 have hext:Ext w0 w:=hM.below
 have hvok:VOk (fun p=>if p.block<w0.heap.size then Vb p else V p) w:=by
  refine⟨⟨fun p u hp=>(by have h1:=hb.1.1 p u hp;simp only[if_pos (hin p u h1)];exact h1),hM.vok.1.2⟩,fun p u hp=>?_⟩
  by_cases hlt:p.block<w0.heap.size
  . simp only[if_pos hlt] at hp
    exact hext.cell (hb.2 p u hp)
  . simp only[if_neg hlt] at hp
    exact hM.vok.2 p u hp
 refine⟨by rw[hf.n];exact h.tmps,⟨h.defers.marks,h.defers.kept⟩,fun t=>?_,?_⟩
 . rw[hf.n]
   show RS _ _ _ _ (slotV V0 s.n a t) _
   rcases look_mem s'.env t with e|hm
   . rw[e];exact .imm _ _ (.u _)
   . obtain⟨h1,h2⟩:=hf.env _ hm
     have:=h.env t
     rw[h1] at this
     exact this.fg h2
 . rw[hf.box,hf.row]
   refine⟨hM.below,hvok,fun p u hp=>by simp only[if_pos (hin p u hp)];exact hp,fun p hp=>by simp only[if_pos hp],hM.bl,fun i g cs h1 h2=>?_,hM.rl,fun r v e xs h1 h2=>?_,hM.uniq,hM.new,fun p u l hp ho=>?_⟩
   . obtain⟨vs,t,a1,a2,a3,a4,a5⟩:=hM.hbox i g cs h1 h2
     exact⟨vs,t,a1,a2,a3,fun j v d e1 e2=>(a4 j v d e1 e2).fg (hf.boxes cs (List.mem_of_getElem? h2) d (List.mem_of_getElem? e2)),a5⟩
   . obtain⟨vals,a1,a2,a3,a4⟩:=hM.hrow r v e xs h1 h2
     refine⟨vals,a1,a2,a3,fun i rw_ j d e1 e2=>?_⟩
     obtain⟨u,hu,hr⟩:=a4 i rw_ j d e1 e2
     exact⟨u,hu,hr.ground (grounds_at (gRowsP_at hf.rows r e xs h2 rw_ (List.mem_of_getElem? e1)) j d e2)⟩
   . by_cases hlt:p.block<w0.heap.size
     . exact absurd (hM.new l _ ho).1 (by omega)
     . simp only[if_neg hlt] at hp
       exact hM.vmut p u l hp ho
theorem effK.new{s:St}{f:FuncId}{ts:List TypeId}{ds es:List D}{K:D->St->Prop}{R:D->Rows->Prop}(he:expos T s.row ts ds fun es'=>es'=es)(hf:FSpecN P T f es R)
    (h:∀ d rows,R d rows->rows=[]/\(∀ V v ω,RS (szOf T) V [] ω v d->RS (szOf T) V [] [] v d)/\K d s):effK P T s f ds K:=by
 refine⟨hf.call,fun w0 V0 V μ ω a w vs hS hvl hvR=>?_⟩
 obtain⟨es',rfl,hes,hri⟩:=expos_sound hS.mem ts ds vs _ hvl hvR he
 have hcalls:=hf.run (heapV w) V w vs.toArray (.heap hS.mem.vok.gl (Ext.refl w)) hS.mem.vok (by simp[hes,hvl]) (fun j v d h1 h2=>hri j v d (by simpa using h1) h2)
 refine hcalls.mono ?_
 rintro e w'' ⟨V',ω0,row0,v,d,rfl,hR,hrs,hres⟩
 obtain⟨rfl,hd,hk⟩:=h d row0 hR
 have hrs2:=hd V' v _ hrs
 have hω:ω0=[]:=List.eq_nil_of_length_eq_zero (by have:=hres.rl;simpa using this)
 subst hω
 obtain⟨env,box,row,n⟩:=s
 have hM:=hS.mem.call hres
 simp only[List.append_nil] at hM
 exact⟨v,d,_,V',μ,ω,rfl,hk,hrs2.mono (VLe.refl _) (fun i x h=>by simp at h) (fun i x h=>by simp at h),⟨hS.tmps,hS.defers.ext hres.below,fun t=>(hS.env t).mono hres.le (.refl μ) (.refl ω),hM⟩,hres.le,.refl _,.refl _,fun q v hq=>by rw[hres.below.cell (World.block_lt_of_cell? _ _ hq)];exact hq⟩
def defBN(P:Program)(T:Tab)(fn:Func)(R:D->Rows->Prop)(pv:Value)(z1 z2:List D)(B2:List Code):Exit->St->Prop
 | .normal,s=>∃ s',Fg s s'/\OkL P T B2 (defB T fn R pv z1 z2) s'
 | e,s=>∃ s',Fg s s'/\defB T fn R pv z1 z2 e s'
def defAN(P:Program)(T:Tab)(fn:Func)(R:D->Rows->Prop)(pv:Value)(z1 z2:List D)(t p q:Nat)(B1 B2:List Code):Exit->St->Prop
 | .normal,s=>match s with
  | ⟨env,box,row,n⟩=>∃ i j,look env p = .bp i 0/\look env q = .bp j 0/\p<n/\q<n/\t<n/\n=fn.ntmps/\OkL P T B1 (defBN P T fn R pv z1 z2 B2) ⟨(n,.bp i 0) :: (n+1,.bp j 0) :: (t,.u) :: env,box,row,n⟩
 | .ret,s=>∃ s',Fg s s'/\retK T fn R s'
 | _,_=>False
theorem FSpecN.of_defer(hT:TOk P T){f:FuncId}{fn:Func}{c:Code}(hf:P.funcs[f]? = some fn)(hb:fn.body=some c)(hcall:∀ args w,(callFunc f args).run P w = .ok (.enter f args) w){ds:List D}{R:D->Rows->Prop}(hn:ds.length<=fn.ntmps)
    {pv:Value}{z1 z2:List Value}{zd1 zd2:List D}(hz1:z1.map ofVal=zd1)(hz2:z2.map ofVal=zd2)(ho1:∀ v ∈ z1,v.oneCell'=true)(ho2:∀ v ∈ z2,v.oneCell'=true){id g t p q:Nat}{ty1 ty2:TypeId}{p1 p2:String}{e1 e2:Array Edge}(hD:DefSpec P g pv z1 z2){As B1 B2:List Code}
    (hflat:flatC c=As++(.region id #[⟨some t,.makeFunc (.func g) #[] #[.tmp p,.tmp q],ty1,p1,e1,none⟩,⟨none,.defer ⟨.value (.tmp t),#[],#[]⟩,ty2,p2,e2,none⟩] false :: (B1++B2)))
    (h:OkL P T As (defAN P T fn R pv zd1 zd2 t p q B1 B2) ⟨envOf 0 ds,[],[],fn.ntmps⟩):FSpecN P T f ds R:=by
 refine⟨hcall,fun V Vb w args hV hVb hl hR=>calls_of_wp_X hf hb (wp_of_flat c ?_)⟩
 rw[hflat,wpL_append]
 have hA:=h.run w ⟨V,fun _=>undef,[],[]⟩ V [] [] _ w (start_sim hn hV hl hR)
 have mono:∀ (l:List Code) {Q Q':Exit->Act->World->Prop} (a:Act) (w:World),(∀ e a w,Q e a w->Q' e a w)->wpL P Q l a w->wpL P Q' l a w:=by
  intro l
  induction l with
  | nil=>intro Q Q' a w hq h;exact hq _ _ _ h
  | cons c r ih=>intro Q Q' a w hq h;exact wp_mono h fun e a w h=>by cases e<;>first|exact ih _ _ hq h|exact hq _ _ _ h
 refine mono As _ _ ?_ hA
 rintro e a' w' ⟨s',V',μ',ω',hq,hS'⟩
 cases e with
 | ret=>
  obtain⟨s0,hfg,hq⟩:=hq
  obtain⟨ms,h1,h2,h3,hS'⟩:=(hS'.forget hVb hfg).shut
  obtain⟨v,hv,hr⟩:=retK_leaves (P:=P) hT rfl hS' hq
  show LeavesX P fn a'.tmps _ a'.defers .returning w'
  rw[h1]
  exact leavesX_marks (by simp) ms w' h2 h3 ⟨v,hv,hr⟩
 | normal=>
  obtain⟨env,box,row,n⟩:=s'
  obtain⟨i,j,hp,hqq,hpn,hqn,htn,hnn,hB⟩:=hq
  obtain⟨msA,hmA1,hmA2,hmA3⟩:=hS'.defers.marks
  have rp:=hS'.slot hpn
  have rq:=hS'.slot hqn
  rw[hp] at rp
  rw[hqq] at rq
  obtain⟨g1,hg1,hv1⟩:=rp.bp_
  obtain⟨g2,hg2,hv2⟩:=rq.bp_
  show Code.wp P (.region id _ false) _ a' w'
  refine wp_region_lit ?_
  unfold wpList
  rw[if_pos (by simp[Region.wanted])]
  left
  unfold Oper.wp
  have r1:(execOp a'.eval ⟨some t,.makeFunc (.func g) #[] #[.tmp p,.tmp q],ty1,p1,e1,none⟩).run P w' = .ok (.value (.func (.func g) #[] #[.pointer (some ⟨g1,0,none⟩),.pointer (some ⟨g2,0,none⟩)])) w':=by
   simp only[execOp,Instr.makeFunc,Sem.run_bind,Sem.run_pure,Result.andThen_ok,List.map_toArray,List.map_cons,List.map_nil,Act.eval,hv1,hv2]
  rw[r1]
  show wpList P _ _ [_] (a'.put (some t) _) w'
  unfold wpList
  rw[if_pos (by simp[Region.wanted])]
  left
  unfold Oper.wp
  have r2:(execOp (a'.put (some t) (.func (.func g) #[] #[.pointer (some ⟨g1,0,none⟩),.pointer (some ⟨g2,0,none⟩)])).eval ⟨none,.defer ⟨.value (.tmp t),#[],#[]⟩,ty2,p2,e2,none⟩).run P w' =
      .ok (.defer { target:=.fn (.func g) #[.pointer (some ⟨g1,0,none⟩),.pointer (some ⟨g2,0,none⟩)],args:=#[] }) w':=by
   have hsz:t<a'.tmps.size:=by have:=hS'.tmps;dsimp only at this;omega
   have hev:(a'.put (some t) (.func (.func g) #[] #[.pointer (some ⟨g1,0,none⟩),.pointer (some ⟨g2,0,none⟩)])).eval (.tmp t) = .func (.func g) #[] #[.pointer (some ⟨g1,0,none⟩),.pointer (some ⟨g2,0,none⟩)]:=by
    simp[Act.put,Act.eval,Array.getD,hsz]
   simp only[execOp,resolve,hev,Deferred.ofValue,Sem.run_bind,Sem.run_pure,Result.andThen_ok,List.map_toArray,List.map_nil]
   rfl
  rw[r2]
  have core:∀ (e:Exit) (a2:Act) (w2:World),(∃ s2 V2 μ2 ω2,defB T fn R pv zd1 zd2 e s2/\Sim (szOf T) w ⟨Vb,fun x=>if x=n then .pointer (some ⟨g1,0,none⟩) else if x=n+1 then .pointer (some ⟨g2,0,none⟩) else undef,{ target:=.fn (.func g) #[.pointer (some ⟨g1,0,none⟩),.pointer (some ⟨g2,0,none⟩)],args:=#[] } :: a'.defers,keptOf msA⟩ V2 μ2 ω2 s2 a2 w2) ->
      bodyPostX P fn (fun e w'=>∃ V' ω row v d,e = .returned v/\R d row/\RS (szOf T) V' [] ω v d/\Res (szOf T) Vb V' ω row w w') e a2 w2:=by
   rintro e a2 w2 ⟨s2,V2,μ2,ω2,hq2,hS2⟩
   have tail:∀ {s3:St} {w3:World},retK T fn R s3->Sim (szOf T) w ⟨Vb,fun x=>if x=n then .pointer (some ⟨g1,0,none⟩) else if x=n+1 then .pointer (some ⟨g2,0,none⟩) else undef,{ target:=.fn (.func g) #[.pointer (some ⟨g1,0,none⟩),.pointer (some ⟨g2,0,none⟩)],args:=#[] } :: a'.defers,keptOf msA⟩ V2 μ2 ω2 s3 { a2 with defers:={ target:=.fn (.func g) #[.pointer (some ⟨g1,0,none⟩),.pointer (some ⟨g2,0,none⟩)],args:=#[] } :: a'.defers } w3 ->
       LeavesX P fn a2.tmps (fun e w'=>∃ V' ω row v d,e = .returned v/\R d row/\RS (szOf T) V' [] ω v d/\Res (szOf T) Vb V' ω row w w') a'.defers .returning w3:=by
    intro s3 w3 hr hS3
    have hk:=fun D (hD:D ∈ msA)=>hS3.defers.kept (D,.deferred (some [])) (List.mem_map.2 ⟨D,hD,rfl⟩)
    obtain⟨v,hv,hr⟩:=retK_leaves (P:=P) hT rfl (hS3.shutM msA hmA2 fun D hD=>⟨(hk D hD).1,(hk D hD).2.2⟩) hr
    rw[hmA1]
    exact leavesX_marks (by simp) msA w3 hmA2 (fun D hD=>(hk D hD).1) ⟨v,hv,hr⟩
   obtain⟨msB,hmB1,hmB2,hmB3,hS2⟩:=hS2.shut
   have idle:retK T fn R s2->LeavesX P fn a2.tmps (fun e w'=>∃ V' ω row v d,e = .returned v/\R d row/\RS (szOf T) V' [] ω v d/\Res (szOf T) Vb V' ω row w w') a2.defers .returning w2:=by
    intro hr
    rw[hmB1]
    refine leavesX_marks (by simp) msB w2 hmB2 hmB3 (leavesX_fn (f:=g) (args:=#[.pointer (some ⟨g1,0,none⟩),.pointer (some ⟨g2,0,none⟩)]) (by simp) ?_ ((hD.idle _ _ _).mono ?_))
    . simp only[invoke]
      rw[hD.call]
      rfl
    . rintro e u' w3 ⟨rfl,rfl,hx⟩
      exact tail hr (hS2.ext hx)
   cases e with
   | normal=>exact idle hq2
   | ret=>exact idle hq2
   | panic ch=>
    obtain⟨rfl,hq2⟩:=hq2
    obtain⟨env2,box2,row2,n2⟩:=s2
    obtain⟨i2,j2,cs1,cs2,hi2,hj2,hb1,hb2,hl1,hl2,hij,hn2,hr⟩:=hq2
    have hnn2:n2=n:=by rw[hn2,hnn]
    subst hnn2
    have re1:=hS2.env n2
    have re2:=hS2.env (n2+1)
    dsimp only at re1 re2
    rw[hi2] at re1
    rw[hj2] at re2
    unfold slotV at re1 re2
    rw[if_neg (by omega)] at re1 re2
    simp only[if_true,show n2+1 ≠ n2 by omega,if_false] at re1 re2
    obtain⟨h1,hm1,hh1⟩:=re1.bp_
    cases hh1
    obtain⟨h2,hm2,hh2⟩:=re2.bp_
    cases hh2
    show LeavesX P fn a2.tmps _ a2.defers _ w2
    rw[hmB1]
    refine leavesX_marks (by simp) msB w2 hmB2 hmB3 ?_
    have stores:∀ w1,Ext (shut msB w2) w1->∃ w3,(storeCells ⟨g1,0,none⟩ z1).run P w1 = .ok () w3/\∃ w4,(storeCells ⟨g2,0,none⟩ z2).run P w3 = .ok () w4 /\
        Sim (szOf T) w ⟨Vb,fun x=>if x=n2 then .pointer (some ⟨g1,0,none⟩) else if x=n2+1 then .pointer (some ⟨g2,0,none⟩) else undef,
   { target:=.fn (.func g) #[.pointer (some ⟨g1,0,none⟩),.pointer (some ⟨g2,0,none⟩)],args:=#[] } :: a'.defers,keptOf msA⟩ V2 μ2 ω2 ⟨env2,(box2.set i2 zd1).set j2 zd2,row2,n2⟩ { a2 with defers:={ target:=.fn (.func g) #[.pointer (some ⟨g1,0,none⟩),.pointer (some ⟨g2,0,none⟩)],args:=#[] } :: a'.defers } w4:=by
       intro w1 hx
       obtain⟨p1',w3,hp1,hst1,hS3,_⟩:=store_bp_sound (P:=P) (hS2.ext hx) (i:=i2) (off:=0) (RS.bp i2 0 g1 hm1) (z_agg hz1 ho1) hb1 (by omega) (by rw[setCells_all hl1,<- hz1];exact noB_ofVal z1)
       cases hp1
       have hb2':(box2.set i2 (setCells cs1 0 zd1))[j2]? = some cs2:=by rw[List.getElem?_set_ne hij];exact hb2
       obtain⟨p2',w4,hp2,hst2,hS4,_⟩:=store_bp_sound (P:=P) hS3 (i:=j2) (off:=0) (RS.bp j2 0 g2 hm2) (z_agg hz2 ho2) hb2' (by omega) (by rw[setCells_all hl2,<- hz2];exact noB_ofVal z2)
       cases hp2
       rw[setCells_all hl1,setCells_all hl2] at hS4
       exact⟨w3,by simpa using hst1,w4,by simpa using hst2,hS4⟩
    refine leavesX_fn (f:=g) (args:=#[.pointer (some ⟨g1,0,none⟩),.pointer (some ⟨g2,0,none⟩)]) (by simp) ?_ ((hD.caught _ _ _ fun w1 hx=>let ⟨w3,k1,w4,k2,_⟩:=stores w1 hx;⟨w3,k1,w4,k2⟩).mono ?_)
    . simp only[invoke]
      rw[hD.call]
      rfl
    . rintro e u' w5 ⟨rfl,rfl,w1,w3,hx,k1,k2⟩
      obtain⟨w3',k1',w4',k2',hS5⟩:=stores w1 hx
      rw[k1] at k1'
      cases k1'
      rw[k2] at k2'
      cases k2'
      exact tail hr hS5
   | _=>exact hq2.elim
  show wpL P _ (B1++B2) _ w'
  rw[wpL_append]
  refine mono B1 _ _ ?_ (hB.run w ⟨V,fun x=>if x=n then .pointer (some ⟨g1,0,none⟩) else if x=n+1 then .pointer (some ⟨g2,0,none⟩) else undef,
   { target:=.fn (.func g) #[.pointer (some ⟨g1,0,none⟩),.pointer (some ⟨g2,0,none⟩)],args:=#[] } :: a'.defers,keptOf msA⟩ V' μ' ω' _ w' (hS'.frame rfl ?_ ?_ ?_))
  . rintro e a2 w2 ⟨s2,V2,μ2,ω2,hq2,hS2⟩
    cases e with
    | normal=>
     obtain⟨s3,hfg,hq3⟩:=hq2
     exact mono B2 _ _ core (hq3.run _ _ _ _ _ _ _ (hS2.forget hVb hfg))
    | _=>
     obtain⟨s3,hfg,hq3⟩:=hq2
     exact core _ _ _ ⟨s3,_,_,_,hq3,hS2.forget hVb hfg⟩
  . simp only[Act.put]
    have:=hS'.tmps
    dsimp only at this
    simpa using this
  . refine⟨⟨[],by simp[Act.put],List.nodup_nil,by simp⟩,fun x hx=>?_⟩
    obtain⟨D,hD,rfl⟩:=List.mem_map.1 hx
    exact⟨(hmA3 D hD).1,(fun _ _ _ e=>by cases e),(hmA3 D hD).2.1⟩
  . intro x
    unfold look
    cases h1:Nat.beq n x with
    | true=>
     have:=beq_nat_true h1
     subst this
     unfold slotV
     rw[if_neg (by omega)]
     simp only[if_true]
     exact .bp i 0 g1 hg1
    | false=>
     have hxn:x ≠ n:=fun e=>by rw[e,Nat.beq_refl] at h1;cases h1
     show RS _ _ _ _ _ (look _ _)
     unfold look
     cases h2:Nat.beq (n+1) x with
     | true=>
      have:=beq_nat_true h2
      subst this
      unfold slotV
      rw[if_neg (by omega)]
      simp only[show n+1 ≠ n by omega,if_false,if_true]
      exact .bp j 0 g2 hg2
     | false=>
      have hxn2:x ≠ n+1:=fun e=>by rw[e,Nat.beq_refl] at h2;cases h2
      show RS _ _ _ _ _ (look _ _)
      unfold look
      cases h3:Nat.beq t x with
      | true=>exact .imm _ _ (.u _)
      | false=>
       have hxt:x ≠ t:=fun e=>by rw[e,Nat.beq_refl] at h3;cases h3
       have he:=hS'.env x
       dsimp only at he
       show RS _ _ _ _ _ (look env x)
       unfold slotV at he ⊢
       by_cases hx:x<n
       . rw[if_pos hx] at he ⊢
         have hsz:a'.tmps.size=n:=hS'.tmps
         have key:∀ (A:Array Value) (v:Value),(A.setIfInBounds t v).getD x undef=A.getD x undef:=fun A v=>by
          rw[Array.getD_eq_getD_getElem?,Array.getD_eq_getD_getElem?,Array.getElem?_setIfInBounds_ne (Ne.symm hxt)]
         have:=key a'.tmps (.func (.func g) #[] #[.pointer (some ⟨g1,0,none⟩),.pointer (some ⟨g2,0,none⟩)])
         show RS _ _ _ _ ((a'.tmps.setIfInBounds t (.func (.func g) #[] #[.pointer (some ⟨g1,0,none⟩),.pointer (some ⟨g2,0,none⟩)])).getD x undef) _
         rw[this]
         exact he
       . rw[if_neg hx] at he ⊢
         simp only[hxn,hxn2,if_false]
         exact he
 | _=>exact hq.elim
theorem FSpecN.of_deferK(k m:Nat)(hT:TOk P T){f:FuncId}{fn:Func}{c:Code}(hf:P.funcs[f]? = some fn)(hb:fn.body=some c)(hcall:∀ args w,(callFunc f args).run P w = .ok (.enter f args) w){ds:List D}{R:D->Rows->Prop}(hn:ds.length<=fn.ntmps)
    {g:FuncId}{pv:Value}{z1 z2:List Value}(hD:DefSpec P g pv z1 z2){zd1 zd2:List D}(hz1:z1.map ofVal=zd1)(hz2:z2.map ofVal=zd2)(ho1:∀ v ∈ z1,v.oneCell'=true)(ho2:∀ v ∈ z2,v.oneCell'=true){id t p q:Nat}{ty1 ty2:TypeId}{p1 p2:String}{e1 e2:Array Edge}{Bs:List Code}
    (hflat:(flatC c).drop k = .region id #[⟨some t,.makeFunc (.func g) #[] #[.tmp p,.tmp q],ty1,p1,e1,none⟩,⟨none,.defer ⟨.value (.tmp t),#[],#[]⟩,ty2,p2,e2,none⟩] false :: Bs)
    (h:OkL P T ((flatC c).take k) (defAN P T fn R pv zd1 zd2 t p q (Bs.take m) (Bs.drop m)) ⟨envOf 0 ds,[],[],fn.ntmps⟩):FSpecN P T f ds R:=
 FSpecN.of_defer hT hf hb hcall hn hz1 hz2 ho1 ho2 hD (by rw[List.take_append_drop,<- hflat,List.take_append_drop]) h
end Go.Vx
namespace Go.Vx
open Go.RowKit
variable {P : Program} {T : Tab}
theorem effK.deep{s:St}{f:FuncId}{ts:List TypeId}{ds es:List D}{K:D->St->Prop}{R:D->Rows->Prop}(he:expos T s.row ts ds fun es'=>es'=es)(hf:FSpec P T f es R)
    (h:∀ d rows,R d rows->rows=[]/\(∀ (V V':Vw) (v:Value) (ω:List Value),RS (szOf T) V [] ω v d->RS (szOf T) V' [] [] v d)/\K d s):effK P T s f ds K:=by
 refine⟨hf.call,fun w0 V0 V μ ω a w vs hS hvl hvR=>?_⟩
 obtain⟨es',rfl,hes,hri⟩:=expos_sound hS.mem ts ds vs _ hvl hvR he
 have hcalls:=hf.run (heapV w) w vs.toArray (.heap hS.mem.vok.gl (Ext.refl w)) (by simp[hes,hvl]) (fun j v d h1 h2=>hri j v d (by simpa using h1) h2)
 refine hcalls.mono ?_
 rintro e w'' ⟨V',ω0,row0,v,d,rfl,hR,hrs,hres⟩
 obtain⟨rfl,hd,hk⟩:=h d row0 hR
 have hres2:=hres.less hS.mem.vok trivial
 have hrs2:=hd V' (fun p=>if p.block<w.heap.size then V p else V' p) v _ hrs
 have hω:ω0=[]:=List.eq_nil_of_length_eq_zero (by have:=hres.rl;simpa using this)
 subst hω
 obtain⟨env,box,row,n⟩:=s
 have hM:=hS.mem.call hres2
 simp only[List.append_nil] at hM
 exact⟨v,d,_,_,μ,ω,rfl,hk,hrs2.mono (VLe.refl _) (fun i x h=>by simp at h) (fun i x h=>by simp at h),⟨hS.tmps,hS.defers.ext hres2.below,fun t=>(hS.env t).mono hres2.le (.refl μ) (.refl ω),hM⟩,hres2.le,.refl _,.refl _,fun q v hq=>by rw[hres2.below.cell (World.block_lt_of_cell? _ _ hq)];exact hq⟩
end Go.Vx
namespace Go.Vx
open Go.RowKit Go.ChangeShapes Go.WideShapes
open Go.Proofs.YtaiondckookpiaaGreatDoor (Rows.uptoBulk Rows.uptoBulkAll)
inductive Shp where
 | bool|int (k:IntKind)|str|slice (e:TypeId) (cells:List Shp)
def shpFs(F:TypeId->Option (List Shp)):Nat->List (Nat × TypeId)->Option (List Shp)
 | _,[]=>some []
 | k,(o,t) :: r=>match Nat.beq o k,F t with
  | true,some l=>(match shpFs F (k+l.length) r with|some m=>some (l++m)|none=>none)
  | _,_=>none
def lenIs(s:Nat)(o:Option (List Shp)):Option (List Shp):=match o with|some l=>(match Nat.beq s l.length with|true=>some l|false=>none)|none=>none
def shpC(T:Tab):Nat->TypeId->Option (List Shp)
 | 0,_=>none
 | f+1,t=>match T t with
  | some ⟨s,_,.bool,_⟩=>lenIs s (some [.bool])
  | some ⟨s,_,.int k,_⟩=>lenIs s (some [.int k])
  | some ⟨s,_,.str,_⟩=>lenIs s (some [.str])
  | some ⟨s,_,.slice e,_⟩=>lenIs s (match shpC T f e with|some l=>some [.slice e l]|none=>none)
  | some ⟨s,_,.struct fs,_⟩=>lenIs s (shpFs (shpC T f) 0 fs)
  | _=>none
mutual
/-- A cell of such a type; lists and texts of at most B. -/
def TyS (B : Nat) : Shp → D → Prop
  | .bool, d => ∃ p, d = .b p
  | .int k, d => ∃ n, d = .i k n ∧ (Lit.int k n).wf = true
  | .str, d => ∃ l, d = .s l ∧ l.length ≤ B
  | .slice e l, d => ∃ rows room, d = .lst e rows room ∧ rows.length + room.length ≤ B ∧ ∀ r, r ∈ rows ++ room → TySs B l r
/-- .. a row of cells. -/
def TySs (B : Nat) : List Shp → List D → Prop
  | [], [] => True
  | s :: ss, d :: ds => TyS B s d ∧ TySs B ss ds
  | [], _ :: _ => False
  | _ :: _, [] => False
end
def TyA(T:Tab)(B:Nat)(t:TypeId)(l:List Shp)(x:D):Prop:=
 match T t with
 | some ⟨_,_,.struct _,_⟩=>∃ row,x = .agg row/\TySs B l row
 | _=>TySs B l [x]
theorem TySs.append{B:Nat}:∀ {ts us:List Shp} {ds es:List D},TySs B ts ds->TySs B us es->TySs B (ts++us) (ds++es)
 | [],_,[],_,_,h=>h
 | _ :: _,_,_ :: _,_,h,h'=>by
  simp only[TySs,List.cons_append] at h ⊢
  exact⟨h.1,TySs.append h.2 h'⟩
 | [],_,_ :: _,_,h,_=>by simp[TySs] at h
 | _ :: _,_,[],_,h,_=>by simp[TySs] at h
theorem lenIs_some{s:Nat}{o:Option (List Shp)}{l:List Shp}(h:lenIs s o=some l):o=some l/\s=l.length:=by
 unfold lenIs at h
 split at h
 . split at h
   . rename_i hb
     cases h
     exact⟨rfl,Nat.eq_of_beq_eq_true hb⟩
   . cases h
 . cases h
theorem shpC_len{T:Tab}{f:Nat}{t:TypeId}{l:List Shp}(h:shpC T f t=some l):szOf T t=l.length/\∃ ti,T t=some ti:=by
 cases f with
 | zero=>simp[shpC] at h
 | succ f=>
  simp only[shpC] at h
  split at h
  all_goals first
   | (cases h)
   | (rename_i ht;have:=lenIs_some h;rw[szOf_eq ht];exact⟨this.2,_,ht⟩)
section
variable {H : Type} {enc : TypeId × Value → H} {P : Program} {T : Tab} {w : World} {held : Bool}
theorem bulk_mem{d:DataW H}:∀ {l:List (DataW H)},d ∈ l->Rows.uptoBulk d<=Rows.uptoBulkAll l
 | [],h=>by cases h
 | x :: r,h=>by
  simp only[Rows.uptoBulkAll]
  rcases List.mem_cons.1 h with rfl|h
  . omega
  . have:=bulk_mem h;omega
theorem bulk_one(d:DataW H):1<=Rows.uptoBulk d:=by
 cases d with
 | lit l=>cases l<;>simp[Rows.uptoBulk]
 | _=>simp[Rows.uptoBulk]
theorem bulk_length:∀ (l:List (DataW H)),l.length<=Rows.uptoBulkAll l
 | []=>by simp[Rows.uptoBulkAll]
 | x :: r=>by have:=bulk_one x;have:=bulk_length r;simp only[Rows.uptoBulkAll,List.length_cons];omega
def CellsR(T:Tab)(w:World)(cs:List Value)(row:List D):Prop:=
 cs.length=row.length/\∀ (j:Nat) v d,cs[j]? = some v->row[j]? = some d->RI (szOf T) (heapV w) v d/\v.oneCell'=true
theorem CellsR.append{cs cs':List Value}{row row':List D}(h:CellsR T w cs row)(h':CellsR T w cs' row'):CellsR T w (cs++cs') (row++row'):=by
 refine⟨by simp[h.1,h'.1],fun j v d h1 h2=>?_⟩
 by_cases hj:j<cs.length
 . rw[List.getElem?_append_left hj] at h1
   rw[List.getElem?_append_left (by rw[<- h.1];exact hj)] at h2
   exact h.2 j v d h1 h2
 . rw[List.getElem?_append_right (by omega)] at h1
   rw[List.getElem?_append_right (by rw[<- h.1];omega),<- h.1] at h2
   exact h'.2 _ v d h1 h2
theorem CellsR.one{v:Value}{d:D}(h:RI (szOf T) (heapV w) v d)(h1:v.oneCell'=true):CellsR T w [v] [d]:=by
 refine⟨rfl,fun j v' d' h2 h3=>?_⟩
 cases j with
 | zero=>simp at h2 h3;subst h2 h3;exact⟨h,h1⟩
 | succ j=>simp at h2
theorem cells_of(hT:TOk P T){t:TypeId}(h:∃ ti,T t=some ti):szOf T t=P.cellsOf t:=by
 obtain⟨ti,ht⟩:=h
 obtain⟨i,z,h1,h2,_⟩:=(hT t ti ht).info
 rw[szOf_eq ht]
 simp[Program.cellsOf,h1,h2]
theorem fields_ri{f B:Nat}{k:Nat}(ih:∀ t cs x l,shpC T f t=some l->(B=maxLen\/Rows.uptoBulk x.1<=B)->DataW.trod enc P w 0 (fun _=>true) held k t cs=some x->∃ row,TySs B l row/\CellsR T w cs row)
    (hT:TOk P T)(cs:List Value) :
    ∀ (fs:List (Nat × TypeId)) (o:Nat) (xs:List (DataW H × List MemPlace)) (l:List Shp),shpFs (shpC T f) o fs=some l ->
     (B=maxLen\/Rows.uptoBulkAll (xs.map (·.1))<=B)->xs.length=fs.length ->
     (∀ (i:Nat) p,fs[i]? = some p->DataW.trod enc P w 0 (fun _=>true) held k p.2 ((cs.drop p.1).take (P.cellsOf p.2))=xs[i]?) ->
     cs.length=o+l.length->∃ row,TySs B l row/\CellsR T w (cs.drop o) row
 | [],o,xs,l,h1,_,_,_,hl=>⟨[],by simp[shpFs] at h1;subst h1;simp[TySs],by
     simp[shpFs] at h1
     subst h1
     have:cs.drop o=[]:=List.drop_of_length_le (by rw[hl];simp)
     rw[this]
     exact⟨rfl,fun j v d h=>by simp at h⟩⟩
 | (o',t) :: r,o,xs,l,h1,hB,hxl,hx,hl=>by
  simp only[shpFs] at h1
  split at h1
  case h_2=>cases h1
  rename_i l0 hb ht
  split at h1
  case h_2=>cases h1
  rename_i m hm
  cases h1
  have ho:o'=o:=Nat.eq_of_beq_eq_true hb
  obtain⟨hs,hti⟩:=shpC_len ht
  subst ho
  cases xs with
  | nil=>simp at hxl
  | cons x0 xs=>
   have h0:=hx 0 _ rfl
   simp only[List.getElem?_cons_zero] at h0
   have hb0:B=maxLen\/Rows.uptoBulk x0.1<=B:=by
    rcases hB with hB|hB
    . exact .inl hB
    . right;simp only[List.map_cons,Rows.uptoBulkAll] at hB;omega
   have hb1:B=maxLen\/Rows.uptoBulkAll (xs.map (·.1))<=B:=by
    rcases hB with hB|hB
    . exact .inl hB
    . right;simp only[List.map_cons,Rows.uptoBulkAll] at hB;omega
   simp only[List.length_append] at hl
   obtain⟨row0,a0,r0⟩:=ih _ _ _ _ ht hb0 h0
   obtain⟨row1,a1,r1⟩:=fields_ri ih hT cs r (o' + l0.length) xs m hm hb1 (by simpa using hxl) (fun i p hp=>by
    have:=hx (i+1) p (by simpa using hp)
    simpa using this) (by omega)
   refine⟨row0++row1,a0.append a1,?_⟩
   have hc:cs.drop o'=(cs.drop o').take (P.cellsOf t)++cs.drop (o' + l0.length):=by
    rw[<- cells_of hT hti,hs,<- List.drop_drop,List.take_append_drop]
   rw[hc]
   exact r0.append r1
theorem trod_ri(hT:TOk P T)(B:Nat)(hBm:B<=maxLen):∀ (f k:Nat) (t:TypeId) (cs:List Value) (x:DataW H × List MemPlace) (l:List Shp),shpC T f t=some l->(B=maxLen\/Rows.uptoBulk x.1<=B) ->
    DataW.trod enc P w 0 (fun _=>true) held k t cs=some x->∃ row,TySs B l row/\CellsR T w cs row
 | 0,_,_,_,_,_,h,_,_=>by simp[shpC] at h
 | f+1,k,t,cs,x,l,hok,hB,h=>by
  cases ht:T t with
  | none=>simp[shpC,ht] at hok
  | some ti=>
   obtain⟨s,b,kd,z⟩:=ti
   have hG:=(hT t _ ht).kind
   cases kd with
   | bool=>
    obtain⟨v,rfl,rfl⟩:=DataW.trod_bool hG h
    simp only[shpC,ht] at hok
    obtain⟨hok,_⟩:=lenIs_some hok
    cases hok
    refine⟨[.b (v=true)],?_,.one (.b _ _ Iff.rfl) rfl⟩
    simp only[TySs,TyS,and_true]
    exact⟨_,rfl⟩
   | int kk=>
    obtain⟨n,rfl,rfl,hw⟩:=DataW.trod_int hG h
    simp only[shpC,ht] at hok
    obtain⟨hok,_⟩:=lenIs_some hok
    cases hok
    refine⟨[.i kk n],?_,.one (.i _ _) rfl⟩
    simp[TySs,TyS,hw]
   | str=>
    obtain⟨v,rfl,rfl,hl⟩:=DataW.trod_string hG h
    simp only[shpC,ht] at hok
    obtain⟨hok,_⟩:=lenIs_some hok
    cases hok
    refine⟨[.s v.data.toList],?_,.one (by have:=RI.s (sz:=szOf T) (V:=heapV w) v.data.toList;rwa [bstr_data] at this) rfl⟩
    simp only[TySs,TyS,and_true]
    refine⟨_,rfl,?_⟩
    have hl':v.data.toList.length<=maxLen:=by rw[Array.length_toList];exact hl
    rcases hB with rfl|hB
    . exact hl'
    . simp only[Rows.uptoBulk] at hB;omega
   | slice e=>
    simp only[shpC,ht] at hok
    obtain⟨hok,_⟩:=lenIs_some hok
    split at hok
    case h_2=>cases hok
    rename_i le hle
    cases hok
    obtain⟨hse,hti⟩:=shpC_len hle
    have hce:=cells_of hT hti
    rcases Go.Deep.open_slice hG h with⟨rfl,rfl⟩|⟨a,len,cap,m,n,Df,Pl,rfl,_,hlc,hcm,hm,rfl,hx⟩
    . refine⟨[.lst e [] []],?_,.one (RI.lst e [] [] none ⟨0,0,none⟩ 0 (fun _ _=>undef) (by simp) (by unfold maxLen;omega) (by simp) (by simp) (by simp) (by simp) (by simp)) rfl⟩
      simp only[TySs,TyS,and_true]
      exact⟨[],[],rfl,Nat.zero_le _,fun r hr=>by cases hr⟩
    . simp only[if_true] at hm
      subst hm
      have hbi:∀ i,i<m->(B=maxLen\/Rows.uptoBulk (Df i)<=B):=by
       intro i hi
       rcases hB with hB|hB
       . exact .inl hB
       . right
         simp only[Rows.uptoBulk] at hB
         by_cases hil:i<len
         . have:=bulk_mem (d:=Df i) (l:=(List.range len).map Df) (List.mem_map.2 ⟨i,by simpa using hil,rfl⟩)
           omega
         . have:=bulk_mem (d:=Df i) (l:=(List.range (m - len)).map fun j=>Df (len+j)) (List.mem_map.2 ⟨i - len,by simp;omega,by rw[show len+(i - len)=i by omega]⟩)
           omega
      have hmB:m<=B:=by
       rcases hB with rfl|hB
       . exact hcm
       . simp only[Rows.uptoBulk] at hB
         have h1:=bulk_length ((List.range len).map Df)
         have h2:=bulk_length ((List.range (m - len)).map fun j=>Df (len+j))
         simp at h1 h2
         omega
      have key:∀ i,i<m->∃ p:List Value × List D,w.cells? 0 (a.add (i*szOf T e)) (szOf T e)=some p.1/\TySs B le p.2/\CellsR T w p.1 p.2:=by
       intro i hi
       obtain⟨cs',h1,h2⟩:=hx i hi
       obtain⟨row,h3,h4⟩:=trod_ri hT B hBm f n e cs' _ le hle (hbi i hi) h2
       exact⟨(cs',row),by rw[hce];exact h1,h3,h4⟩
      obtain⟨g,hg⟩:=Go.Deep.choose_lt key
      have hat:∀ (i:Nat) row,(((List.range len).map fun i=>(g i).2)++((List.range (m - len)).map fun j=>(g (len+j)).2))[i]? = some row->i<m/\row=(g i).2:=by
       intro i row hr
       by_cases hil:i<len
       . rw[List.getElem?_append_left (by simpa using hil)] at hr
         simp[hil] at hr
         exact⟨by omega,hr.symm⟩
       . rw[List.getElem?_append_right (by simp;omega)] at hr
         simp only[List.length_map,List.length_range,List.getElem?_map,Option.map_eq_some_iff] at hr
         obtain⟨j,hj,rfl⟩:=hr
         have hj2:=List.getElem?_eq_some_iff.1 hj
         obtain⟨hj3,hj4⟩:=hj2
         simp at hj3 hj4
         refine⟨by omega,by rw[<- hj4,show len+(i - len)=i by omega]⟩
      have hcell:∀ i,i<m->(g i).1.length=szOf T e/\∀ j,j<szOf T e->w.cell? ((a.add (i*szOf T e)).add j)=(g i).1[j]?:=by
       intro i hi
       obtain⟨_,h2,h3⟩:=World.cells?_some (hg i hi).1
       exact⟨h2,h3⟩
      refine⟨[.lst e ((List.range len).map fun i=>(g i).2) ((List.range (m - len)).map fun j=>(g (len+j)).2)],?_,.one ?_ rfl⟩
      . simp only[TySs,TyS,and_true]
        refine⟨_,_,rfl,by simp;omega,fun r hr=>?_⟩
        obtain⟨i,hi⟩:=List.getElem?_of_mem hr
        obtain⟨h1,rfl⟩:=hat i r hi
        exact (hg i h1).2.1
      . have hres:=RI.lst (sz:=szOf T) (V:=heapV w) e ((List.range len).map fun i=>(g i).2) ((List.range (m - len)).map fun j=>(g (len+j)).2) (some a) a m (fun i j=>(g i).1.getD j undef)
          (by simp;omega) hcm (fun _=>rfl) (fun hno=>by cases hno)
          (fun i row hr=>by
           obtain⟨h1,rfl⟩:=hat i row hr
           rw[<- (hg i h1).2.2.1,(hcell i h1).1])
          (fun i row j d hr hd=>by
           obtain⟨h1,rfl⟩:=hat i row hr
           have hj:j<(g i).1.length:=by rw[(hg i h1).2.2.1];exact (List.getElem?_eq_some_iff.1 hd).1
           have h2:=(hcell i h1).2 j (by rw[<- (hcell i h1).1];exact hj)
           have hv:(g i).1[j]? = some ((g i).1.getD j undef):=by simp[List.getD,List.getElem?_eq_getElem hj]
           refine⟨?_,((hg i h1).2.2.2 j _ d hv hd).2⟩
           show w.cell? _=_
           rw[<- add_add,h2,hv])
          (fun i row j d hr hd=>by
           obtain⟨h1,rfl⟩:=hat i row hr
           have hj:j<(g i).1.length:=by rw[(hg i h1).2.2.1];exact (List.getElem?_eq_some_iff.1 hd).1
           have hv:(g i).1[j]? = some ((g i).1.getD j undef):=by simp[List.getD,List.getElem?_eq_getElem hj]
           exact ((hg i h1).2.2.2 j _ d hv hd).1)
        simpa using hres
   | struct fs=>
    simp only[shpC,ht] at hok
    obtain⟨hok,hs⟩:=lenIs_some hok
    obtain⟨fa,hu,hfa⟩:=hG
    obtain⟨xs,n,_,rfl,hl,hxl,hx⟩:=DataW.trod_struct hu h
    have hc:P.cellsOf t=s:=by
     obtain⟨i,z',h1,h2,_⟩:=(hT t _ ht).info
     simp[Program.cellsOf,h1,h2]
    have hfl:fs.length=fa.size:=by rw[<- hfa];simp
    obtain⟨row,h1,h2⟩:=fields_ri (fun t cs x l a b c=>trod_ri hT B hBm f n t cs x l a b c) hT cs fs 0 xs l hok (by
        rcases hB with hB|hB
        . exact .inl hB
        . right;simp only[Rows.uptoBulk] at hB;omega) (by rw[hxl,hfl]) (fun i p hp=>by
        rw[<- hfa] at hp
        simp only[List.getElem?_map,Option.map_eq_some_iff] at hp
        obtain⟨fd,h3,rfl⟩:=hp
        exact hx i fd (by simpa using h3)) (by rw[hl,hc,hs,Nat.zero_add])
    exact⟨row,h1,by simpa using h2⟩
   | array n e=>simp[shpC,ht] at hok
   | ptr e=>simp[shpC,ht] at hok
   | other=>simp[shpC,ht] at hok
end
end Go.Vx
namespace Go.Vx
open Go.RowKit Go.ChangeShapes Go.WideShapes
open Go.Proofs.YtaiondckookpiaaGreatDoor (Rows.uptoBulk Rows.uptoBulkAll)
def shapes(T:Tab)(f:Nat):List TypeId->Option (List (List Shp))
 | []=>some []
 | t :: ts=>match shpC T f t,shapes T f ts with|some l,some r=>some (l :: r)|_,_=>none
def TyAs(T:Tab)(B:Nat):List TypeId->List (List Shp)->List D->Prop
 | [],[],[]=>True
 | t :: ts,l :: ls,x :: xs=>TyA T B t l x/\TyAs T B ts ls xs
 | _,_,_=>False
section
variable {H : Type} {enc : TypeId × Value → H} {P : Program} {T : Tab} {w : World}
theorem arg_ri(hT:TOk P T){B:Nat}(hBm:B<=maxLen){f base:Nat}{r:Reach}{t:TypeId}{v:Value}{d:DataW H}{ps:List MemPlace}{l:List Shp}(hs:shpC T f t=some l)(hB:B=maxLen\/Rows.uptoBulk d<=B)
    (hv:Value.okWide P w r base t v)(h:DataW.Trod enc P w 0 (fun _=>true) true t v d ps):∃ x,TyA T B t l x/\RI (szOf T) (heapV w) v x:=by
 obtain⟨k,hk⟩:=h
 obtain⟨row,h1,h2⟩:=trod_ri hT B hBm f k t _ _ l hs hB hk
 obtain⟨hz,ti,ht⟩:=shpC_len hs
 obtain⟨s,b,kd,z⟩:=ti
 have hG:=(hT t _ ht).kind
 have one:∀ u,v=u->u.cells=#[u]->TyA T B t l=(fun x=>TySs B l [x])->∃ x,TyA T B t l x/\RI (szOf T) (heapV w) v x:=by
  rintro u rfl hu he
  rw[hu] at h2
  obtain⟨h3,h4⟩:=h2
  match row,h3 with
  | [x],_=>exact⟨x,by rw[he];exact h1,(h4 0 v x rfl rfl).1⟩
 cases kd with
 | bool=>obtain⟨u,rfl⟩:=okWide_bool hG hv;exact one _ rfl rfl (by funext x;simp[TyA,ht])
 | int kk=>obtain⟨u,rfl⟩:=okWide_int hG hv;exact one _ rfl rfl (by funext x;simp[TyA,ht])
 | str=>obtain⟨u,rfl⟩:=okWide_string hG hv;exact one _ rfl rfl (by funext x;simp[TyA,ht])
 | slice e=>obtain⟨a,m,n,rfl⟩:=okWide_slice hG hv;exact one _ rfl rfl (by funext x;simp[TyA,ht])
 | struct fs=>
  obtain⟨fa,hu,_⟩:=hG
  obtain⟨cs,rfl,_⟩:=okWide_struct hu hv
  refine⟨.agg row,by simp only[TyA,ht];exact⟨row,rfl,h1⟩,?_⟩
  simp only[Value.cells] at h2
  refine RI.agg row cs (by simpa using h2.1) (fun u hu=>?_) (fun j u d a b=>(h2.2 j u d (by simpa using a) b).1)
  obtain⟨j,hj⟩:=List.getElem?_of_mem hu
  have hl:j<row.length:=by rw[<- h2.1];exact (List.getElem?_eq_some_iff.1 hj).1
  exact (h2.2 j u _ hj (List.getElem?_eq_getElem hl)).2
 | array n e=>cases f with|zero=>simp[shpC] at hs|succ f=>simp[shpC,ht] at hs
 | ptr e=>cases f with|zero=>simp[shpC] at hs|succ f=>simp[shpC,ht] at hs
 | other=>cases f with|zero=>simp[shpC] at hs|succ f=>simp[shpC,ht] at hs
theorem args_ri(hT:TOk P T){B:Nat}(hBm:B<=maxLen){f base:Nat}{r:Reach}:∀ (ts:List TypeId) (ls:List (List Shp)) (vs:List Value) (ds:List (DataW H)) (ps:List MemPlace),shapes T f ts=some ls ->
    (B=maxLen\/Rows.uptoBulkAll ds<=B)->(∀ (j:Nat) t v,ts[j]? = some t->vs[j]? = some v->Value.okWide P w r base t v)->DataW.TrodAll enc P w 0 (fun _=>true) true ts vs ds ps ->
    ∃ xs,TyAs T B ts ls xs/\vs.length=xs.length/\∀ (j:Nat) v x,vs[j]? = some v->xs[j]? = some x->RI (szOf T) (heapV w) v x
 | [],ls,vs,ds,ps,hs,_,_,h=>by
  obtain⟨rfl,rfl,rfl⟩:=trodAll_nil h
  cases hs
  exact⟨[],trivial,rfl,fun j v x h=>by simp at h⟩
 | t :: ts,ls,vs,ds,ps,hs,hB,hv,h=>by
  obtain⟨v,vs',d,ds',p,q,rfl,rfl,rfl,h1,h2⟩:=trodAll_cons h
  simp only[shapes] at hs
  split at hs
  case h_2=>cases hs
  rename_i l r h3 h4
  cases hs
  obtain⟨x,hx1,hx2⟩:=arg_ri hT hBm h3 (by
   rcases hB with hB|hB
   . exact .inl hB
   . right;simp only[Rows.uptoBulkAll] at hB;omega) (hv 0 t v rfl rfl) h1
  obtain⟨xs,hy1,hy2,hy3⟩:=args_ri hT hBm ts r vs' ds' q h4 (by
   rcases hB with hB|hB
   . exact .inl hB
   . right;simp only[Rows.uptoBulkAll] at hB;omega) (fun j t' v' a b=>hv (j+1) t' v' (by simpa using a) (by simpa using b)) h2
  refine⟨x :: xs,⟨hx1,hy1⟩,by simp[hy2],fun j v' x' a b=>?_⟩
  cases j with
  | zero=>simp at a b;subst a b;exact hx2
  | succ j=>exact hy3 j v' x' (by simpa using a) (by simpa using b)
theorem stays(hl:laidOutB P=true){W W':World}(hb:Below W.heap.size W W'){sp:Nat->Bool}:∀ (ts:List TypeId) (vs:List Value) (ds:List (DataW H)) (ps:List MemPlace),(∀ t ∈ ts,P.readableRec t=true/\t<P.types.size) ->
    (∀ p ∈ ps,p.block<W.heap.size)->(∀ p ∈ ps,sp p.block=true)->DataW.TrodAll enc P W 0 (fun _=>true) true ts vs ds ps->DataW.TrodAll enc P W' 0 sp true ts vs ds ps
 | [],vs,ds,ps,_,_,_,h=>by
  obtain⟨rfl,rfl,rfl⟩:=trodAll_nil h
  exact trodAll_mk0
 | t :: ts,vs,ds,ps,ht,h1,h2,h=>by
  obtain⟨v,vs',d,ds',p,q,rfl,rfl,rfl,h3,h4⟩:=trodAll_cons h
  refine⟨p,q,WideElems.Trod_stays hl (ht t (by simp)).1 (ht t (by simp)).2 h3 (fun x hx=>hb.same (h1 x (by simp[hx]))) (fun x hx=>h2 x (by simp[hx])),
   stays hl hb ts vs' ds' q (fun t' hm=>ht t' (by simp[hm])) (fun x hx=>h1 x (by simp[hx])) (fun x hx=>h2 x (by simp[hx])) h4,rfl⟩
theorem trod_len:∀ {ts:List TypeId} {vs:List Value} {ds:List (DataW H)} {ps:List MemPlace},DataW.TrodAll enc P w 0 (fun _=>true) true ts vs ds ps->ds.length=ts.length
 | [],_,_,_,h=>by obtain⟨rfl,rfl,rfl⟩:=trodAll_nil h;rfl
 | _ :: _,_,_,_,h=>by
  obtain⟨v,vs',d,ds',p,q,rfl,rfl,rfl,_,h4⟩:=trodAll_cons h
  simp[trod_len h4]
theorem law_calls(hT:TOk P T){B:Nat}(hBm:B<=maxLen){f:FuncId}{fn:Func}{s:ChangeSpec}{ls:List (List Shp)}{n:Nat}{tb:TypeId}{ts:List TypeId}(hp:fn.params.toList=ts)(hr:fn.resultTypes=#[tb])(htb:P.underlying tb=some .bool)
    (hsv:s.vars=[])(hs:∀ (ds:List (DataW H)),ds.length=ts.length->s.fn H ds={ results:=[.lit (.bool true)],args:=ds })
    (hl:laidOutB P=true)(hts:∀ t ∈ ts,P.readableRec t=true/\t<P.types.size)(hsh:shapes T n ts=some ls)
    (hlaw:∀ xs,TyAs T B ts ls xs->FSpec P T f xs (fun d _=>d = .b True))
    (W:World)(base:Nat)(args:Array Value)(ds gs:List (DataW H))(before:List MemPlace)
    (hval:∀ (j:Nat) t v,fn.params[j]? = some t->args[j]? = some v->Value.okWide P W .any base t v)
    (hW:DataW.Whole enc P fn.params.toList s.vars false W args.toList ds gs before)(hB:B=maxLen\/Rows.uptoBulkAll (ds++gs)<=B)
    (hgl:GlOk W:=by exact⟨by intro p v hp;unfold glV glD at hp;split at hp<;>(cases hp),by intro g cs hg;unfold glD at hg;split at hg<;>(cases hg)⟩) :
    Calls P f args W fun e W'=>∃ v,e = .returned v/\s.post enc P fn false true false false W args v W':=by
 have hlt:=hW.lt
 obtain⟨p,q,hA,hV,rfl,hfz,hnd⟩:=id hW
 rw[hsv] at hV
 obtain⟨rfl,rfl⟩:=trodVars_none hV
 simp only[List.append_nil] at hlt hB hfz
 rw[hp] at hA
 obtain⟨xs,h1,h2,h3⟩:=args_ri hT hBm ts ls args.toList ds p hsh hB (fun j t v a b=>hval j t v (by rw[<- hp] at a;simpa using a) (by simpa using b)) hA
 have hdl:ds.length=ts.length:=trod_len hA
 refine ((hlaw xs h1).run (heapV W) W args ⟨hgl,fun _ _ h=>h⟩ (by simpa using h2) (fun j v d a b=>h3 j v d (by simpa using a) b)).mono fun e W' hx=>?_
 obtain⟨V',ω,row,v,d,rfl,hd,hRS,hres⟩:=hx
 subst hd
 obtain⟨b,rfl,hbt⟩:=hRS.bool
 have hbt:b=true:=hbt.2 trivial
 subst hbt
 refine⟨_,rfl,?_⟩
 have hb:=hres.below
 have hargs:∀ sp:Nat->Bool,(∀ x ∈ p,sp x.block=true)->DataW.TrodAll enc P W' 0 sp true fn.params.toList args.toList ds p:=fun sp hsp=>by
  rw[hp];exact stays hl hb ts args.toList ds p hts hlt hsp hA
 have hrs:∀ (b:Nat) (sp:Nat->Bool) (hd:Bool),DataW.TrodAll enc P W' b sp hd fn.resultTypes.toList ((Value.bool true).resultList fn.resultTypes.size) [.lit (.bool true)] []:=fun b sp hd=>by
  rw[hr]
  exact trodAll_mk1 (shut_bool htb _)
 have hsf:=hs ds hdl
 refine⟨ds,[],p,[],p,[],by simpa using hW,?_,?_,?_,?_,?_⟩
 . rw[List.append_nil,hsf];exact hrs _ _ _
 . rw[List.append_nil,hsf];exact hargs _ fun x hx=>by simpa using hlt x hx
 . rw[hsv,List.append_nil,hsf];exact rfl
 . exact World.keptBut_mono (fun x hx=>⟨hx,by simpa using hx⟩) (hb.frame (· ∈ p))
 . intro _
   refine⟨?_,?_⟩
   . exact ok_one hr rfl (okWide_bool_mk htb _)
   . refine⟨_,[],([]++p)++[],⟨[]++p,[],trodAll_append (hargs _ (fun _ _=>rfl)) (hrs 0 _ _),?_,rfl,?_,fun h=>by cases h⟩,fun x hx _=>by simpa using hx⟩
     . rw[hsv];rfl
     . intro b off hx
       have hin:MemPlace.cell b off ∈ p:=by simpa using hx
       rw[hb.frozen (hlt _ hin)]
       exact hfz b off hin
end
end Go.Vx
namespace Go.Vx
open Go.RowKit
theorem ss_cons{B:Nat}{s:Shp}{ss:List Shp}{r:List D}(h:TySs B (s :: ss) r):∃ d ds,r=d :: ds/\TySs B [s] [d]/\TySs B ss ds:=by
 cases r with
 | nil=>simp[TySs] at h
 | cons d ds=>simp only[TySs] at h;exact⟨d,ds,rfl,by simpa only[TySs,and_true] using h.1,h.2⟩
theorem ss_nil{B:Nat}{r:List D}(h:TySs B [] r):r=[]:=by
 cases r with
 | nil=>rfl
 | cons d ds=>simp[TySs] at h
theorem as_cons{T:Tab}{B:Nat}{t:TypeId}{ts:List TypeId}{l:List Shp}{ls:List (List Shp)}{xs:List D}(h:TyAs T B (t :: ts) (l :: ls) xs):∃ x r,xs=x :: r/\TyA T B t l x/\TyAs T B ts ls r:=by
 cases xs with
 | nil=>exact h.elim
 | cons x r=>exact⟨x,r,rfl,h.1,h.2⟩
theorem as_nil{T:Tab}{B:Nat}{xs:List D}(h:TyAs T B [] [] xs):xs=[]:=by
 cases xs with
 | nil=>rfl
 | cons x r=>exact h.elim
def isSt:Option TI->Bool|some ⟨_,_,.struct _,_⟩=>true|_=>false
theorem leaf{T:Tab}{B:Nat}{t:TypeId}{l:List Shp}{x:D}(h:TyA T B t l x)(ht:isSt (T t)=false):TySs B l [x]:=by
 unfold TyA at h
 split at h
 . rename_i h1;rw[h1] at ht;cases ht
 . exact h
theorem list_of{α:Type}{f:α->List D}{p:α->Prop}:∀ {rows:List (List D)},(∀ r ∈ rows,∃ a,r=f a/\p a)->∃ l:List α,rows=l.map f/\∀ a ∈ l,p a
 | [],_=>⟨[],rfl,by simp⟩
 | r :: rows,h=>by
  obtain⟨a,rfl,ha⟩:=h r (by simp)
  obtain⟨l,rfl,hl⟩:=list_of (rows:=rows) fun r hr=>h r (by simp[hr])
  exact⟨a :: l,rfl,by simpa using ⟨ha,hl⟩⟩
theorem lst_of{B:Nat}{α:Type}{f:α->List D}{p:α->Prop}{e:TypeId}{l:List Shp}{x:D}(h:TySs B [.slice e l] [x])(hf:∀ r,TySs B l r->∃ a,r=f a/\p a) :
    ∃ (us:List α) (room:List α),x = .lst e (us.map f) (room.map f)/\us.length+room.length<=B/\(∀ a ∈ us,p a)/\∀ a ∈ room,p a:=by
 simp only[TySs,TyS,and_true] at h
 obtain⟨rows,room,rfl,hl,hr⟩:=h
 obtain⟨us,rfl,h1⟩:=list_of (f:=f) (p:=p) (rows:=rows) fun r h=>hf r (hr r (by simp[h]))
 obtain⟨bs,rfl,h2⟩:=list_of (f:=f) (p:=p) (rows:=room) fun r h=>hf r (hr r (by simp[h]))
 exact⟨us,bs,rfl,by simpa using hl,h1,h2⟩
theorem int_of{B:Nat}{k:IntKind}{x:D}(h:TySs B [.int k] [x]):∃ n,x = .i k n/\(Lit.int k n).wf=true:=by
 simpa only[TySs,TyS,and_true] using h
theorem str_of{B:Nat}{x:D}(h:TySs B [.str] [x]):∃ l,x = .s l/\l.length<=B:=by
 simpa only[TySs,TyS,and_true] using h
end Go.Vx
namespace Go.Proofs.YtaiondckookpiaaGreatDoor
open Go
abbrev Str:=List UInt8
def meet1(a b:UInt8):Option UInt8:=if a=120 then some b else if b=120\/b=a then some a else none
def meetL:Str->Str->Option Str
 | [],[]=>some []
 | a :: c,b :: d=>match meet1 a b,meetL c d with
  | some x,some r=>some (x :: r)
  | _,_=>none
 | _,_=>none
def meetT(c d:Str):Option Str:=if c=[] then none else meetL c d
def inL:Str->Str->Prop
 | [],[]=>True
 | a :: c,b :: d=>(b=120\/b=a)/\inL c d
 | _,_=>False
def inT(c d:Str):Prop:=c ≠ []/\inL c d
theorem inL_refl:∀ c:Str,inL c c
 | []=>trivial
 | _ :: c=>⟨.inr rfl,inL_refl c⟩
theorem inL_trans:∀ {c d e:Str},inL c d->inL d e->inL c e
 | [],[],[],_,_=>trivial
 | [],[],_ :: _,_,h=>h.elim
 | [],_ :: _,_,h,_=>h.elim
 | _ :: _,[],_,h,_=>h.elim
 | _ :: _,_ :: _,[],_,h=>h.elim
 | a :: c,b :: d,x :: e,h,k=>⟨by
     rcases k.1 with k1|k1
     . exact .inl k1
     . rcases h.1 with h1|h1
       . exact .inl (by rw[k1,h1])
       . exact .inr (by rw[k1,h1]),inL_trans h.2 k.2⟩
theorem inL_antisymm:∀ {c d:Str},inL c d->inL d c->c=d
 | [],[],_,_=>rfl
 | [],_ :: _,h,_=>h.elim
 | _ :: _,[],h,_=>h.elim
 | a :: c,b :: d,h,k=>by
  rw[inL_antisymm h.2 k.2]
  rcases h.1 with h1|h1
  . rcases k.1 with k1|k1
    . rw[h1,k1]
    . rw[k1]
  . rw[h1]
theorem inL_len:∀ {c d:Str},inL c d->c.length=d.length
 | [],[],_=>rfl
 | [],_ :: _,h=>h.elim
 | _ :: _,[],h=>h.elim
 | _ :: _,_ :: _,h=>by simp[inL_len h.2]
theorem meetL_len:∀ {c d m:Str},meetL c d=some m->c.length=m.length/\d.length=m.length
 | [],[],m,h=>by cases h;exact⟨rfl,rfl⟩
 | [],_ :: _,_,h=>by cases h
 | _ :: _,[],_,h=>by cases h
 | a :: c,b :: d,m,h=>by
  unfold meetL at h
  cases h1:meet1 a b with
  | none=>rw[h1] at h;cases h
  | some x=>cases h2:meetL c d with
   | none=>rw[h1,h2] at h;cases h
   | some r=>
    rw[h1,h2] at h
    cases h
    have:=meetL_len h2
    simp[this.1,this.2]
theorem meetL_in:∀ {c d m:Str},meetL c d=some m->inL m c/\inL m d
 | [],[],m,h=>by cases h;exact⟨trivial,trivial⟩
 | [],_ :: _,_,h=>by cases h
 | _ :: _,[],_,h=>by cases h
 | a :: c,b :: d,m,h=>by
  unfold meetL at h
  cases h1:meet1 a b with
  | none=>rw[h1] at h;cases h
  | some x=>cases h2:meetL c d with
   | none=>rw[h1,h2] at h;cases h
   | some r=>
    rw[h1,h2] at h
    cases h
    have ih:=meetL_in h2
    unfold meet1 at h1
    split at h1
    . rename_i ha;cases h1;exact⟨⟨.inl ha,ih.1⟩,⟨.inr rfl,ih.2⟩⟩
    . split at h1
      . rename_i hb
        cases h1
        exact⟨⟨.inr rfl,ih.1⟩,⟨hb,ih.2⟩⟩
      . cases h1
theorem meetL_glb:∀ {e c d:Str},inL e c->inL e d->∃ m,meetL c d=some m/\inL e m
 | [],[],[],_,_=>⟨[],rfl,trivial⟩
 | [],_ :: _,_,h,_=>h.elim
 | [],[],_ :: _,_,h=>h.elim
 | _ :: _,[],_,h,_=>h.elim
 | _ :: _,_ :: _,[],_,h=>h.elim
 | x :: e,a :: c,b :: d,h,k=>by
  obtain⟨m,hm,hi⟩:=meetL_glb h.2 k.2
  unfold meetL
  rw[hm]
  by_cases ha:a=120
  . exact⟨b :: m,by simp[meet1,ha],k.1,hi⟩
  . have hax:a=x:=h.1.resolve_left ha
    have hb:b=120\/b=a:=by rw[hax];exact k.1
    exact⟨a :: m,by simp[meet1,ha,hb],.inr hax,hi⟩
theorem meetL_self{c d:Str}:meetL c d=some c ↔ inL c d:=by
 constructor
 . intro h;exact (meetL_in h).2
 . intro h
   obtain⟨m,hm,hi⟩:=meetL_glb (inL_refl c) h
   rw[hm,inL_antisymm hi (meetL_in hm).1]
theorem inT_trans{c d e:Str}(h:inT c d)(k:inT d e):inT c e:=⟨h.1,inL_trans h.2 k.2⟩
open Classical in
noncomputable def addG{α:Type}(R:α->α->Prop)(k:List α)(x:α):List α:=if ∃ y ∈ k,R x y then k else k.filter (fun y=>decide (¬ R y x))++[x]
noncomputable def grG{α:Type}(R:α->α->Prop)(l:List α):List α:=l.foldl (addG R) []
structure Anti{α:Type}(R:α->α->Prop)(l k:List α):Prop where
 sub:∀ x ∈ k,x ∈ l
 anti:k.Pairwise fun x y=>¬ R x y/\¬ R y x
 cov:∀ x ∈ l,∃ y ∈ k,R x y
open Classical in
theorem grG_anti{α:Type}{R:α->α->Prop}(ht:∀ x y z,R x y->R y z->R x z)(l:List α)(hr:∀ x ∈ l,R x x):Anti R l (grG R l):=by
 have go:∀ (l k l0:List α),(∀ x ∈ l,R x x)->Anti R l0 k->Anti R (l0++l) (l.foldl (addG R) k):=by
  intro l
  induction l with
  | nil=>intro k l0 _ h;simpa using h
  | cons x l ih=>
   intro k l0 hr h
   have hx:Anti R (l0++[x]) (addG R k x):=by
    unfold addG
    split
    . rename_i hh
      exact⟨fun y hy=>by simp[h.sub y hy],h.anti,fun y hy=>by
       rcases List.mem_append.1 hy with hy|hy
       . exact h.cov y hy
       . simp at hy;subst hy;exact hh⟩
    . rename_i hh
      refine⟨fun y hy=>?_,?_,fun y hy=>?_⟩
      . rcases List.mem_append.1 hy with hy|hy
        . simp[h.sub y (List.mem_filter.1 hy).1]
        . simp at hy;simp[hy]
      . rw[List.pairwise_append]
        refine⟨h.anti.filter _,by simp,fun a ha b hb=>?_⟩
        simp at hb
        subst hb
        obtain⟨h1,h2⟩:=List.mem_filter.1 ha
        exact⟨by simpa using h2,fun h3=>hh ⟨a,h1,h3⟩⟩
      . rcases List.mem_append.1 hy with hy|hy
        . obtain⟨z,hz,hyz⟩:=h.cov y hy
          by_cases hzx:R z x
          . exact⟨x,by simp,ht _ _ _ hyz hzx⟩
          . exact⟨z,by simp[hz,hzx],hyz⟩
        . simp at hy;subst hy;exact⟨y,by simp,hr y (by simp)⟩
   have:=ih (addG R k x) (l0++[x]) (fun y hy=>hr y (by simp[hy])) hx
   simpa[List.append_assoc] using this
 show Anti R l (l.foldl (addG R) [])
 simpa using go l [] [] hr ⟨by simp,by simp,by simp⟩
theorem Anti.mem_iff{α:Type}{R:α->α->Prop}(ht:∀ x y z,R x y->R y z->R x z)(ha:∀ x y,R x y->R y x->x=y){l k k':List α}(h:Anti R l k)(h':Anti R l k')(x:α):x ∈ k->x ∈ k':=by
 intro hx
 obtain⟨y,hy,hxy⟩:=h'.cov x (h.sub x hx)
 obtain⟨z,hz,hyz⟩:=h.cov y (h'.sub y hy)
 have hxz:x=z:=by
  apply Classical.byContradiction
  intro hne
  have hR:=ht _ _ _ hxy hyz
  obtain⟨i,hi,rfl⟩:=List.getElem_of_mem hx
  obtain⟨j,hj,rfl⟩:=List.getElem_of_mem hz
  have hij:i ≠ j:=fun e=>hne (by subst e;rfl)
  rcases Nat.lt_or_gt_of_ne hij with hlt|hgt
  . exact (List.pairwise_iff_getElem.1 h.anti i j hi hj hlt).1 hR
  . exact (List.pairwise_iff_getElem.1 h.anti j i hj hi hgt).2 hR
 subst hxz
 rw[ha _ _ hxy hyz]
 exact hy
theorem Anti.nodup{α:Type}{R:α->α->Prop}(hr:∀ x,R x x){l k:List α}(h:Anti R l k):k.Nodup:=
 h.anti.imp fun {a b} hab e=>hab.1 (by rw[e];exact hr b)
theorem Anti.perm{α:Type}{R:α->α->Prop}(hr:∀ x,R x x)(ht:∀ x y z,R x y->R y z->R x z)(ha:∀ x y,R x y->R y x->x=y){l k k':List α}(h:Anti R l k)(h':Anti R l k'):k.Perm k':=
 (List.perm_ext_iff_of_nodup (h.nodup hr) (h'.nodup hr)).2 fun x=>⟨h.mem_iff ht ha h' x,h'.mem_iff ht ha h x⟩
theorem sorted_uniq{α:Type}{L:α->α->Prop}(hirr:∀ x,¬ L x x)(htr:∀ x y z,L x y->L y z->L x z){k k':List α}(hp:k.Perm k')(h:k.Pairwise L)(h':k'.Pairwise L):k=k':=
 hp.eq_of_pairwise (le:=L) (fun _ _ _ _ hab hba=>absurd (htr _ _ _ hab hba) (hirr _)) h h'
open Classical in
noncomputable def insG{α:Type}(L:α->α->Prop)(c:α):List α->List α
 | []=>[c]
 | x :: r=>if L c x then c :: x :: r else x :: insG L c r
open Classical in
noncomputable def putG{α:Type}(R L:α->α->Prop)(k:List α)(c:α):List α:=if ∃ y ∈ k,R c y then k else insG L c (k.filter fun x=>decide (¬ R x c))
theorem insG_perm{α:Type}(L:α->α->Prop)(c:α):∀ l:List α,(insG L c l).Perm (c :: l)
 | []=>.refl _
 | x :: r=>by
  unfold insG
  split
  . exact .refl _
  . exact ((insG_perm L c r).cons x).trans (.swap c x r)
theorem insG_sorted{α:Type}{L:α->α->Prop}(ht:∀ x y z,L x y->L y z->L x z)(c:α):∀ l:List α,(∀ x ∈ l,L c x\/L x c)->l.Pairwise L->(insG L c l).Pairwise L
 | [],_,_=>by simp[insG]
 | x :: r,hc,h=>by
  unfold insG
  have h2:=List.pairwise_cons.1 h
  split
  . rename_i hcx
    exact List.pairwise_cons.2 ⟨fun y hy=>by
     rcases List.mem_cons.1 hy with rfl|hy
     . exact hcx
     . exact ht _ _ _ hcx (h2.1 y hy),h⟩
  . rename_i hcx
    have hxc:L x c:=(hc x (by simp)).resolve_left hcx
    refine List.pairwise_cons.2 ⟨fun y hy=>?_,insG_sorted ht c r (fun y hy=>hc y (by simp[hy])) h2.2⟩
    rcases List.mem_cons.1 ((insG_perm L c r).mem_iff.1 hy) with rfl|hy
    . exact hxc
    . exact h2.1 y hy
open Classical in
theorem putG_fold{α:Type}{R L:α->α->Prop}(hr:∀ x,R x x)(ht:∀ x y z,R x y->R y z->R x z)(lt:∀ x y z,L x y->L y z->L x z)(tot:∀ x y,x ≠ y->L x y\/L y x)(l:List α) :
    Anti R l (l.foldl (putG R L) [])/\(l.foldl (putG R L) []).Pairwise L:=by
 have go:∀ (l k l0:List α),Anti R l0 k->k.Pairwise L->Anti R (l0++l) (l.foldl (putG R L) k)/\(l.foldl (putG R L) k).Pairwise L:=by
  intro l
  induction l with
  | nil=>intro k l0 h h2;exact⟨by simpa using h,h2⟩
  | cons x l ih=>
   intro k l0 h h2
   have hx:Anti R (l0++[x]) (putG R L k x)/\(putG R L k x).Pairwise L:=by
    unfold putG
    split
    . rename_i hh
      exact⟨⟨fun y hy=>by simp[h.sub y hy],h.anti,fun y hy=>by
       rcases List.mem_append.1 hy with hy|hy
       . exact h.cov y hy
       . simp at hy;subst hy;exact hh⟩,h2⟩
    . rename_i hh
      have hp:=insG_perm L x (k.filter fun y=>decide (¬ R y x))
      have hsub:∀ y ∈ k.filter (fun y=>decide (¬ R y x)),y ∈ k/\¬ R y x:=fun y hy=>by
       obtain⟨h1,h2⟩:=List.mem_filter.1 hy
       exact⟨h1,by simpa using h2⟩
      refine⟨⟨fun y hy=>?_,?_,fun y hy=>?_⟩,?_⟩
      . rcases List.mem_cons.1 (hp.mem_iff.1 hy) with rfl|hy
        . simp
        . simp[h.sub y (hsub y hy).1]
      . refine (hp.pairwise_iff (fun {a b} hab=>⟨hab.2,hab.1⟩)).2 (List.pairwise_cons.2 ⟨fun y hy=>⟨fun h3=>hh ⟨y,(hsub y hy).1,h3⟩,(hsub y hy).2⟩,h.anti.filter _⟩)
      . rcases List.mem_append.1 hy with hy|hy
        . obtain⟨z,hz,hyz⟩:=h.cov y hy
          by_cases hzx:R z x
          . exact⟨x,hp.mem_iff.2 (by simp),ht _ _ _ hyz hzx⟩
          . exact⟨z,hp.mem_iff.2 (by simp[hz,hzx]),hyz⟩
        . simp at hy;subst hy;exact⟨y,hp.mem_iff.2 (by simp),hr y⟩
      . refine insG_sorted lt x _ (fun y hy=>tot x y fun e=>?_) (h2.filter _)
        subst e
        exact (hsub x hy).2 (hr x)
   have:=ih (putG R L k x) (l0++[x]) hx.1 hx.2
   simpa[List.append_assoc] using this
 simpa using go l [] [] ⟨by simp,by simp,by simp⟩ (by simp)
theorem sorted_eq_put{α:Type}{R L:α->α->Prop}(hr:∀ x,R x x)(ht:∀ x y z,R x y->R y z->R x z)(ha:∀ x y,R x y->R y x->x=y)(hirr:∀ x,¬ L x x)(lt:∀ x y z,L x y->L y z->L x z)(tot:∀ x y,x ≠ y->L x y\/L y x)
    {l k:List α}(hp:k.Perm (grG R l))(hs:k.Pairwise L):k=l.foldl (putG R L) []:=by
 have h:=putG_fold hr ht lt tot l
 exact sorted_uniq hirr lt (hp.trans ((grG_anti ht l fun x _=>hr x).perm hr ht ha h.1)) hs h.2
theorem bl_eq:∀ (x y:Str),Op.bytesLess x y=true ↔ x<y
 | [],[]=>by simp[Op.bytesLess]
 | _ :: _,[]=>by simp[Op.bytesLess]
 | [],_ :: _=>by simp[Op.bytesLess]
 | a :: x,b :: y=>by
  simp only[Op.bytesLess,Bool.or_eq_true,Bool.and_eq_true,decide_eq_true_eq,beq_iff_eq,bl_eq x y,List.cons_lt_cons_iff]
theorem bl_irrefl(x:Str):¬ Op.bytesLess x x=true:=by
 rw[bl_eq];exact List.lt_irrefl x
theorem bl_trans{x y z:Str}(h:Op.bytesLess x y=true)(k:Op.bytesLess y z=true):Op.bytesLess x z=true:=by
 rw[bl_eq] at *
 exact List.lt_trans h k
theorem bl_total{x y:Str}(h:x ≠ y):Op.bytesLess x y=true\/Op.bytesLess y x=true:=by
 rw[bl_eq,bl_eq]
 by_cases h1:x<y
 . exact .inl h1
 . right
   rcases List.le_iff_lt_or_eq.1 (List.not_lt.1 h1) with h2|h2
   . exact h2
   . exact absurd h2.symm h
theorem bl_append:∀ {x y A B:Str},x.length=y.length->(Op.bytesLess (x++A) (y++B)=true ↔ Op.bytesLess x y=true\/(x=y/\Op.bytesLess A B=true))
 | [],[],A,B,_=>by simp[Op.bytesLess]
 | [],_ :: _,_,_,h=>by simp at h
 | _ :: _,[],_,_,h=>by simp at h
 | a :: x,b :: y,A,B,h=>by
  have ih:=bl_append (x:=x) (y:=y) (A:=A) (B:=B) (by simpa using h)
  simp only[List.cons_append,Op.bytesLess,Bool.or_eq_true,Bool.and_eq_true,decide_eq_true_eq,beq_iff_eq,ih,List.cons.injEq]
  constructor
  . rintro (h1|⟨rfl,h1|⟨rfl,h1⟩⟩)
    . exact .inl (.inl h1)
    . exact .inl (.inr ⟨rfl,h1⟩)
    . exact .inr ⟨⟨rfl,rfl⟩,h1⟩
  . rintro ((h1|⟨rfl,h1⟩)|⟨⟨rfl,rfl⟩,h1⟩)
    . exact .inl h1
    . exact .inr ⟨rfl,.inl h1⟩
    . exact .inr ⟨rfl,.inr ⟨rfl,h1⟩⟩
def lexL:List Str->List Str->Prop
 | _,[]=>False
 | [],_ :: _=>True
 | x :: a,y :: b=>Op.bytesLess x y=true\/(x=y/\lexL a b)
theorem bl_flatten{n:Nat}(hn:0<n):∀ {a b:List Str},(∀ x ∈ a,x.length=n)->(∀ x ∈ b,x.length=n)->(Op.bytesLess a.flatten b.flatten=true ↔ lexL a b)
 | a,[],_,_=>by cases a<;>simp[lexL,Op.bytesLess]
 | [],y :: b,_,hb=>by
  have hy:=hb y (by simp)
  cases y with
  | nil=>simp at hy;omega
  | cons c y=>simp[lexL,Op.bytesLess]
 | x :: a,y :: b,ha,hb=>by
  rw[List.flatten_cons,List.flatten_cons,bl_append (by rw[ha x (by simp),hb y (by simp)]),bl_flatten hn (fun z hz=>ha z (by simp[hz])) (fun z hz=>hb z (by simp[hz]))]
  rfl
structure Term where
 p:Str
 less:List Str
def Term.key(t:Term):Str:=t.p++t.less.flatten
def Term.wide(n:Nat)(t:Term):Prop:=t.p.length=n/\∀ m ∈ t.less,m.length=n
def aheadT(t u:Term):Prop:=lexL (t.p :: t.less) (u.p :: u.less)
theorem key_less{n:Nat}(hn:0<n){t u:Term}(ht:t.wide n)(hu:u.wide n):Op.bytesLess t.key u.key=true ↔ aheadT t u:=by
 have:=bl_flatten hn (a:=t.p :: t.less) (b:=u.p :: u.less) (by simpa using ⟨ht.1,ht.2⟩) (by simpa using ⟨hu.1,hu.2⟩)
 simpa[Term.key,aheadT] using this
noncomputable def srt{α:Type}(L:α->α->Prop)(l:List α):List α:=l.foldl (fun acc x=>insG L x acc) []
theorem srt_perm{α:Type}(L:α->α->Prop)(l:List α):(srt L l).Perm l:=by
 have go:∀ l acc:List α,(l.foldl (fun acc x=>insG L x acc) acc).Perm (acc++l):=by
  intro l
  induction l with
  | nil=>intro acc;simp
  | cons x l ih=>
   intro acc
   refine (ih (insG L x acc)).trans ?_
   refine ((insG_perm L x acc).append_right l).trans ?_
   simpa using (List.perm_middle (a:=x) (l₁:=acc) (l₂:=l)).symm
 show (l.foldl (fun acc x=>insG L x acc) []).Perm l
 simpa using go l []
theorem srt_sorted{α:Type}{L:α->α->Prop}(ht:∀ x y z,L x y->L y z->L x z)(l:List α)(tot:l.Pairwise fun x y=>L x y\/L y x):(srt L l).Pairwise L:=by
 have go:∀ l acc:List α,(acc++l).Pairwise (fun x y=>L x y\/L y x)->acc.Pairwise L->(l.foldl (fun acc x=>insG L x acc) acc).Pairwise L:=by
  intro l
  induction l with
  | nil=>intro acc _ h;exact h
  | cons x l ih=>
   intro acc htot h
   have hp:(insG L x acc++l).Perm (acc++x :: l):=((insG_perm L x acc).append_right l).trans (List.perm_middle (a:=x) (l₁:=acc) (l₂:=l)).symm
   refine ih (insG L x acc) ((hp.pairwise_iff fun {a b} hab=>hab.symm).2 htot) (insG_sorted ht x acc (fun y hy=>?_) h)
   have:=(List.pairwise_append.1 htot).2.2 y hy x (by simp)
   exact this.symm
 exact go l [] (by simpa using tot) (by simp)
theorem srt_uniq{α:Type}{L:α->α->Prop}(hirr:∀ x,¬ L x x)(ht:∀ x y z,L x y->L y z->L x z){l k:List α}(tot:l.Pairwise fun x y=>L x y\/L y x)(hp:k.Perm l)(hs:k.Pairwise L):k=srt L l:=
 sorted_uniq hirr ht (hp.trans (srt_perm L l).symm) hs (srt_sorted ht l tot)
theorem lexL_irrefl:∀ a:List Str,¬ lexL a a
 | []=>by simp[lexL]
 | x :: a=>by
  have:=lexL_irrefl a
  simp[lexL,bl_irrefl,this]
theorem lexL_trans:∀ {a b c:List Str},lexL a b->lexL b c->lexL a c
 | a,[],c,h,_=>by cases a<;>simp[lexL] at h
 | a,_ :: _,[],_,h=>by simp[lexL] at h
 | [],_ :: _,_ :: _,_,_=>trivial
 | x :: a,y :: b,z :: c,h,k=>by
  rcases h with h|⟨rfl,h⟩
  . rcases k with k|⟨rfl,k⟩
    . exact .inl (bl_trans h k)
    . exact .inl h
  . rcases k with k|⟨rfl,k⟩
    . exact .inl k
    . exact .inr ⟨rfl,lexL_trans h k⟩
theorem lexL_total:∀ {a b:List Str},a ≠ b->lexL a b\/lexL b a
 | [],[],h=>absurd rfl h
 | [],_ :: _,_=>.inl trivial
 | _ :: _,[],_=>.inr trivial
 | x :: a,y :: b,h=>by
  by_cases hxy:x=y
  . subst hxy
    rcases lexL_total (a:=a) (b:=b) (fun e=>h (by rw[e])) with k|k
    . exact .inl (.inr ⟨rfl,k⟩)
    . exact .inr (.inr ⟨rfl,k⟩)
  . rcases bl_total hxy with k|k
    . exact .inl (.inl k)
    . exact .inr (.inl k)
theorem ahead_irrefl(t:Term):¬ aheadT t t:=lexL_irrefl _
theorem ahead_trans(t u v:Term)(h:aheadT t u)(k:aheadT u v):aheadT t v:=lexL_trans h k
theorem ahead_total{t u:Term}(h:t ≠ u):aheadT t u\/aheadT u t:=lexL_total fun e=>h (by
 obtain⟨p,l⟩:=t
 obtain⟨q,m⟩:=u
 simp at e
 rw[e.1,e.2])
def blt(x y:Str):Prop:=Op.bytesLess x y=true
def metL(p:Str)(less:List Str):List Str:=less.filterMap fun m=>meetT m p
open Classical in
/-- A cube less others,in its form. -/
noncomputable def termT(p:Str)(less:List Str):Option Term:=
 let k:=(metL p less).foldl (putG inL blt) []
 if k=[p] then none else some ⟨p,k⟩
def covT(t u:Term):Prop:=inT t.p u.p/\∀ m ∈ u.less,∀ c,meetT m t.p=some c->∃ n ∈ t.less,inT c n
structure Term.Ok(n:Nat)(t:Term):Prop where
 pos:0<n
 p:t.p.length=n
 less:∀ m ∈ t.less,inL m t.p
theorem Term.Ok.wide{n:Nat}{t:Term}(h:t.Ok n):t.wide n:=⟨h.p,fun m hm=>by rw[inL_len (h.less m hm),h.p]⟩
theorem covT_refl{n:Nat}{t:Term}(h:t.Ok n):covT t t:=by
 have hp:t.p ≠ []:=fun e=>by have:=h.p;have:=h.pos;rw[e] at *;simp at *;omega
 refine⟨⟨hp,inL_refl _⟩,fun m hm c hc=>?_⟩
 unfold meetT at hc
 split at hc
 . cases hc
 . rename_i hmn
   have:=meetL_self.2 (h.less m hm)
   rw[this] at hc
   cases hc
   exact⟨m,hm,hmn,inL_refl _⟩
theorem covT_trans(t u v:Term)(h:covT t u)(k:covT u v):covT t v:=by
 refine⟨inT_trans h.1 k.1,fun m hm c hc=>?_⟩
 unfold meetT at hc
 split at hc
 . cases hc
 . rename_i hmn
   obtain⟨hcm,hct⟩:=meetL_in hc
   obtain⟨c1,hc1,hi1⟩:=meetL_glb hcm (inL_trans hct h.1.2)
   obtain⟨n1,hn1,hin1⟩:=k.2 m hm c1 (by unfold meetT;rw[if_neg hmn];exact hc1)
   have hcn1:=inL_trans hi1 hin1.2
   obtain⟨c2,hc2,hi2⟩:=meetL_glb hcn1 hct
   have hne:n1 ≠ []:=fun e=>hin1.1 (by
    have:=inL_len hin1.2
    rw[e] at this
    exact List.eq_nil_of_length_eq_zero this)
   obtain⟨n2,hn2,hin2⟩:=h.2 n1 hn1 c2 (by unfold meetT;rw[if_neg hne];exact hc2)
   refine⟨n2,hn2,fun e=>hin2.1 ?_,inL_trans hi2 hin2.2⟩
   have:=inL_len hi2
   rw[e] at this
   exact List.eq_nil_of_length_eq_zero this.symm
noncomputable def formT(l:List Term):List Term:=srt aheadT (grG covT l)
theorem formT_eq{n:Nat}{l k:List Term}(hl:∀ t ∈ l,t.Ok n)(hp:k.Perm (grG covT l))(hs:k.Pairwise fun t u=>Op.bytesLess u.key t.key ≠ true):k=formT l:=by
 have ha:=grG_anti covT_trans l fun t ht=>covT_refl (hl t ht)
 have hok:∀ t ∈ grG covT l,t.Ok n:=fun t ht=>hl t (ha.sub t ht)
 have tot:(grG covT l).Pairwise fun x y=>x ≠ y:=ha.anti.imp_of_mem fun {a b} hma _ hab e=>hab.1 (by rw[<- e];exact covT_refl (hok a hma))
 have hne:k.Pairwise fun x y=>x ≠ y:=(hp.pairwise_iff fun {a b} hab=>hab.symm).2 tot
 refine srt_uniq ahead_irrefl ahead_trans (tot.imp ahead_total) hp ?_
 refine (hs.and hne).imp_of_mem fun {a b} hma hmb hab=>?_
 have hoa:=hok a (hp.mem_iff.1 hma)
 have hob:=hok b (hp.mem_iff.1 hmb)
 rcases ahead_total hab.2 with h|h
 . exact h
 . exact absurd ((key_less hob.pos hob.wide hoa.wide).2 h) hab.1
theorem blt_irrefl(x:Str):¬ blt x x:=bl_irrefl x
theorem blt_trans(x y z:Str)(h:blt x y)(k:blt y z):blt x z:=bl_trans h k
theorem blt_total(x y:Str)(h:x ≠ y):blt x y\/blt y x:=bl_total h
theorem strict_of{l k:List Str}(hp:k.Perm (grG inL l))(hs:k.Pairwise fun t u=>Op.bytesLess u t ≠ true):k.Pairwise blt:=by
 have ha:=grG_anti (R:=inL) (fun _ _ _=>inL_trans) l fun x _=>inL_refl x
 have hn:=(hp.nodup_iff).2 (ha.nodup inL_refl)
 refine (hs.and hn).imp fun {a b} hab=>?_
 rcases blt_total a b hab.2 with h|h
 . exact h
 . exact absurd h hab.1
theorem put_eq{l k:List Str}(hp:k.Perm (grG inL l))(hs:k.Pairwise fun t u=>Op.bytesLess u t ≠ true):k=l.foldl (putG inL blt) []:=
 sorted_eq_put inL_refl (fun _ _ _=>inL_trans) (fun _ _=>inL_antisymm) blt_irrefl blt_trans blt_total hp (strict_of hp hs)
theorem metL_in{p:Str}{less:List Str}{m:Str}(h:m ∈ metL p less):inL m p:=by
 obtain⟨a,_,h2⟩:=List.mem_filterMap.1 h
 unfold meetT at h2
 split at h2
 . cases h2
 . exact (meetL_in h2).2
theorem void_iff(p:Str)(less:List Str):p ∈ grG inL (metL p less) ↔ (metL p less).foldl (putG inL blt) []=[p]:=by
 have ha:=grG_anti (R:=inL) (fun _ _ _=>inL_trans) (metL p less) fun x _=>inL_refl x
 have hb:=putG_fold (R:=inL) (L:=blt) inL_refl (fun _ _ _=>inL_trans) blt_trans blt_total (metL p less)
 have hp:=ha.perm inL_refl (fun _ _ _=>inL_trans) (fun _ _=>inL_antisymm) hb.1
 constructor
 . intro h
   have hm:=hp.mem_iff.1 h
   generalize hk:(metL p less).foldl (putG inL blt) []=k at hb hm
   have hall:∀ x ∈ k,inL x p:=fun x hx=>metL_in (hb.1.sub x hx)
   cases k with
   | nil=>simp at hm
   | cons a k=>
    have hpw:=List.pairwise_cons.1 hb.1.anti
    rcases List.mem_cons.1 hm with rfl|hm
    . cases k with
      | nil=>rfl
      | cons b k=>exact absurd (hall b (by simp)) (hpw.1 b (by simp)).2
    . exact absurd (hall a (by simp)) (hpw.1 p hm).1
 . intro h
   exact hp.mem_iff.2 (by rw[h];simp)
theorem termT_void{p:Str}{less:List Str}(h:p ∈ grG inL (metL p less)):termT p less=none:=by
 have:=(void_iff p less).1 h
 unfold termT
 simp only
 rw[if_pos this]
theorem termT_some{p:Str}{less k:List Str}(h:p ∉ grG inL (metL p less))(hp:k.Perm (grG inL (metL p less)))(hs:k.Pairwise fun t u=>Op.bytesLess u t ≠ true):termT p less=some ⟨p,k⟩:=by
 have h1:=fun e=>h ((void_iff p less).2 e)
 unfold termT
 simp only
 rw[if_neg h1]
 congr
 exact (put_eq hp hs).symm
theorem termT_ok{p:Str}{less:List Str}{t:Term}(hp:p ≠ [])(h:termT p less=some t):t.Ok p.length/\t.p=p:=by
 unfold termT at h
 simp only at h
 split at h
 . cases h
 . cases h
   have hb:=putG_fold (R:=inL) (L:=blt) inL_refl (fun _ _ _=>inL_trans) blt_trans blt_total (metL p less)
   exact⟨⟨List.length_pos_iff.2 hp,rfl,fun m hm=>metL_in (hb.1.sub m hm)⟩,rfl⟩
theorem grG_sub{α:Type}(R:α->α->Prop)(l:List α):∀ x ∈ grG R l,x ∈ l:=by
 have go:∀ (l k:List α),∀ x ∈ l.foldl (addG R) k,x ∈ k\/x ∈ l:=by
  intro l
  induction l with
  | nil=>intro k x hx;exact .inl hx
  | cons y l ih=>
   intro k x hx
   rcases ih _ x hx with h|h
   . unfold addG at h
     split at h
     . exact .inl h
     . rcases List.mem_append.1 h with h|h
       . exact .inl (List.mem_filter.1 h).1
       . simp at h;subst h;exact .inr (by simp)
   . exact .inr (by simp[h])
 intro x hx
 rcases go l [] x hx with h|h
 . simp at h
 . exact h
theorem formT_mem{l:List Term}{t:Term}(h:t ∈ formT l):t ∈ l:=grG_sub covT l t ((srt_perm aheadT _).mem_iff.1 h)
end Go.Proofs.YtaiondckookpiaaGreatDoor
namespace Go.Proofs.YtaiondckookpiaaGreatDoor
open Go Go.Vx
def wof(f:Nat->Bool)(k:Nat):BitVec 64:=(BitVec.ofBoolListLE ((List.range 64).map fun i=>f (64*k+i))).setWidth 64
theorem wof_get(f:Nat->Bool)(k i:Nat)(h:i<64):(wof f k).getLsbD i=f (64*k+i):=by
 unfold wof
 rw[BitVec.getLsbD_setWidth,BitVec.getLsbD_ofBoolListLE]
 simp[h,List.getD]
theorem wof_ext{f g:Nat->Bool}{k:Nat}(h:∀ i,i<64->f (64*k+i)=g (64*k+i)):wof f k=wof g k:=
 BitVec.eq_of_getLsbD_eq fun i hi=>by rw[wof_get _ _ _ hi,wof_get _ _ _ hi];exact h i hi
theorem wof_eq{f g:Nat->Bool}{k:Nat}:wof f k=wof g k ↔ ∀ i,i<64->f (64*k+i)=g (64*k+i):=by
 refine⟨fun h i hi=>?_,wof_ext⟩
 rw[<- wof_get f k i hi,h,wof_get g k i hi]
theorem bv_id(x:BitVec 64):BitVec.ofInt IntKind.u64.bits (x.toNat:Int)=x:=by
 show BitVec.ofInt 64 (x.toNat:Int)=x
 simp
theorem wrap_id(x:BitVec 64):IntKind.u64.wrap (x.toNat:Int)=(x.toNat:Int):=by
 have:=x.isLt
 simp[IntKind.wrap,IntKind.bits,IntKind.signed]
 omega
section
variable {p : Int → Prop} {x y : BitVec 64}
theorem nAnd(h:p ((x &&& y).toNat:Int)):∃ n,n=IntKind.u64.wrap ((BitVec.ofInt IntKind.u64.bits (x.toNat:Int) &&& BitVec.ofInt IntKind.u64.bits (y.toNat:Int)).toNat:Int)/\p n:=⟨_,rfl,by
 have key:∀ (a b:BitVec 64),a=x->b=y->IntKind.u64.wrap ((a &&& b).toNat:Int)=(((x &&& y):BitVec 64).toNat:Int):=by
  rintro _ _ rfl rfl
  exact wrap_id _
 exact (congrArg p (key _ _ (bv_id x) (bv_id y))).mpr h⟩
theorem nOr(h:p ((x ||| y).toNat:Int)):∃ n,n=IntKind.u64.wrap ((BitVec.ofInt IntKind.u64.bits (x.toNat:Int) ||| BitVec.ofInt IntKind.u64.bits (y.toNat:Int)).toNat:Int)/\p n:=⟨_,rfl,by
 have key:∀ (a b:BitVec 64),a=x->b=y->IntKind.u64.wrap ((a ||| b).toNat:Int)=(((x ||| y):BitVec 64).toNat:Int):=by
  rintro _ _ rfl rfl
  exact wrap_id _
 exact (congrArg p (key _ _ (bv_id x) (bv_id y))).mpr h⟩
theorem nXor(h:p ((x ^^^ y).toNat:Int)):∃ n,n=IntKind.u64.wrap ((BitVec.ofInt IntKind.u64.bits (x.toNat:Int) ^^^ BitVec.ofInt IntKind.u64.bits (y.toNat:Int)).toNat:Int)/\p n:=⟨_,rfl,by
 have key:∀ (a b:BitVec 64),a=x->b=y->IntKind.u64.wrap ((a ^^^ b).toNat:Int)=(((x ^^^ y):BitVec 64).toNat:Int):=by
  rintro _ _ rfl rfl
  exact wrap_id _
 exact (congrArg p (key _ _ (bv_id x) (bv_id y))).mpr h⟩
theorem nAndNot(h:p ((x &&& ~~~y).toNat:Int)):∃ n,n=IntKind.u64.wrap ((BitVec.ofInt IntKind.u64.bits (x.toNat:Int) &&& ~~~(BitVec.ofInt IntKind.u64.bits (y.toNat:Int))).toNat:Int)/\p n:=⟨_,rfl,by
 have key:∀ (a b:BitVec 64),a=x->b=y->IntKind.u64.wrap ((a &&& ~~~b).toNat:Int)=(((x &&& ~~~y):BitVec 64).toNat:Int):=by
  rintro _ _ rfl rfl
  exact wrap_id _
 exact (congrArg p (key _ _ (bv_id x) (bv_id y))).mpr h⟩
theorem nAnd1(h:p ((x &&& 1#64).toNat:Int)):∃ n,n=IntKind.u64.wrap ((BitVec.ofInt IntKind.u64.bits (x.toNat:Int) &&& BitVec.ofInt IntKind.u64.bits 1).toNat:Int)/\p n:=by
 have:((1#64:BitVec 64).toNat:Int)=1:=rfl
 have h2:=nAnd (p:=p) (x:=x) (y:=1#64) h
 rwa [this] at h2
theorem nShr{r:Int}{k:Nat}(hr:r=(k:Int)/\k<64)(h:p ((x >>> k).toNat:Int)):∃ n,n=(x.toNat:Int).fdiv (2 ^ (min r.toNat IntKind.u64.bits))/\p n:=by
 refine⟨_,rfl,?_⟩
 obtain⟨rfl,hk⟩:=hr
 have e1:min ((k:Int).toNat) IntKind.u64.bits=k:=by
  show min k 64=k
  omega
 rw[e1]
 have e2:((x.toNat:Int).fdiv (2 ^ k))=((x >>> k).toNat:Int):=by
  rw[BitVec.toNat_ushiftRight,Nat.shiftRight_eq_div_pow,Int.fdiv_eq_ediv_of_nonneg _ (Int.pow_nonneg (by omega))]
  push_cast
  rfl
 rw[e2]
 exact h
theorem nShl1{r:Int}{k:Nat}(hr:r=(k:Int)/\k<64)(h:p ((1#64 <<< k).toNat:Int)):∃ n,n=IntKind.u64.wrap (1*2 ^ (min r.toNat IntKind.u64.bits))/\p n:=by
 refine⟨_,rfl,?_⟩
 obtain⟨rfl,hk⟩:=hr
 have e1:min ((k:Int).toNat) IntKind.u64.bits=k:=by
  show min k 64=k
  omega
 rw[e1]
 have hlt:2 ^ k<2 ^ 64:=Nat.pow_lt_pow_right (by omega) hk
 have e2:(1*2 ^ k:Int)=((1#64 <<< k).toNat:Int):=by
  rw[BitVec.toNat_shiftLeft,Nat.shiftLeft_eq]
  simp only[BitVec.toNat_ofNat]
  rw[show (1 % 2 ^ 64*2 ^ k) % 2 ^ 64=2 ^ k by rw[Nat.mod_eq_of_lt (a:=1) (by decide),Nat.one_mul,Nat.mod_eq_of_lt hlt]]
  push_cast
  omega
 rw[e2,wrap_id]
 exact h
end
theorem nAnd1'{p:Int->Prop}{x:BitVec 64}{c:Int}(hc:c=1)(h:p ((x &&& 1#64).toNat:Int)):∃ n,n=IntKind.u64.wrap ((BitVec.ofInt IntKind.u64.bits (x.toNat:Int) &&& BitVec.ofInt IntKind.u64.bits c).toNat:Int)/\p n:=by
 subst hc;exact nAnd1 h
theorem nShl1'{p:Int->Prop}{r c:Int}{k:Nat}(hc:c=1)(hr:r=(k:Int)/\k<64)(h:p ((1#64 <<< k).toNat:Int)):∃ n,n=IntKind.u64.wrap (c*2 ^ (min r.toNat IntKind.u64.bits))/\p n:=by
 subst hc;exact nShl1 hr h
theorem bit_at(x:BitVec 64)(k:Nat):(((x >>> k) &&& 1#64).toNat:Int)=1 ↔ x.getLsbD k=true:=by
 have h1:((x >>> k) &&& 1#64).toNat=(x.getLsbD k).toNat:=by
  rw[BitVec.toNat_and,BitVec.toNat_ushiftRight]
  simp only[BitVec.toNat_ofNat]
  rw[show 1 % 2 ^ 64=1 from rfl,Nat.and_one_is_mod,BitVec.getLsbD,Nat.testBit]
  simp
  have:=Nat.mod_two_eq_zero_or_one (x.toNat >>> k)
  rcases this with h|h<;>simp[h]
 rw[h1]
 cases x.getLsbD k<;>simp
theorem quo64{i q r:Nat}(h:i=64*q+r)(hr:r<64)(hi:i<1000):(q:Int)=IntKind.i64.wrap ((i:Int).tdiv 64):=by
 subst h
 have e:((64*q+r:Nat):Int).tdiv 64=(q:Int):=by
  rw[Int.tdiv_eq_ediv_of_nonneg (by omega)]
  omega
 rw[e,IntKind.wrap_i64]
 omega
theorem rem64{i q r:Nat}(h:i=64*q+r)(hr:r<64):(r:Int)=((i:Int).tmod 64):=by
 subst h
 rw[Int.tmod_eq_emod_of_nonneg (by omega)]
 omega
theorem word_nz{x:BitVec 64}:((x.toNat:Int) ≠ 0) ↔ ∃ i,i<64/\x.getLsbD i=true:=by
 constructor
 . intro h
   apply Classical.byContradiction
   intro hn
   apply h
   have:x=0#64:=BitVec.eq_of_getLsbD_eq fun i hi=>by
    cases hx:x.getLsbD i
    . simp
    . exact absurd ⟨i,hi,hx⟩ hn
   rw[this]
   rfl
 . rintro⟨i,hi,h⟩ h0
   have:x=0#64:=BitVec.eq_of_toNat_eq (by simpa using h0)
   rw[this] at h
   simp at h
def dig(b:UInt8):Bool:=b == 48 || b == 49
def car(t:Str)(i:Nat):Bool:=match t[i]? with|some b=>dig b|none=>false
def one(t:Str)(i:Nat):Bool:=match t[i]? with|some b=>b == 49|none=>false
@[reducible] def cells9(n:Nat)(c o:Nat->Bool):List D:=[.i .i64 (n:Int),.i .u64 ((wof c 0).toNat:Int),.i .u64 ((wof c 1).toNat:Int),.i .u64 ((wof c 2).toNat:Int),.i .u64 ((wof c 3).toNat:Int),.i .u64 ((wof o 0).toNat:Int),.i .u64 ((wof o 1).toNat:Int),.i .u64 ((wof o 2).toNat:Int),.i .u64 ((wof o 3).toNat:Int)]
@[reducible] def crow(t:Str):List D:=cells9 t.length (car t) (one t)
structure CT(t:Str):Prop where
 len:t.length<=256
 cub:∀ b ∈ t,b=48\/b=49\/b=120
theorem CT.nil:CT []:=⟨by simp,by simp⟩
theorem crow_nil:crow []=[.i .i64 0,.i .u64 0,.i .u64 0,.i .u64 0,.i .u64 0,.i .u64 0,.i .u64 0,.i .u64 0,.i .u64 0]:=by
 have h:∀ k,wof (car []) k=0#64:=fun k=>BitVec.eq_of_getLsbD_eq fun i hi=>by rw[wof_get _ _ _ hi];simp[car]
 have h2:∀ k,wof (one []) k=0#64:=fun k=>BitVec.eq_of_getLsbD_eq fun i hi=>by rw[wof_get _ _ _ hi];simp[one]
 simp[h,h2]
theorem car_lt{t:Str}{i:Nat}(h:car t i=true):i<t.length:=by
 unfold car at h
 split at h
 . rename_i b hb;exact (List.getElem?_eq_some_iff.1 hb).1
 . cases h
theorem words_eq{f g:Nat->Bool}(h0:wof f 0=wof g 0)(h1:wof f 1=wof g 1)(h2:wof f 2=wof g 2)(h3:wof f 3=wof g 3):∀ i,i<256->f i=g i:=by
 intro i hi
 have e0:=wof_eq.1 h0
 have e1:=wof_eq.1 h1
 have e2:=wof_eq.1 h2
 have e3:=wof_eq.1 h3
 by_cases c0:i<64
 . have:=e0 i c0;rwa [show 64*0+i=i by omega] at this
 by_cases c1:i<128
 . have:=e1 (i - 64) (by omega);rwa [show 64*1+(i - 64)=i by omega] at this
 by_cases c2:i<192
 . have:=e2 (i - 128) (by omega);rwa [show 64*2+(i - 128)=i by omega] at this
 . have:=e3 (i - 192) (by omega);rwa [show 64*3+(i - 192)=i by omega] at this
theorem ct_ext{t u:Str}(ht:CT t)(hu:CT u)(hl:t.length=u.length)(hc:∀ i,i<256->car t i=car u i)(ho:∀ i,i<256->one t i=one u i):t=u:=by
 refine List.ext_getElem? fun i=>?_
 by_cases hi:i<t.length
 . have h1:t[i]? = some t[i]:=List.getElem?_eq_getElem hi
   have h2:u[i]? = some u[i]:=List.getElem?_eq_getElem (by omega)
   have hi2:i<256:=by have:=ht.len;omega
   have c:=hc i hi2
   have o:=ho i hi2
   unfold car at c
   unfold one at o
   rw[h1,h2] at c o ⊢
   simp only[] at c o
   have k1:=ht.cub t[i] (List.getElem_mem hi)
   have k2:=hu.cub u[i] (List.getElem_mem (by omega))
   rcases k1 with k1|k1|k1<;>rcases k2 with k2|k2|k2<;>rw[k1,k2] at c o ⊢<;>simp[dig] at c o
 . rw[List.getElem?_eq_none (by omega),List.getElem?_eq_none (by omega)]
theorem crow_inj{t u:Str}(ht:CT t)(hu:CT u)(h:eqDs (crow t) (crow u)):t=u:=by
 have key:∀ {x y:BitVec 64},(x.toNat:Int)=(y.toNat:Int)->x=y:=fun h=>BitVec.eq_of_toNat_eq (by omega)
 simp only[eqDs,eqD] at h
 obtain⟨hl,c0,c1,c2,c3,o0,o1,o2,o3⟩:=h
 exact ct_ext ht hu (by omega) (words_eq (key c0) (key c1) (key c2) (key c3)) (words_eq (key o0) (key o1) (key o2) (key o3))
theorem eqDs_self(t:Str):eqDs (crow t) (crow t):=by simp[eqDs,eqD]
theorem put_word{f g:Nat->Bool}{i q r:Nat}(hi:i=64*q+r)(hr:r<64)(hg:∀ j,g j=(f j || decide (j=i)))(k:Nat):wof g k=if k=q then wof f k ||| 1#64 <<< r else wof f k:=by
 refine BitVec.eq_of_getLsbD_eq fun j hj=>?_
 rw[wof_get _ _ _ hj,hg]
 split
 . rename_i hk
   subst hk
   rw[BitVec.getLsbD_or,wof_get _ _ _ hj,BitVec.getLsbD_shiftLeft,BitVec.getLsbD_one]
   congr 1
   by_cases hjr:j=r
   . subst hjr;simp[hi,hj]
   . have h1:¬ 64*k+j=i:=by omega
     have h2:¬ (j - r=0/\¬ j<r):=by omega
     simp[h1,hj]
     omega
 . rename_i hk
   rw[wof_get _ _ _ hj]
   have h1:¬ 64*k+j=i:=by omega
   simp[h1]
theorem take_get{t:Str}{i:Nat}{b:UInt8}(h:t[i]? = some b)(j:Nat):(t.take (i+1))[j]? = if j=i then some b else (t.take i)[j]?:=by
 rw[List.getElem?_take,List.getElem?_take]
 by_cases hj:j=i
 . subst hj;simp[h]
 . by_cases h2:j<i
   . simp[hj,h2,show j<i+1 by omega]
   . simp[hj,h2,show ¬ j<i+1 by omega]
theorem car_at_end(t:Str)(i:Nat):car (t.take i) i=false:=by
 unfold car
 rw[List.getElem?_take]
 simp
theorem one_at_end(t:Str)(i:Nat):one (t.take i) i=false:=by
 unfold one
 rw[List.getElem?_take]
 simp
theorem car_put{t:Str}{i:Nat}{b:UInt8}(h:t[i]? = some b)(hd:dig b=true)(j:Nat):car (t.take (i+1)) j=(car (t.take i) j || decide (j=i)):=by
 by_cases hj:j=i
 . subst hj
   rw[car_at_end]
   unfold car
   rw[take_get h]
   simp[hd]
 . unfold car
   rw[take_get h]
   simp[hj]
theorem one_put{t:Str}{i:Nat}(h:t[i]? = some 49)(j:Nat):one (t.take (i+1)) j=(one (t.take i) j || decide (j=i)):=by
 by_cases hj:j=i
 . subst hj
   rw[one_at_end]
   unfold one
   rw[take_get h]
   simp
 . unfold one
   rw[take_get h]
   simp[hj]
theorem car_same{t:Str}{i:Nat}{b:UInt8}(h:t[i]? = some b)(hd:dig b=false)(k:Nat):wof (car (t.take (i+1))) k=wof (car (t.take i)) k:=by
 refine wof_ext fun j _=>?_
 generalize 64*k+j=m
 by_cases hj:m=i
 . subst hj
   rw[car_at_end]
   unfold car
   rw[take_get h]
   simp[hd]
 . unfold car
   rw[take_get h]
   simp[hj]
theorem one_same{t:Str}{i:Nat}{b:UInt8}(h:t[i]? = some b)(hd:b ≠ 49)(k:Nat):wof (one (t.take (i+1))) k=wof (one (t.take i)) k:=by
 refine wof_ext fun j _=>?_
 generalize 64*k+j=m
 by_cases hj:m=i
 . subst hj
   rw[one_at_end]
   unfold one
   rw[take_get h]
   simp[hd]
 . unfold one
   rw[take_get h]
   simp[hj]
theorem at_word{f:Nat->Bool}{i q r:Nat}(hi:i=64*q+r)(hr:r<64):((((wof f q) >>> r) &&& 1#64).toNat:Int)=1 ↔ f i=true:=by
 rw[bit_at,wof_get _ _ _ hr,hi]
theorem split64(i:Nat)(h:i<256):∃ q r,i=64*q+r/\r<64/\(q=0\/q=1\/q=2\/q=3):=⟨i / 64,i % 64,by omega,by omega,by omega⟩
end Go.Proofs.YtaiondckookpiaaGreatDoor
namespace Go.Proofs.YtaiondckookpiaaGreatDoor
open Go Go.Vx
theorem meetL_get:∀ {c d m:Str},meetL c d=some m->∀ (i:Nat) a b,c[i]? = some a->d[i]? = some b->∃ x,m[i]? = some x/\meet1 a b=some x
 | [],[],_,_,i,a,b,ha,_=>by simp at ha
 | [],_ :: _,_,h,_,_,_,_,_=>by cases h
 | _ :: _,[],_,h,_,_,_,_,_=>by cases h
 | a0 :: c,b0 :: d,m,h,i,a,b,ha,hb=>by
  unfold meetL at h
  cases h1:meet1 a0 b0 with
  | none=>rw[h1] at h;cases h
  | some x=>cases h2:meetL c d with
   | none=>rw[h1,h2] at h;cases h
   | some r=>
    rw[h1,h2] at h
    cases h
    cases i with
    | zero=>simp at ha hb;subst ha hb;exact⟨x,rfl,h1⟩
    | succ i=>exact meetL_get h2 i a b (by simpa using ha) (by simpa using hb)
theorem meetL_ex:∀ {c d:Str},c.length=d.length->(∀ (i:Nat) a b,c[i]? = some a->d[i]? = some b->meet1 a b ≠ none)->∃ m,meetL c d=some m
 | [],[],_,_=>⟨[],rfl⟩
 | [],_ :: _,h,_=>by simp at h
 | _ :: _,[],h,_=>by simp at h
 | a :: c,b :: d,h,hh=>by
  obtain⟨m,hm⟩:=meetL_ex (c:=c) (d:=d) (by simpa using h) fun i a b ha hb=>hh (i+1) a b (by simpa using ha) (by simpa using hb)
  have:=hh 0 a b rfl rfl
  cases h1:meet1 a b with
  | none=>exact absurd h1 this
  | some x=>exact⟨x :: m,by unfold meetL;rw[h1,hm]⟩
theorem meetL_ct:∀ {c d m:Str},meetL c d=some m->(∀ b ∈ c,b=48\/b=49\/b=120)->(∀ b ∈ d,b=48\/b=49\/b=120)->∀ b ∈ m,b=48\/b=49\/b=120
 | [],[],m,h,_,_=>by cases h;simp
 | [],_ :: _,_,h,_,_=>by cases h
 | _ :: _,[],_,h,_,_=>by cases h
 | a0 :: c,b0 :: d,m,h,hc,hd=>by
  unfold meetL at h
  cases h1:meet1 a0 b0 with
  | none=>rw[h1] at h;cases h
  | some x=>cases h2:meetL c d with
   | none=>rw[h1,h2] at h;cases h
   | some r=>
    rw[h1,h2] at h
    cases h
    intro b hb
    rcases List.mem_cons.1 hb with rfl|hb
    . unfold meet1 at h1
      split at h1
      . cases h1;exact hd _ (by simp)
      . split at h1
        . cases h1;exact hc _ (by simp)
        . cases h1
    . exact meetL_ct h2 (fun b hb=>hc b (by simp[hb])) (fun b hb=>hd b (by simp[hb])) b hb
theorem meetT_ct{c d m:Str}(h:meetT c d=some m)(hc:CT c)(hd:CT d):CT m/\m.length=c.length/\c ≠ []:=by
 unfold meetT at h
 split at h
 . cases h
 . rename_i hne
   have hl:=meetL_len h
   exact⟨⟨by rw[<- hl.1];exact hc.len,meetL_ct h hc.cub hd.cub⟩,hl.1.symm,hne⟩
theorem meetT_eq{c d:Str}(h:c ≠ []):meetT c d=meetL c d:=by unfold meetT;rw[if_neg h]
def cfl(c d:Str)(i:Nat):Bool:=(xor (one c i) (one d i) && car c i) && car d i
theorem word_cfl(c d:Str)(k:Nat):(((wof (one c) k ^^^ wof (one d) k) &&& wof (car c) k) &&& wof (car d) k)=wof (cfl c d) k:=by
 refine BitVec.eq_of_getLsbD_eq fun i hi=>?_
 rw[BitVec.getLsbD_and,BitVec.getLsbD_and,BitVec.getLsbD_xor,wof_get _ _ _ hi,wof_get _ _ _ hi,wof_get _ _ _ hi,wof_get _ _ _ hi,wof_get _ _ _ hi]
 rfl
theorem at_b{t:Str}{i:Nat}{b:UInt8}(h:t[i]? = some b):car t i=dig b/\one t i=(b == 49):=by
 unfold car one
 rw[h]
 exact⟨rfl,rfl⟩
theorem at_out{t:Str}{i:Nat}(h:t.length<=i):car t i=false/\one t i=false:=by
 unfold car one
 rw[List.getElem?_eq_none h]
 exact⟨rfl,rfl⟩
theorem meet1_cfl{a b:UInt8}(ha:a=48\/a=49\/a=120)(hb:b=48\/b=49\/b=120):meet1 a b=none ↔ ((xor (a == 49) (b == 49) && dig a) && dig b)=true:=by
 rcases ha with rfl|rfl|rfl<;>rcases hb with rfl|rfl|rfl<;>simp[meet1,dig]
theorem meet1_bits{a b x:UInt8}(ha:a=48\/a=49\/a=120)(hb:b=48\/b=49\/b=120)(h:meet1 a b=some x):dig x=(dig a || dig b)/\(x == 49)=((a == 49) || (b == 49)):=by
 rcases ha with rfl|rfl|rfl<;>rcases hb with rfl|rfl|rfl<;>simp[meet1] at h<;>subst h<;>simp[dig]
theorem cfl_none{c d:Str}(hc:CT c)(hd:CT d){i:Nat}(h:cfl c d i=true):meetT c d=none:=by
 unfold meetT
 split
 . rfl
 . cases hm:meetL c d with
   | none=>rfl
   | some m=>
    exfalso
    unfold cfl at h
    simp only[Bool.and_eq_true] at h
    have h1:=car_lt h.1.2
    have h2:=car_lt h.2
    have e1:=List.getElem?_eq_getElem h1
    have e2:=List.getElem?_eq_getElem h2
    obtain⟨x,_,hx⟩:=meetL_get hm i _ _ e1 e2
    have:=(meet1_cfl (hc.cub _ (List.getElem_mem h1)) (hd.cub _ (List.getElem_mem h2))).2 (by
     rw[(at_b e1).2,(at_b e2).2,(at_b e1).1,(at_b e2).1] at h
     simp[h.1.1,h.1.2,h.2])
    rw[this] at hx
    cases hx
theorem cfl_some{c d:Str}(hc:CT c)(hd:CT d)(hl:c.length=d.length)(hne:c ≠ [])(h:∀ i,cfl c d i=false):∃ m,meetT c d=some m/\(∀ i,car m i=(car c i || car d i))/\∀ i,one m i=(one c i || one d i):=by
 obtain⟨m,hm⟩:=meetL_ex hl fun i a b ha hb hn=>by
  have h1:=(meet1_cfl (hc.cub _ (List.mem_of_getElem? ha)) (hd.cub _ (List.mem_of_getElem? hb))).1 hn
  have h2:=h i
  unfold cfl at h2
  rw[(at_b ha).2,(at_b hb).2,(at_b ha).1,(at_b hb).1,h1] at h2
  cases h2
 have key:∀ i,car m i=(car c i || car d i)/\one m i=(one c i || one d i):=fun i=>by
  have hlm:=meetL_len hm
  by_cases hi:i<c.length
  . have e1:=List.getElem?_eq_getElem hi
    have e2:=List.getElem?_eq_getElem (show i<d.length by omega)
    obtain⟨x,hx,hxx⟩:=meetL_get hm i _ _ e1 e2
    have:=meet1_bits (hc.cub _ (List.getElem_mem hi)) (hd.cub _ (List.getElem_mem (show i<d.length by omega))) hxx
    rw[(at_b e1).1,(at_b e2).1,(at_b e1).2,(at_b e2).2,(at_b hx).1,(at_b hx).2]
    exact this
  . have h1:=at_out (t:=c) (i:=i) (by omega)
    have h2:=at_out (t:=d) (i:=i) (by omega)
    have h3:=at_out (t:=m) (i:=i) (by omega)
    rw[h1.1,h1.2,h2.1,h2.2,h3.1,h3.2]
    exact⟨rfl,rfl⟩
 exact⟨m,by rw[meetT_eq hne,hm],fun i=>(key i).1,fun i=>(key i).2⟩
theorem wof_or{f g h:Nat->Bool}(e:∀ i,h i=(f i || g i))(k:Nat):wof h k=wof f k ||| wof g k:=by
 refine BitVec.eq_of_getLsbD_eq fun i hi=>?_
 rw[BitVec.getLsbD_or,wof_get _ _ _ hi,wof_get _ _ _ hi,wof_get _ _ _ hi,e]
end Go.Proofs.YtaiondckookpiaaGreatDoor
