/- The walks and the plain laws that a law of spaces needs, part 2 of 5. -/
import Derived.Test.YtaiondckookpiaaDoorQFA
import Derived.Laws.IdiomStrings
import Derived.RangeFuncLeaves
import Derived.RangeFuncOwn
import Derived.OrdersHeld
import Derived.Laws.StructEq
import Derived.ChangeKeysEq
import Derived.Test.YtaiondckookpiaaDoorRows
import Derived.ProofKit
import Derived.Deep.Slices
set_option linter.unusedVariables false
set_option linter.unusedSimpArgs false
namespace Go.Vx
open Go.RowKit
section
variable {w0 w w' : World} {V0 : Fr} {V : Vw} {μ : List Nat} {ω : List Value} {box : List (List D)} {row : Rows} {s : St} {a : Act} {P : Program} {T : Tab}
theorem store_op_sound(hS:Sim (szOf T) w0 V0 V μ ω s a w){r j off:Nat}{e:TypeId}{v:Value}{us:List Value}{ds rw_:List D}{xs:List (List D)}(hv:RS (szOf T) V μ ω v (.op r e j off))(hu:AggI (szOf T) V us ds)
    (hr:s.row[r]? = some (some (e,xs)))(hj:xs[j]? = some rw_)(hle:off+ds.length<=rw_.length) :
    ∃ p w',v = .pointer (some p)/\(storeCells p us).run P w = .ok () w'/\Sim (szOf T) w0 V0 V μ ω ⟨s.env,s.box,s.row.set r (some (e,xs.set j (setCells rw_ off ds))),s.n⟩ a w'/\Step (.row r) V μ ω w V μ ω w':=by
 obtain⟨g,N,c,hω,rfl⟩:=hv.op_
 obtain⟨A,c',vals,he,hc,hm,hA,hA2,hown,hR⟩:=hS.mem.rowShapeR hω hr
 have hjl:j<xs.length:=(List.getElem?_eq_some_iff.1 hj).1
 have hrl:=hR.len j rw_ hj
 cases he
 rcases hown.2 with⟨hnil,_⟩|⟨g',cap,cur,e',fz,he,hbase,hh,h5,h6,h7,h8,h9⟩
 . cases hnil
 cases he
 have hj1:(j+1)*szOf T e<=xs.length*szOf T e:=Nat.mul_le_mul_right _ hjl
 rw[Nat.add_mul,Nat.one_mul] at hj1
 have hcapl:xs.length*szOf T e<=c*szOf T e:=Nat.mul_le_mul_right _ h5
 have hvl:vals.length=xs.length*szOf T e:=hown.1
 have hus:=hu.size
 have hfit:j*szOf T e+off+us.length<=cur.size:=by rw[h7];omega
 have hfit2:j*szOf T e+off+us.length<=vals.length:=by omega
 have hst:=run_storeCells_atR P g (j*szOf T e+off) e' fz us 0 cur w hh (h9.elim (fun h=>.inl h.2) fun h=>.inr h.2) (by omega) hu.one
 rw[Nat.add_zero] at hst
 refine⟨_,_,rfl,hst,⟨hS.tmps,hS.defers.setRow hh _,hS.env,?_⟩,Step.setRow fun e=>⟨_,hω,rfl⟩⟩
 have hωs:ω.set r (.slice (some ⟨g,0,none⟩) xs.length c)=ω:=by
  apply List.ext_getElem?
  intro q
  by_cases hq:q=r
  . subst hq;rw[List.getElem?_set_self (List.getElem?_eq_some_iff.1 hω).1,hω]
  . rw[List.getElem?_set_ne (Ne.symm hq)]
 -- the cells,after
 have hM:=hS.mem.setRowR (w':=w.setRow g (cur.toList.take (j*szOf T e+off)++us++cur.toList.drop (j*szOf T e+off+us.length)).toArray) (v':=.slice (some ⟨g,0,none⟩) xs.length c) (e:=e) (ys:=xs.set j (setCells rw_ off ds))
  (vals:=vals.take (j*szOf T e+off)++us++vals.drop (j*szOf T e+off+us.length)) hω hr
  ⟨rfl,rfl,rfl,by simp,fun k _ hk=>setRow_other w g k _ (fun e=>hk (by simp[Value.ownBlock,e]))⟩ ?_ ?_ (.inl rfl) (box':=s.box) rfl ?_ (fun i cs cs' h1 h2 t h=>by rw[h1] at h2;cases h2;exact h)
 . rw[hωs] at hM
   exact hM
 . refine⟨by rw[splice_len hfit2,List.length_set,hvl],.inr ⟨g,c,_,e',fz,by rw[List.length_set],hbase,setRow_heap w g cur _ e' _ hh,by rw[List.length_set];exact h5,h6,by rw[List.size_toArray,splice_len (by rw[Array.length_toList];exact hfit),Array.length_toList,h7],?_,h9.imp (fun h=>h) fun h=>⟨h.1,by rw[List.size_toArray,splice_len (by rw[Array.length_toList];exact hfit),Array.length_toList];exact h.2⟩⟩⟩
   rw[List.length_set]
   apply List.ext_getElem?
   intro q
   rw[splice_get hfit2,List.getElem?_take]
   by_cases hq0:q<xs.length*szOf T e
   . rw[if_pos hq0,splice_get (by rw[Array.length_toList];exact hfit)]
     split
     . rfl
     . rw[<- h8,List.getElem?_take_of_lt hq0]
   . rw[if_neg hq0,if_neg (by omega),List.getElem?_eq_none (by omega)]
 . refine⟨fun u hu'=>?_,fun i rw2 h=>?_,fun i rw2 k d h1 h2=>?_⟩
   . simp only[List.mem_append] at hu'
     rcases hu' with (h|h)|h
     . exact hR.one u (List.mem_of_mem_take h)
     . exact hu.one u h
     . exact hR.one u (List.mem_of_mem_drop h)
   . by_cases hi:i=j
     . subst hi
       rw[List.getElem?_set_self hjl] at h
       cases h
       rw[setCells_len hle]
       exact hrl
     . rw[List.getElem?_set_ne (Ne.symm hi)] at h
       exact hR.len i rw2 h
   . by_cases hi:i=j
     . subst hi
       rw[List.getElem?_set_self hjl] at h1
       cases h1
       rw[setCells_get hle] at h2
       split at h2
       . rename_i hc
         have hlt:k - off<us.length:=by omega
         refine⟨us[k - off],?_,hu.rel _ _ d (List.getElem?_eq_getElem hlt) h2⟩
         rw[splice_get hfit2,if_pos (by omega),show i*szOf T e+k - (i*szOf T e+off)=k - off by omega]
         exact List.getElem?_eq_getElem hlt
       . rename_i hc
         obtain⟨u,h3,h4⟩:=hR.rel i rw_ k d hj h2
         exact⟨u,by rw[splice_get hfit2,if_neg (by omega)];exact h3,h4⟩
     . rw[List.getElem?_set_ne (Ne.symm hi)] at h1
       obtain⟨u,h3,h4⟩:=hR.rel i rw2 k d h1 h2
       refine⟨u,?_,h4⟩
       have hk:k<szOf T e:=by rw[<- hR.len i rw2 h1];exact (List.getElem?_eq_some_iff.1 h2).1
       rw[splice_get hfit2,if_neg]
       . exact h3
       . rcases Nat.lt_or_gt_of_ne hi with hlt|hgt
         . have:(i+1)*szOf T e<=j*szOf T e:=Nat.mul_le_mul_right _ hlt
           rw[Nat.add_mul,Nat.one_mul] at this
           omega
         . have:(j+1)*szOf T e<=i*szOf T e:=Nat.mul_le_mul_right _ hgt
           rw[Nat.add_mul,Nat.one_mul] at this
           omega
 . intro i cs cs' h1 h2
   rw[h1] at h2
   cases h2
   refine⟨rfl,fun k u d d' e1 e2 h=>?_⟩
   rw[e1] at e2
   cases e2
   rw[hωs]
   exact h
theorem Step.trans{E:Src}{w'':World}{V':Vw}{μ':List Nat}{ω':List Value}(h1:Step E V μ ω w V μ ω w')(h2:Step E V μ ω w' V' μ' ω' w''):Step E V μ ω w V' μ' ω' w'':=
 ⟨h2.vle,h2.pre,h2.row,fun q v hq hn=>h2.foot q v (h1.foot q v hq hn) hn⟩
theorem splice_step{α:Type}(xs:List α)(k:Nat)(y:α)(ys:List α)(h:k<xs.length) :
    (xs.set k y).take (k+1)++ys++(xs.set k y).drop (k+1+ys.length)=xs.take k++(y :: ys)++xs.drop (k+(ys.length+1)):=by
 apply List.ext_getElem?
 intro i
 have hl:((xs.set k y).take (k+1)).length=k+1:=by rw[List.length_take,List.length_set];omega
 have hl2:(xs.take k).length=k:=by rw[List.length_take];omega
 rw[List.append_assoc,List.append_assoc]
 by_cases h1:i<k
 . rw[List.getElem?_append_left (l₁:=(xs.set k y).take (k+1)) (by omega),List.getElem?_append_left (l₁:=xs.take k) (by omega),List.getElem?_take_of_lt (by omega),List.getElem?_take_of_lt h1,List.getElem?_set_ne (by omega)]
 by_cases h2:i=k
 . subst h2
   rw[List.getElem?_append_left (l₁:=(xs.set i y).take (i+1)) (by omega),List.getElem?_append_right (l₁:=xs.take i) (by omega),List.getElem?_take_of_lt (by omega),List.getElem?_set_self h,hl2,Nat.sub_self]
   rfl
 . rw[List.getElem?_append_right (l₁:=(xs.set k y).take (k+1)) (by omega),List.getElem?_append_right (l₁:=xs.take k) (by omega),hl,hl2]
   rw[show i - k=(i - (k+1))+1 by omega]
   show _=(y :: (ys++xs.drop (k+(ys.length+1))))[_+1]?
   rw[List.getElem?_cons_succ]
   by_cases h3:i - (k+1)<ys.length
   . rw[List.getElem?_append_left h3,List.getElem?_append_left h3]
   . rw[List.getElem?_append_right (by omega),List.getElem?_append_right (by omega),List.getElem?_drop,List.getElem?_drop,List.getElem?_set_ne (by omega)]
     congr 1
     omega
theorem store_span_sound{g N c:Nat}{lo r:Nat}{e:TypeId}(h1:szOf T e=1)(hω:ω[r]? = some (.slice (some ⟨g,0,none⟩) N c)):∀ (us:List Value) (ds:List D) (i:Nat) {xs:List (List D)} {s:St} {w:World},
    Sim (szOf T) w0 V0 V μ ω s a w->AggI (szOf T) V us ds->s.row[r]? = some (some (e,xs))->lo+i+ds.length<=xs.length ->
    ∃ w',(storeCells ⟨g,lo,none⟩ us i).run P w = .ok () w'/\Sim (szOf T) w0 V0 V μ ω ⟨s.env,s.box,s.row.set r (some (e,xs.take (lo+i)++ds.map (fun d=>[d])++xs.drop (lo+i+ds.length))),s.n⟩ a w'/\Step (.row r) V μ ω w V μ ω w'
 | [],ds,i,xs,s,w,hS,hu,hr,hle=>by
  obtain rfl:ds=[]:=List.eq_nil_of_length_eq_zero (by have:=hu.size;simpa using this.symm)
  refine⟨w,rfl,?_,⟨fun _ _ h=>h,.refl _,fun _ _ _ _ h=>h,fun _ _ h _=>h⟩⟩
  have hs:s.row.set r (some (e,xs))=s.row:=by
   apply List.ext_getElem?
   intro q
   by_cases hq:q=r
   . subst hq;rw[List.getElem?_set_self (List.getElem?_eq_some_iff.1 hr).1,hr]
   . rw[List.getElem?_set_ne (Ne.symm hq)]
  simp only[List.map_nil,List.append_nil,List.length_nil,Nat.add_zero,List.take_append_drop,hs]
  exact hS
 | v :: us,[],i,xs,s,w,hS,hu,hr,hle=>by have:=hu.size;simp at this
 | v :: us,d :: ds,i,xs,s,w,hS,hu,hr,hle=>by
  simp only[List.length_cons] at hle
  obtain⟨x,hx⟩:∃ x,xs[lo+i]? = some x:=⟨_,List.getElem?_eq_getElem (by omega)⟩
  obtain⟨_,_,vals,_,_,_,_,_,_,hR⟩:=hS.mem.rowShapeR hω hr
  have hxl:=hR.len _ _ hx
  rw[h1] at hxl
  have hu0:AggI (szOf T) V [v] [d]:=⟨rfl,fun x hx=>by rw[List.mem_singleton.1 hx];exact hu.one v (by simp),fun j u d' e1 e2=>by
   cases j with
   | zero=>exact hu.rel 0 u d' (by simpa using e1) (by simpa using e2)
   | succ j=>simp at e1⟩
  have hu1:AggI (szOf T) V us ds:=⟨by have:=hu.size;simpa using this,fun x hx=>hu.one x (by simp[hx]),fun j u d' e1 e2=>hu.rel (j+1) u d' (by simpa using e1) (by simpa using e2)⟩
  obtain⟨p,w1,hp,hst,hS1,hstep⟩:=store_op_sound (P:=P) (j:=lo+i) (off:=0) hS (RS.op r e (lo+i) 0 g _ _ hω) hu0 hr hx (by rw[hxl];simp)
  have hset:setCells x 0 [d]=[d]:=by
   unfold setCells
   rw[List.take_zero,List.drop_eq_nil_of_le (by rw[hxl];simp)]
   rfl
  rw[hset] at hS1
  have hpe:p=(⟨g,lo,none⟩:Addr).add i:=by
   injection hp with hp
   injection hp with hp
   rw[<- hp,h1]
   simp[Addr.add]
  have hr1:(s.row.set r (some (e,xs.set (lo+i) [d])))[r]? = some (some (e,xs.set (lo+i) [d])):=by rw[List.getElem?_set_self (List.getElem?_eq_some_iff.1 hr).1]
  obtain⟨w2,hst2,hS2,hstep2⟩:=store_span_sound (lo:=lo) h1 hω us ds (i+1) (xs:=xs.set (lo+i) [d]) hS1 hu1 hr1 (by rw[List.length_set];omega)
  refine⟨w2,?_,?_,hstep.trans hstep2⟩
  . have h0:(store ((⟨g,lo,none⟩:Addr).add i) v).run P w = .ok () w1:=by
      rw[hpe] at hst
      have:((⟨g,lo,none⟩:Addr).add i).add 0=(⟨g,lo,none⟩:Addr).add i:=by simp[Addr.add]
      simp only[storeCells,this] at hst
      rw[Sem.run_bind] at hst
      cases hq:(store ((⟨g,lo,none⟩:Addr).add i) v).run P w<;>rw[hq] at hst<;>simp[Result.andThen] at hst
      subst hst
      rfl
    simp only[storeCells,Sem.run_bind,h0,Result.andThen_ok,hst2]
  . have hsp:=splice_step xs (lo+i) [d] (ds.map fun d=>[d]) (by omega)
    rw[List.length_map] at hsp
    rw[show lo+(i+1)=lo+i+1 by omega,List.set_set,hsp] at hS2
    rw[List.map_cons,List.length_cons]
    exact hS2
end
end Go.Vx
namespace Go.Vx
open Go.RowKit
section
variable {w0 w w' : World} {V0 : Fr} {V : Vw} {μ : List Nat} {ω : List Value} {box : List (List D)} {row : Rows} {s : St} {a : Act} {P : Program} {T : Tab}
theorem DefOk.ownGrown{ds:List Deferred}(h:DefOk w0 V0 ds w)(hM:Mem (szOf T) w0 V0 V μ ω box row w){r:Nat}{v:Value}{e:TypeId}{xs:List (List D)}(hω:ω[r]? = some v)(hr:row[r]? = some (some (e,xs)))
    (hg:w.grownBy w' v.ownBlock):DefOk w0 V0 ds w':=
 h.grown hg fun g e=>by
  obtain⟨vals,hown,_⟩:=hM.hrow r v _ _ hω hr
  rcases hown.2 with⟨rfl,_⟩|⟨g',cap,cur,e',fz,rfl,_,hh,_⟩
  . cases e
  . cases e;exact⟨_,_,_,hh⟩
theorem newRow_soundR(hS:Sim (szOf T) w0 V0 V μ ω s a w)(he:Ext w w'){v:Value}{e:TypeId}{xs:List (List D)}{vals:List Value}{c m:Nat}{A:Option Addr}(hv:v = .slice A xs.length c)
    (hown:ownsR w' w0.heap.size e (szOf T e) v xs.length vals)(hr:RowR (szOf T) V e vals xs)(hb:∀ g,v.ownBlock=some g->w.heap.size<=g)(hm:m=xs.length){K:D->St->Prop}
    (h:match s with|⟨env,box,row,n⟩=>snocK row (some (e,xs)) fun row'=>natLit row.length fun r=>K (.own r m) ⟨env,box,row',n⟩) :
    ∃ d s' ω',K d s'/\RS (szOf T) V μ ω' v d/\Sim (szOf T) w0 V0 V μ ω' s' a w'/\Pre ω ω':=by
 obtain⟨env,box,row,n⟩:=s
 simp only[snocK_eq,natLit_eq] at h
 have hM:=hS.mem.newRowR he hown hr hb
 subst hm
 refine⟨_,_,_,h,?_,⟨hS.tmps,hS.defers.ext he,fun t=>(hS.env t).mono (.refl V) (.refl μ) (.append _ _),hM⟩,.append _ _⟩
 subst hv
 have hl:row.length=ω.length:=hS.mem.rl.symm
 refine .own row.length xs.length A xs.length c ?_ (Nat.le_refl _)
 rw[hl,List.getElem?_append_right (Nat.le_refl _)]
 simp
theorem newRow_sound(hS:Sim (szOf T) w0 V0 V μ ω s a w)(he:Ext w w'){v:Value}{e:TypeId}{xs:List (List D)}{vals:List Value}{c m:Nat}{A:Option Addr}(hv:v = .slice A xs.length c)
    (hown:w'.ownsRow w0.heap.size e (szOf T e) v xs.length vals)(hr:RowR (szOf T) V e vals xs)(hb:∀ g,v.ownBlock=some g->w.heap.size<=g)(hm:m=xs.length){K:D->St->Prop}
    (h:match s with|⟨env,box,row,n⟩=>snocK row (some (e,xs)) fun row'=>natLit row.length fun r=>K (.own r m) ⟨env,box,row',n⟩) :
    ∃ d s' ω',K d s'/\RS (szOf T) V μ ω' v d/\Sim (szOf T) w0 V0 V μ ω' s' a w'/\Pre ω ω':=newRow_soundR hS he hv (.of hown) hr hb hm h
theorem fill_rows{size len:Nat}:∀ (vs:List Value) (i:Nat) (cs:Array Value),cs.size=len*size->i+vs.length<=len->(∀ v ∈ vs,v.cells.size=size) ->
    ∃ us,Instr.fill (fun i=>some (i*size,size)) cs ((List.range' i vs.length).zip vs)=some us/\us.size=len*size/\(∀ k,k<i*size->us[k]? = cs[k]?) /\
     ∀ (j:Nat) v (c:Nat),vs[j]? = some v->c<size->us[(i+j)*size+c]? = v.cells[c]?
 | [],i,cs,hs,_,_=>⟨cs,rfl,hs,fun _ _=>rfl,by simp⟩
 | v :: vs,i,cs,hs,hl,hc=>by
  have hv:=hc v (by simp)
  have hle:(i+1)*size<=len*size:=Nat.mul_le_mul_right _ (by simp at hl;omega)
  rw[Nat.add_mul,Nat.one_mul] at hle
  have e1:v.cells.zipIdx.foldl (fun cs (x:Value × Nat)=>cs.setIfInBounds (i*size+x.2) x.1) cs=((v.cells.toList.zipIdx 0).foldl (fun cs (x:Value × Nat)=>cs.setIfInBounds (i*size+x.2) x.1) cs):=by
   rw[<- Array.foldl_toList,Array.toList_zipIdx]
  obtain⟨h1,h2⟩:=setMany_get v.cells.toList (i*size) 0 cs
  obtain⟨us,h3,h4,h5,h6⟩:=fill_rows vs (i+1) (v.cells.zipIdx.foldl (fun cs (x:Value × Nat)=>cs.setIfInBounds (i*size+x.2) x.1) cs) (by rw[e1,h1,hs]) (by simp at hl ⊢;omega) (fun v hv=>hc v (by simp[hv]))
  refine⟨us,?_,h4,fun k hk=>?_,fun j u c hj hcs=>?_⟩
  . simp only[List.length_cons,List.range'_succ,List.zip_cons_cons,Instr.fill]
    rw[if_neg (by simp[hv,hs];omega)]
    exact h3
  . rw[h5 k (by rw[Nat.add_mul];omega),e1,h2 k,if_neg (by omega)]
  . cases j with
    | zero=>
     simp only[List.getElem?_cons_zero,Option.some.injEq] at hj
     subst hj
     rw[Nat.add_zero,h5 _ (by rw[Nat.add_mul];omega),e1,h2,if_pos ⟨by omega,by rw[Array.length_toList,hv];omega,by rw[hs];omega⟩]
     rw[show i*size+c - (i*size+0)=c by omega]
     simp
    | succ j=>
     have:=h6 j u c (by simpa using hj) hcs
     rw[show i+1+j=i+(j+1) by omega] at this
     exact this
theorem partsK_sound{sz:Nat}{e:TypeId}:∀ (ds:List D) (i:Nat) (vs:List Value) (K:List (List D)->Prop),vs.length=ds.length ->
    (∀ (j:Nat) v d,vs[j]? = some v->ds[j]? = some d->RS (szOf T) V μ ω v d)->partsK T e sz i ds K ->
    ∃ rows,K rows/\rows.length=vs.length/\(∀ v ∈ vs,v.cells.size=sz)/\∀ (j:Nat) v rw_,vs[j]? = some v->rows[j]? = some rw_->AggI (szOf T) V v.cells.toList rw_
 | [],i,vs,K,hl,hR,h=>by
  have:vs=[]:=List.eq_nil_of_length_eq_zero hl
  subst this
  exact⟨[],h,rfl,by simp,by simp⟩
 | d :: ds,i,[],K,hl,hR,h=>by simp at hl
 | d :: ds,i,v :: vs,K,hl,hR,h=>by
  simp only[partsK] at h
  obtain⟨cs,hag,h⟩:=cellsK_sound (hR 0 v d rfl rfl) h
  obtain⟨hcs,h⟩:=eqN_iff h
  obtain⟨es,h,hes⟩:=normL_sound cs 0 v.cells.toList _ (by rw[Array.length_toList];exact hag.size) hag.one (fun j v d h1 h2=>hag.rel j v d (by simpa using h1) h2) h
  obtain⟨rows,h,h1,h2,h3⟩:=partsK_sound ds (i+1) vs _ (by simpa using hl) (fun j v d h1 h2=>hR (j+1) v d (by simpa using h1) (by simpa using h2)) h
  refine⟨es :: rows,h,by simp[h1],fun u hu=>?_,fun j u rw_ hj1 hj2=>?_⟩
  . rcases List.mem_cons.1 hu with rfl|hu
    . rw[hag.size];exact hcs
    . exact h2 u hu
  . cases j with
    | zero=>simp at hj1 hj2;subst hj1 hj2;exact hes
    | succ j=>exact h3 j u rw_ (by simpa using hj1) (by simpa using hj2)
theorem seqK_iff:∀ {l:List Nat} {i:Nat} {p:Prop},seqK i l p->l=List.range' i l.length/\p
 | [],i,p,h=>⟨rfl,h⟩
 | j :: l,i,p,h=>by
  simp only[seqK] at h
  obtain⟨he,h0⟩:=eqN_iff h
  subst he
  obtain⟨h1,h2⟩:=seqK_iff h0
  refine⟨?_,h2⟩
  rw[List.length_cons,List.range'_succ,<- h1]
theorem rowR_cells{e:TypeId}{us:Array Value}{vs:List Value}{rows:List (List D)}{size:Nat}(hsz:szOf T e=size)(hs:us.size=vs.length*size)(hl:rows.length=vs.length)(hc:∀ v ∈ vs,v.cells.size=size)
    (hu:∀ (j:Nat) v (c:Nat),vs[j]? = some v->c<size->us[(0+j)*size+c]? = v.cells[c]?)
    (hr:∀ (j:Nat) v rw_,vs[j]? = some v->rows[j]? = some rw_->AggI (szOf T) V v.cells.toList rw_):RowR (szOf T) V e us.toList rows:=by
 have hget:∀ i rw_,rows[i]? = some rw_->∃ v,vs[i]? = some v:=fun i rw_ h=>⟨_,List.getElem?_eq_getElem (by rw[<- hl];exact (List.getElem?_eq_some_iff.1 h).1)⟩
 refine⟨fun u hu'=>?_,fun i rw_ h=>?_,fun i rw_ j d h1 h2=>?_⟩
 . obtain⟨k,hk⟩:=List.getElem?_of_mem hu'
   have hkl:k<vs.length*size:=by rw[<- hs];simpa using (List.getElem?_eq_some_iff.1 hk).1
   have hz:0<size:=by
    rcases Nat.eq_zero_or_pos size with h0|h0
    . rw[h0] at hkl;simp at hkl
    . exact h0
   have h1:k / size<vs.length:=Nat.div_lt_of_lt_mul (by rw[Nat.mul_comm];exact hkl)
   have h2:=Nat.mod_lt k hz
   have h3:(0+k / size)*size+k % size=k:=by
    have:=Nat.div_add_mod k size
    rw[Nat.zero_add,Nat.mul_comm];exact this
   have h4:=hu _ _ (k % size) (List.getElem?_eq_getElem h1) h2
   rw[h3] at h4
   rw[Array.getElem?_toList,h4] at hk
   have hrl:k / size<rows.length:=by rw[hl];exact h1
   have:=hr _ _ _ (List.getElem?_eq_getElem h1) (List.getElem?_eq_getElem hrl)
   exact this.one u (by rw[<- Array.getElem?_toList] at hk;exact List.mem_of_getElem? hk)
 . obtain⟨v,hv⟩:=hget i rw_ h
   have:=(hr i v rw_ hv h).size
   rw[<- this,Array.length_toList,hc v (List.mem_of_getElem? hv),hsz]
 . obtain⟨v,hv⟩:=hget i rw_ h1
   have ha:=hr i v rw_ hv h1
   have hj:j<v.cells.toList.length:=by rw[ha.size];exact (List.getElem?_eq_some_iff.1 h2).1
   have h3:=hu i v j hv (by rw[Array.length_toList,hc v (List.mem_of_getElem? hv)] at hj;exact hj)
   rw[Nat.zero_add] at h3
   refine⟨v.cells.toList[j],?_,ha.rel j _ d (List.getElem?_eq_getElem hj) h2⟩
   rw[hsz,Array.getElem?_toList,h3,<- Array.getElem?_toList]
   exact List.getElem?_eq_getElem hj
theorem rowsOf_sound(hS:Sim (szOf T) w0 V0 V μ ω s a w){y:D}{v:Value}{K:TypeId->List (List D)->Prop}(hv:RS (szOf T) V μ ω v y)(h:rowsOf s.row y K) :
    ∃ e ys A c vals,K e ys/\Reads_ (szOf T) V w e v ys A c vals:=by
 unfold rowsOf at h
 split at h
 . obtain⟨A,c,vals,hr⟩:=lst_reads hS.mem.vok hv
   exact⟨_,_,A,c,vals,h,hr⟩
 . split at h
   case h_2=>exact h.elim
   rename_i e xs hr
   obtain⟨hm,ys,hy,h⟩:=h
   obtain⟨A,c,vals,hrd⟩:=own_reads hS.mem hv hr hm hy
   exact⟨_,_,A,c,vals,h,hrd⟩
 . exact h.elim
theorem slE_iff(hT:TOk P T){t:TypeId}{p:Prop}(h:slE T t p):(∃ e ti,P.underlying t=some (.slice e)/\T e=some ti)/\p:=by
 unfold slE at h
 split at h
 case h_2=>exact h.elim
 rename_i e z hti
 split at h
 case h_2=>exact h.elim
 rename_i ti hte
 exact⟨⟨e,ti,(hT _ _ hti).kind,hte⟩,h⟩
theorem append_nilS{t ty e:TypeId}(ht:P.underlying t=some (.slice e)){i:TypeInfo}(hi:P.info? e=some i)(v:Value){n c:Nat}{A:Option Addr}(hv:v = .slice A n c)(hnc:n<=c) :
    (Builtin.append_ #[t,t] ty #[v,.slice none 0 0]).run P w = .ok v w:=by
 subst hv
 cases A<;>simp[Builtin.append_,run_underlying ht,sizeOf,typeInfo,hi,Builtin.lenOf,Builtin.firstCells,hnc,storeCells]
theorem setCells_all{cs ds:List D}(h:ds.length=cs.length):setCells cs 0 ds=ds:=by
 unfold setCells
 rw[Nat.zero_add,List.drop_of_length_le (by omega)]
 simp
theorem takeRow_sound{env:List (Nat × D)}{n:Nat}(hS:Sim (szOf T) w0 V0 V μ ω ⟨env,box,row,n⟩ a w)(he:Ext w w'){q t1 g' c':Nat}{e:TypeId}{xs:List (List D)}{vals:List Value}{d:D}{K:D->St->Prop}(hq:takesK row q e)
    (ho:w'.ownsRow w0.heap.size e (szOf T e) (.slice (some ⟨g',0,none⟩) xs.length c') xs.length vals)(hR:RowR (szOf T) V e vals xs)(hg:w.heap.size<=g')
    (h:subE q (fun _=>.u) env fun env=>subB q (fun _=>.u) box fun box=>setK row q (some (e,xs)) fun row=>K d ⟨(t1,.tie q g' xs.length c') :: env,box,row,n⟩) :
    ∃ s' ω',K d s'/\Sim (szOf T) w0 V0 V μ ω' s' a w'/\Pre μ μ:=by
 simp only[subE_eq,subB_eq] at h
 obtain⟨hrl,hfin⟩:=setK_iff _ _ _ _ h
 unfold takesK at hq
 split at hq
 case h_2=>exact hq.elim
 rename_i e' xs0 hrow
 obtain⟨hee,_⟩:=eqN_iff hq
 subst hee
 have hrlω:q<ω.length:=by rw[hS.mem.rl];exact hrl
 have hω:ω[q]? = some ω[q]:=List.getElem?_eq_getElem hrlω
 have hset:∀ r v,r ≠ q->ω[r]? = some v->(ω.set q (.slice (some ⟨g',0,none⟩) xs.length c'))[r]? = some v:=fun r v hr h=>by rw[List.getElem?_set_ne (Ne.symm hr)];exact h
 have hdead:∀ k v,RS (szOf T) V μ ω v (.own q k)->RS (szOf T) V μ (ω.set q (.slice (some ⟨g',0,none⟩) xs.length c')) v .u:=fun _ v _=>.imm _ _ (.u v)
 have hM:=hS.mem.setRow_ (e:=e) (ys:=xs) hω hrow ⟨he.os,he.tape,he.output,he.size,fun k hk _=>he.block k hk⟩ ho hR (v':=.slice (some ⟨g',0,none⟩) xs.length c') (.inr ⟨g',rfl,hg⟩) (box':=box.map fun c=>c.map (sub1F q fun _=>.u)) (by simp) (by
  intro i cs cs' h1 h2
  simp only[List.getElem?_map,Option.map_eq_some_iff] at h2
  obtain⟨c0,hc0,rfl⟩:=h2
  rw[h1] at hc0
  cases hc0
  refine⟨by simp,fun j u d d' e1 e2 hrs=>?_⟩
  simp only[List.getElem?_map,Option.map_eq_some_iff] at e2
  obtain⟨d0,hd0,rfl⟩:=e2
  rw[e1] at hd0
  cases hd0
  exact hrs.sub1 (.refl V) hset hdead) (fun i cs cs' h1 h2 t h=>by simp only[List.getElem?_map,h1,Option.map_some,Option.some.injEq] at h2;subst h2;exact bTy_sub (fun _=>rfl) h)
 refine⟨_,_,hfin,⟨hS.tmps,hS.defers.ext he,fun t=>?_,hM⟩,.refl μ⟩
 show RS _ _ _ _ _ (look ((t1,_) :: env.map fun x=>(x.1,subDF q (fun _=>.u) x.2)) t)
 unfold look
 split
 . exact .tie _ _ _ _ _ (List.getElem?_set_self hrlω)
 . rw[look_sub]
   exact (hS.env t).sub (.refl V) hset hdead
theorem appK_sound(hT:TOk P T)(hS:Sim (szOf T) w0 V0 V μ ω s a w){t ty:TypeId}{x y:D}{vx vy:Value}{K:D->St->Prop}(hx:RS (szOf T) V μ ω vx x)(hy:RS (szOf T) V μ ω vy y)(h:appK T s t x y K) :
    ∃ d v s' ω' w',K d s'/\RS (szOf T) V μ ω' v d/\Sim (szOf T) w0 V0 V μ ω' s' a w'/\(Builtin.append_ #[t,t] ty #[vx,vy]).run P w = .ok v w'/\Step (effA x) V μ ω w V μ ω' w':=by
 obtain⟨env,box,row,n⟩:=s
 unfold appK at h
 dsimp only at h
 split at h
 . obtain⟨⟨e,ti,hu,hti⟩,h⟩:=slE_iff hT h
   obtain⟨i,z,hi,_⟩:=(hT _ _ hti).info
   refine⟨_,_,_,ω,w,h,.imm _ _ .nilS,hS,?_,.ext (fun _ _ h=>h) (.refl _) (.refl _) (Ext.refl w)⟩
   rw[hy.nilS_]
   exact append_nilS hu hi vx (hx.nilS_) (Nat.le_refl _) |>.trans (by rw[hx.nilS_])
 . rename_i r m
   obtain⟨⟨e,ti,hu,hti⟩,h⟩:=slE_iff hT h
   obtain⟨i,z,hi,_⟩:=(hT _ _ hti).info
   split at h
   case h_2=>exact h.elim
   rename_i y hrow
   obtain⟨e2,xs⟩:=y
   obtain⟨A,N,c,hω,hn,hv⟩:=hx.own_
   obtain⟨A2,c2,vals,e1,hc,_⟩:=hS.mem.rowShapeR hω hrow
   cases e1
   refine⟨_,_,_,ω,w,h,hx,hS,?_,.ext (fun _ _ h=>h) (.refl _) (.refl _) (Ext.refl w)⟩
   rw[hy.nilS_]
   exact append_nilS hu hi vx hv (by omega)
 . -- a first row
   obtain⟨e,ys,A,c,vals,h,hrd⟩:=rowsOf_sound hS hy h
   obtain⟨hu,hz,_,h⟩:=slK_iff hT h
   obtain⟨⟨ti,hti,hs1,hby⟩,h⟩:=elemK_iff h
   have hlen:ys.length<=2147483648:=h.1
   obtain⟨i,z,hi,h2,h3,h4,h5,h6,h7⟩:=(hT _ _ hti).info
   have hsz:=szOf_eq hti
   obtain⟨v',w',hr,ho,hg,hb⟩:=run_append_ (P:=P) (w:=w) t ty e i z ti.size hu hi h4 h2 h6 hs1 (by rw[h3];exact hby) (base:=w0.heap.size) vx 0 [] (by rw[hx.nilS_];exact World.ownsRow_nil _ _ _ _) A ys.length c vals
    (fun h=>let ⟨p,q⟩:=hrd.nil h;⟨p,by rw[q];rfl⟩) (by rw[hrd.len,hsz]) hrd.cell hrd.rr.one (by omega) hS.mem.below.size
   rw[hx.nilS_] at hg hb
   have he:Ext w w':=⟨hg.os,hg.tape,hg.output,hg.size,fun k hk=>hg.block k hk (by simp[Value.ownBlock])⟩
   have hshape:∃ A' c',v' = .slice A' ys.length c':=by
    rcases ho.2 with⟨q,q2⟩|⟨g,cap,cur,q,_⟩
    . exact⟨none,0,by rw[q];congr 1;omega⟩
    . exact⟨_,cap,by rw[q,Nat.zero_add]⟩
   have hshape2:0<ys.length->∃ g' c',ys.length<=c'/\v' = .slice (some ⟨g',0,none⟩) ys.length c':=by
    intro h0
    rcases ho.2 with⟨q,q2⟩|⟨g,cap,cur,q,_,_,q3,_⟩
    . omega
    . exact⟨_,cap,by omega,by rw[q,Nat.zero_add]⟩
   obtain⟨A',c',hv'⟩:=hshape
   rw[Nat.zero_add,List.nil_append] at ho
   have hbl:∀ g,v'.ownBlock=some g->w.heap.size<=g:=by
    intro g hg'
    rcases hb with hb|⟨g2,h8,h9⟩
    . rw[hg'] at hb;simp[Value.ownBlock] at hb
    . rw[hg'] at h8;cases h8;exact h9
   obtain⟨_,zs,m,rfl,rfl,h⟩:=h
   obtain⟨d,s',ω',hk,hr',hS',hpre⟩:=newRow_sound hS he hv' (by rw[hsz];exact ho) hrd.rr hbl rfl h
   refine⟨d,v',s',ω',w',hk,hr',hS',?_,.ext (fun _ _ h=>h) (.refl _) hpre he⟩
   rw[hrd.val]
   exact hr
 . -- a nil slice told as such
   obtain⟨t1,h⟩:=h
   obtain⟨e,ys,A,c,vals,h,hrd⟩:=rowsOf_sound hS hy h
   obtain⟨hu,hz,_,h⟩:=slK_iff hT h
   obtain⟨⟨ti,hti,hs1,hby⟩,h⟩:=elemK_iff h
   have hlen:ys.length<=2147483648:=h.1
   obtain⟨i,z,hi,h2,h3,h4,h5,h6,h7⟩:=(hT _ _ hti).info
   have hsz:=szOf_eq hti
   obtain⟨v',w',hr,ho,hg,hb⟩:=run_append_ (P:=P) (w:=w) t ty e i z ti.size hu hi h4 h2 h6 hs1 (by rw[h3];exact hby) (base:=w0.heap.size) vx 0 [] (by rw[hx.rnl_];exact World.ownsRow_nil _ _ _ _) A ys.length c vals
    (fun h=>let ⟨p,q⟩:=hrd.nil h;⟨p,by rw[q];rfl⟩) (by rw[hrd.len,hsz]) hrd.cell hrd.rr.one (by omega) hS.mem.below.size
   rw[hx.rnl_] at hg hb
   have he:Ext w w':=⟨hg.os,hg.tape,hg.output,hg.size,fun k hk=>hg.block k hk (by simp[Value.ownBlock])⟩
   have hshape:∃ A' c',v' = .slice A' ys.length c':=by
    rcases ho.2 with⟨q,q2⟩|⟨g,cap,cur,q,_⟩
    . exact⟨none,0,by rw[q];congr 1;omega⟩
    . exact⟨_,cap,by rw[q,Nat.zero_add]⟩
   have hshape2:0<ys.length->∃ g' c',ys.length<=c'/\v' = .slice (some ⟨g',0,none⟩) ys.length c':=by
    intro h0
    rcases ho.2 with⟨q,q2⟩|⟨g,cap,cur,q,_,_,q3,_⟩
    . omega
    . exact⟨_,cap,by omega,by rw[q,Nat.zero_add]⟩
   obtain⟨A',c',hv'⟩:=hshape
   rw[Nat.zero_add,List.nil_append] at ho
   have hbl:∀ g,v'.ownBlock=some g->w.heap.size<=g:=by
    intro g hg'
    rcases hb with hb|⟨g2,h8,h9⟩
    . rw[hg'] at hb;simp[Value.ownBlock] at hb
    . rw[hg'] at h8;cases h8;exact h9
   obtain⟨_,h0,zs,m,rfl,rfl,h⟩:=h
   obtain⟨g',c',hc',rfl⟩:=hshape2 h0
   have h:=h g' c' hc'
   simp only[snocK_eq,natLit_eq] at h
   have hM:=hS.mem.newRow he (e:=e) (by rw[hsz];exact ho) hrd.rr hbl
   have hl:row.length=ω.length:=hS.mem.rl.symm
   refine⟨_,_,_,ω++[.slice (some ⟨g',0,none⟩) zs.length c'],w',h,.imm _ _ (.rsl _ _ _),⟨hS.tmps,hS.defers.ext he,fun t=>?_,hM⟩,?_,.ext (fun _ _ h=>h) (.refl _) (.append _ _) he⟩
   . show RS _ _ _ _ _ (look ((t1,_) :: env) t)
     unfold look
     split
     . exact .tie _ _ _ _ _ (by rw[hl,List.getElem?_append_right (Nat.le_refl _),Nat.sub_self];rfl)
     . exact (hS.env t).mono (.refl V) (.refl μ) (.append _ _)
   . rw[hrd.val]
     exact hr
 . -- a row grows
   rename_i r m _
   split at h
   case h_2=>exact h.elim
   rename_i e xs hrow
   obtain⟨hu,hz,_,h⟩:=slK_iff hT h
   obtain⟨⟨ti,hti,hs1,hby⟩,h⟩:=elemK_iff h
   rcases h with⟨hm,h10⟩|⟨hm,h10⟩
   . obtain⟨e',ys,A,c,vals,h11,hrd⟩:=rowsOf_sound hS hy h10
     obtain⟨hee,h12⟩:=eqN_iff h11
     subst hee
     obtain⟨hlen,zs,k,rfl,rfl,h13⟩:=h12
     simp only[subE_eq,subB_eq] at h13
     obtain⟨hrl,hfin⟩:=setK_iff _ _ _ _ h13
     clear h10 h11 h13
     obtain⟨i,z,hi,h2,h3,h4,h5,h6,h7⟩:=(hT _ _ hti).info
     have hsz:=szOf_eq hti
     obtain⟨Ax,N,cx,hω,hnN,rfl⟩:=hx.own_
     obtain⟨A2,c2,vx,e1,hc,hmx,hA,hA2,hown,hR⟩:=hS.mem.rowShape (hT _ _ hti).small hω hrow
     cases e1
     subst hm
     obtain⟨v',w',hr,ho,hg,hb⟩:=run_append_ (P:=P) (w:=w) t ty e i z ti.size hu hi h4 h2 h6 hs1 (by rw[h3];exact hby) (base:=w0.heap.size) _ xs.length vx (by rw[hsz] at hown;exact hown) A ys.length c vals
      (fun h=>let ⟨p,q⟩:=hrd.nil h;⟨p,by rw[q];rfl⟩) (by rw[hrd.len,hsz]) hrd.cell hrd.rr.one (by omega) hS.mem.below.size
     have hrlω:r<ω.length:=by rw[hS.mem.rl];exact hrl
     have hset:∀ q v,q ≠ r->ω[q]? = some v->(ω.set r v')[q]? = some v:=fun q v hq h=>by rw[List.getElem?_set_ne (Ne.symm hq)];exact h
     have hdead:∀ m v,RS (szOf T) V μ ω v (.own r m)->RS (szOf T) V μ (ω.set r v') v .u:=fun _ v _=>.imm _ _ (.u v)
     have hM:=hS.mem.setRow_ (e:=e) (ys:=xs++ys) hω hrow hg (by rw[List.length_append,hsz];exact ho) (hR.append hrd.rr hown.1) hb (box':=box.map fun c=>c.map (sub1F r fun _=>.u)) (by simp) (by
      intro i cs cs' h1 h2
      simp only[List.getElem?_map,Option.map_eq_some_iff] at h2
      obtain⟨c0,hc0,rfl⟩:=h2
      rw[h1] at hc0
      cases hc0
      refine⟨by simp,fun j u d d' e1 e2 hrs=>?_⟩
      simp only[List.getElem?_map,Option.map_eq_some_iff] at e2
      obtain⟨d0,hd0,rfl⟩:=e2
      rw[e1] at hd0
      cases hd0
      exact hrs.sub1 (.refl V) hset hdead) (fun i cs cs' h1 h2 t h=>by simp only[List.getElem?_map,h1,Option.map_some,Option.some.injEq] at h2;subst h2;exact bTy_sub (fun _=>rfl) h)
     have hshape:∃ A' c',v' = .slice A' (xs++ys).length c':=by
      rw[List.length_append]
      rcases ho.2 with⟨q,q2⟩|⟨g,cap,cur,q,_⟩
      . exact⟨none,0,by rw[q];congr 1;omega⟩
      . exact⟨_,cap,q⟩
     obtain⟨A',c',hv'⟩:=hshape
     refine⟨_,v',_,_,w',hfin,?_,⟨hS.tmps,hS.defers.ownGrown hS.mem hω hrow hg,fun t=>?_,hM⟩,?_,⟨fun _ _ h=>h,.refl _,fun q v hq _ h=>?_,fun q v hc hn=>hg.cell hc fun e=>hn ⟨_,hω,e.symm⟩⟩⟩
     . subst hv'
       exact .own r _ A' _ c' (List.getElem?_set_self hrlω) (Nat.le_refl _)
     . show RS _ _ _ _ _ (look (env.map fun x=>(x.1,subDF r (fun _=>.u) x.2)) t)
       rw[look_sub]
       exact (hS.env t).sub (.refl V) hset hdead
     . rw[hrd.val]
       exact hr
     . rw[List.getElem?_set_ne (fun e=>hq (by rw[e];rfl))];exact h
   . obtain⟨e',ys,A,c,vals,h11,hrd⟩:=rowsOf_sound hS hy h10
     obtain⟨hee,h12⟩:=eqN_iff h11
     subst hee
     obtain⟨y0,rfl,zs,k,rfl,rfl,h13⟩:=h12
     obtain⟨hrl,hfin⟩:=setK_iff _ _ _ _ h13
     clear h10 h11 h13
     obtain⟨i,z,hi,h2,h3,h4,h5,h6,h7⟩:=(hT _ _ hti).info
     have hsz:=szOf_eq hti
     obtain⟨Ax,N,cx,hω,hnN,rfl⟩:=hx.own_
     obtain⟨A2,c2,vx,e1,hc,hmx,hA,hA2,hown,hR⟩:=hS.mem.rowShape (hT _ _ hti).small hω hrow
     cases e1
     obtain⟨rw_,hrw⟩:∃ rw_,xs[m]? = some rw_:=⟨_,List.getElem?_eq_getElem hm⟩
     have hrwl:=hR.len m rw_ hrw
     have hy0:=hrd.rr.len 0 y0 rfl
     obtain⟨ad,rfl⟩:∃ ad,A=some ad:=by
      cases A with
      | some ad=>exact⟨ad,rfl⟩
      | none=>exact absurd (hrd.nil rfl).2 (by simp)
     obtain⟨g,hg⟩:∃ g,Ax=some ⟨g,0,none⟩:=by
      rcases hown.2 with⟨q,q2⟩|⟨g,cap,cur,q,_⟩
      . omega
      . cases q;exact⟨g,rfl⟩
     subst hg
     have hvl:vals.length=szOf T e:=by have:=hrd.len;simpa using this
     have hu0:AggI (szOf T) V vals y0:=⟨by rw[hvl,hy0],hrd.rr.one,fun j v d h1 h2=>by
      obtain⟨u,hu1,hu2⟩:=hrd.rr.rel 0 y0 j d rfl h2
      rw[Nat.zero_mul,Nat.zero_add,h1] at hu1
      cases hu1
      exact hu2⟩
     obtain⟨p,w',hp,hst,hS',hstep⟩:=store_op_sound (P:=P) (j:=m) (off:=0) hS (RS.op r e m 0 g _ _ hω) hu0 hrow hrw (by rw[hy0,hrwl];omega)
     cases hp
     have hset:setCells rw_ 0 y0=y0:=by
      apply setCells_all
      rw[hy0,hrwl]
     rw[hset] at hS'
     have hval:=hrd.val
     simp only[List.length_cons,List.length_nil,Nat.zero_add] at hval
     refine⟨_,.slice (some ⟨g,0,none⟩) (m+1) cx,_,ω,w',hfin,.own r _ _ _ _ hω (by omega),hS',?_,?_⟩
     . have hroom:m+1<=cx:=by omega
       have hfc:=run_firstCells_some (P:=P) w i.size 1 ad 1 c vals (by rw[hvl,hsz,<- h2];simp) (hrd.cell ad rfl)
       rw[hsz,<- h2,Nat.add_zero] at hst
       rw[hval]
       simp[Builtin.append_,run_underlying hu,sizeOf,typeInfo,hi,Builtin.lenOf,hroom,hfc,Addr.add_lit,hst]
     . exact hstep
 . -- a raw slice whose row is known
   rename_i g m c0
   obtain⟨t0,t1,r,ht,h⟩:=h
   split at h
   case h_2=>exact h.elim
   rename_i e xs hrow
   obtain⟨hu,hz,_,h⟩:=slK_iff hT h
   obtain⟨⟨ti,hti,hs1,hby⟩,h⟩:=elemK_iff h
   obtain⟨hm,h10⟩:=h
   obtain⟨e',ys,A,c,vals,h11,hrd⟩:=rowsOf_sound hS hy h10
   obtain⟨hee,h12⟩:=eqN_iff h11
   subst hee
   obtain⟨hlen,hy0,zs,k,rfl,rfl,hin,hmv⟩:=h12
   clear h10 h11
   obtain⟨i,z,hi,h2,h3,h4,h5,h6,h7⟩:=(hT _ _ hti).info
   have hsz:=szOf_eq hti
   have hv0:=hS.env t0
   dsimp only at hv0
   rw[ht] at hv0
   have hω:=hv0.tie_
   rw[hx.rsl_]
   obtain⟨A2,c2,vx,e1,hc,hmx,hA,hA2,hown,hR⟩:=hS.mem.rowShape (hT _ _ hti).small hω hrow
   injection e1 with e1 e2 e3
   subst e1 e3
   rw[<- hm] at hown
   obtain⟨ad,rfl⟩:∃ ad,A=some ad:=by
    cases A with
    | some ad=>exact⟨ad,rfl⟩
    | none=>exact absurd (hrd.nil rfl).2 (by intro h0;rw[h0] at hy0;simp at hy0)
   obtain⟨v',w',hr,ho,hcs⟩:=run_append_tie (P:=P) (w:=w) t ty e i z ti.size hu hi h4 h2 h6 hs1 (by rw[h3];exact hby) (base:=w0.heap.size) g c0 m vx (by rw[hsz] at hown;exact hown) ad ys.length c vals
    (by rw[hrd.len,hsz]) (hrd.cell ad rfl) hrd.rr.one (by omega) hS.mem.below.size
   rw[hrd.val]
   rcases hcs with⟨hroom,rfl,hg⟩|⟨hover,c',rfl,he⟩
   . have hin:=hin (by rw[List.length_append];omega)
     simp only[subE_eq,subB_eq] at hin
     obtain⟨hrl,hfin⟩:=setK_iff _ _ _ _ hin
     have hrlω:r<ω.length:=by rw[hS.mem.rl];exact hrl
     have hset:∀ q v,q ≠ r->ω[q]? = some v->(ω.set r (.slice (some ⟨g,0,none⟩) (m+ys.length) c0))[q]? = some v:=fun q v hq h=>by rw[List.getElem?_set_ne (Ne.symm hq)];exact h
     have hdead:∀ k v,RS (szOf T) V μ ω v (.own r k)->RS (szOf T) V μ (ω.set r (.slice (some ⟨g,0,none⟩) (m+ys.length) c0)) v .u:=fun _ v _=>.imm _ _ (.u v)
     have hM:=hS.mem.setRow_ (e:=e) (ys:=xs++ys) hω hrow hg (by rw[List.length_append,hsz,<- hm];exact ho) (hR.append hrd.rr (by rw[<- hm];exact hown.1)) (v':=.slice (some ⟨g,0,none⟩) (m+ys.length) c0) (.inl rfl) (box':=box.map fun c=>c.map (sub1F r fun _=>.u)) (by simp) (by
      intro i cs cs' h1 h2
      simp only[List.getElem?_map,Option.map_eq_some_iff] at h2
      obtain⟨c0,hc0,rfl⟩:=h2
      rw[h1] at hc0
      cases hc0
      refine⟨by simp,fun j u d d' e1 e2 hrs=>?_⟩
      simp only[List.getElem?_map,Option.map_eq_some_iff] at e2
      obtain⟨d0,hd0,rfl⟩:=e2
      rw[e1] at hd0
      cases hd0
      exact hrs.sub1 (.refl V) hset hdead) (fun i cs cs' h1 h2 t h=>by simp only[List.getElem?_map,h1,Option.map_some,Option.some.injEq] at h2;subst h2;exact bTy_sub (fun _=>rfl) h)
     have hk:(xs++ys).length=m+ys.length:=by rw[List.length_append,hm]
     rw[hk] at hfin
     refine⟨_,_,_,_,w',hfin,.imm _ _ (.rsl _ _ _),⟨hS.tmps,hS.defers.ownGrown hS.mem hω hrow hg,fun t=>?_,hM⟩,hr,⟨fun _ _ h=>h,.refl _,fun q v _ hq _=>absurd rfl hq,fun q v hc hn=>absurd trivial hn⟩⟩
     . show RS _ _ _ _ _ (look ((t0,_) :: env.map fun x=>(x.1,subDF r (fun _=>.u) x.2)) t)
       unfold look
       split
       . exact .tie _ _ _ _ _ (List.getElem?_set_self hrlω)
       . rw[look_sub]
         exact (hS.env t).sub (.refl V) hset hdead
   . have hmv:=hmv (by rw[List.length_append];omega)
     have hk:(xs++ys).length=m+ys.length:=by rw[List.length_append,hm]
     have hcap:m+ys.length<=c':=by
      rcases ho.2 with⟨q,_⟩|⟨g2,cap,cur,q,_,_,q2,_⟩
      . cases q
      . cases q;exact q2
     obtain⟨q,hq,hmv⟩:=hmv
     have hmv:=hmv w.heap.size c' (by rw[hk];exact hcap)
     obtain⟨s',ω',hk',hS',hpre⟩:=takeRow_sound (xs:=xs++ys) (g':=w.heap.size) (c':=c') hS he hq (by rw[List.length_append,hsz,<- hm];exact ho) (hR.append hrd.rr (by rw[<- hm];exact hown.1)) (Nat.le_refl _) hmv
     rw[hk] at hk'
     refine⟨_,_,s',ω',w',hk',.imm _ _ (.rsl _ _ _),hS',hr,⟨fun _ _ h=>h,.refl _,fun q v _ hq _=>absurd rfl hq,fun q v hc hn=>absurd trivial hn⟩⟩
 . exact h.elim
theorem u8K_iff{e:TypeId}{p:Prop}(hT:TOk P T)(h:u8K T e p):P.underlying e=some (.int .u8)/\szOf T e=1/\p:=by
 unfold u8K at h
 split at h
 . rename_i h1
   exact⟨(hT _ _ h1).kind,szOf_eq h1,h⟩
 . exact h.elim
theorem elemM_of{e:TypeId}{p:Prop}(h:elemM T e p):p:=by
 unfold elemM at h
 split at h
 . exact (elemK_iff h).2
 . split at h
   . exact h
   . exact h.elim
theorem nonK_iff{e:TypeId}{p:Prop}(h:nonK T e p):T e=none/\p:=by
 unfold nonK at h
 split at h
 . exact⟨by assumption,h⟩
 . exact h.elim
theorem bytes_ri(V:Vw)(l:List UInt8){sz:TypeId->Nat}{e:TypeId}(hs:sz e=1):RowR sz V e (Lib.strCells (bstr l)) (l.map bcell):=by
 refine⟨Lib.strCells_oneCell _,fun i rw_ h=>?_,fun i rw_ j d h1 h2=>?_⟩
 . simp only[List.getElem?_map,Option.map_eq_some_iff] at h
   obtain⟨b,_,rfl⟩:=h
   rw[hs];rfl
 . simp only[List.getElem?_map,Option.map_eq_some_iff] at h1
   obtain⟨b,hb,rfl⟩:=h1
   cases j with
   | succ j=>simp[bcell] at h2
   | zero=>
    simp only[bcell,List.getElem?_cons_zero,Option.some.injEq] at h2
    subst h2
    refine⟨.int .u8 b.toNat,?_,.i _ _⟩
    rw[hs]
    simp[Lib.strCells,bstr,hb]
theorem copK_sound(hT:TOk P T)(hS:Sim (szOf T) w0 V0 V μ ω s a w){t u ty:TypeId}{x y:D}{vx vy:Value}{K:D->St->Prop}(hx:RS (szOf T) V μ ω vx x)(hy:RS (szOf T) V μ ω vy y)(h:copK T s t x y K) :
    ∃ d v s' w',K d s'/\RS (szOf T) V μ ω v d/\Sim (szOf T) w0 V0 V μ ω s' a w'/\(Builtin.copy_ #[t,u] ty #[vx,vy]).run P w = .ok v w'/\Step (effA x) V μ ω w V μ ω w':=by
 obtain⟨env,box,row,n⟩:=s
 unfold copK at h
 dsimp only at h
 split at h
 case h_2=>exact h.elim
 rename_i r e lo m l
 split at h
 case h_2=>exact h.elim
 rename_i e0 xs hrow
 obtain⟨he,h20⟩:=eqN_iff h
 subst he
 obtain⟨e',hu,hz,h21⟩:=slM_iff hT h20
 obtain⟨hs1,hlm,xs',rfl,k,rfl,h22⟩:=s1K_iff h21
 obtain⟨_,hk⟩:=setK_iff _ _ _ _ h22
 obtain⟨g,N,c,c',hω,hn,rfl⟩:=hx.osl_
 rw[hy.str_]
 obtain⟨A2,c2,vals,e1,_⟩:=hS.mem.rowShapeR hω hrow
 cases e1
 have hag:AggI (szOf T) V (l.map fun b=>Value.int IntKind.u8 (b.toNat:Int)) (l.map fun b=>D.i .u8 (b.toNat:Int)):=by
  refine⟨by simp,fun v hv=>?_,fun j v d h1 h2=>?_⟩
  . obtain⟨b,_,rfl⟩:=List.mem_map.1 hv
    rfl
  . simp only[List.getElem?_map,Option.map_eq_some_iff] at h1 h2
    obtain⟨b,hb,rfl⟩:=h1
    obtain⟨b',hb',rfl⟩:=h2
    rw[hb] at hb'
    cases hb'
    exact .i _ _
 obtain⟨w',hst,hS',hstep⟩:=store_span_sound (P:=P) (lo:=lo) hs1 hω _ _ 0 hS hag hrow (by rw[List.length_map];omega)
 rw[List.map_map,List.length_map,Nat.add_zero] at hS'
 refine⟨_,goInt l.length,_,w',hk,.imm _ _ (.i _ _),hS',?_,hstep⟩
 have hmin:Nat.min (bstr l).size m=l.length:=by rw[bstr_size];exact Nat.min_eq_left hlm
 have htk:List.take l.length (List.map (fun b:UInt8=>Value.int IntKind.u8 (b.toNat:Int)) l)=List.map (fun b:UInt8=>Value.int IntKind.u8 (b.toNat:Int)) l:=List.take_of_length_le (by simp)
 rw[hs1]
 simp[Builtin.copy_,run_under hu,Builtin.lenOf,Builtin.firstCells,hz,hs1,bstr]
 rw[show ({ data:=l.toArray }:ByteArray).size.min m=l.length from hmin,htk,hst]
 rfl
theorem appS_sound(hT:TOk P T)(hS:Sim (szOf T) w0 V0 V μ ω s a w){t u ty:TypeId}(hus:P.underlying u=some .string){x y:D}{vx vy:Value}{K:D->St->Prop}(hx:RS (szOf T) V μ ω vx x)(hy:RS (szOf T) V μ ω vy y)(h:appS P T s t x y K) :
    ∃ d v s' ω' w',K d s'/\RS (szOf T) V μ ω' v d/\Sim (szOf T) w0 V0 V μ ω' s' a w'/\(Builtin.append_ #[t,u] ty #[vx,vy]).run P w = .ok v w'/\Step (effA x) V μ ω w V μ ω' w':=by
 obtain⟨env,box,row,n⟩:=s
 unfold appS at h
 dsimp only at h
 split at h
 case h_2=>exact h.elim
 rename_i r m l
 split at h
 case h_2=>exact h.elim
 rename_i e xs hrow
 obtain⟨hu,hz,⟨ti,hti⟩,h⟩:=slK_iff hT h
 obtain⟨he8,_,hB,hm,hlen,zs,k,rfl,rfl,h13⟩:=u8K_iff hT h
 simp only[subE_eq,subB_eq] at h13
 obtain⟨hrl,hfin⟩:=setK_iff _ _ _ _ h13
 clear h h13
 obtain⟨i,z,hi,h2,h3,h4,h5,h6,h7⟩:=(hT _ _ hti).info
 unfold ByteT at hB
 rw[hi] at hB
 simp only[Option.map_some,Option.some.injEq,Prod.mk.injEq] at hB
 obtain⟨hB1,hB2,hB3⟩:=hB
 have hsz:=szOf_eq hti
 have hsz1:szOf T e=1:=by rw[hsz,<- h2,hB2]
 obtain⟨Ax,N,cx,hω,hnN,rfl⟩:=hx.own_
 obtain⟨A2,c2,vx,e1,hc,hmx,hA,hA2,hown,hR⟩:=hS.mem.rowShape (hT _ _ hti).small hω hrow
 cases e1
 subst hm
 rw[hy.str_]
 obtain⟨v',w',hr,ho,hg,hb⟩:=run_append_str (P:=P) (w:=w) t u ty e i hu hus hi hB1 hB2 hB3 (base:=w0.heap.size) _ xs.length vx (by rw[hsz1] at hown;exact hown) (bstr l) (by rw[bstr_size];exact hlen) hS.mem.below.size
 rw[bstr_size] at ho
 have hrlω:r<ω.length:=by rw[hS.mem.rl];exact hrl
 have hset:∀ q v,q ≠ r->ω[q]? = some v->(ω.set r v')[q]? = some v:=fun q v hq h=>by rw[List.getElem?_set_ne (Ne.symm hq)];exact h
 have hdead:∀ m v,RS (szOf T) V μ ω v (.own r m)->RS (szOf T) V μ (ω.set r v') v .u:=fun _ v _=>.imm _ _ (.u v)
 have hM:=hS.mem.setRow_ (e:=e) (ys:=xs++l.map bcell) hω hrow hg (by rw[List.length_append,List.length_map,hsz1];exact ho) (hR.append (bytes_ri V l hsz1) hown.1) hb (box':=box.map fun c=>c.map (sub1F r fun _=>.u)) (by simp) (by
  intro i cs cs' h1 h2
  simp only[List.getElem?_map,Option.map_eq_some_iff] at h2
  obtain⟨c0,hc0,rfl⟩:=h2
  rw[h1] at hc0
  cases hc0
  refine⟨by simp,fun j u d d' e1 e2 hrs=>?_⟩
  simp only[List.getElem?_map,Option.map_eq_some_iff] at e2
  obtain⟨d0,hd0,rfl⟩:=e2
  rw[e1] at hd0
  cases hd0
  exact hrs.sub1 (.refl V) hset hdead) (fun i cs cs' h1 h2 t h=>by simp only[List.getElem?_map,h1,Option.map_some,Option.some.injEq] at h2;subst h2;exact bTy_sub (fun _=>rfl) h)
 have hshape:∃ A' c',v' = .slice A' (xs++l.map bcell).length c':=by
  rw[List.length_append,List.length_map]
  rcases ho.2 with⟨q,q2⟩|⟨g,cap,cur,q,_⟩
  . exact⟨none,0,by rw[q];congr 1;omega⟩
  . exact⟨_,cap,q⟩
 obtain⟨A',c',hv'⟩:=hshape
 refine⟨_,v',_,_,w',hfin,?_,⟨hS.tmps,hS.defers.ownGrown hS.mem hω hrow hg,fun t=>?_,hM⟩,hr,⟨fun _ _ h=>h,.refl _,fun q v hq _ h=>?_,fun q v hc hn=>hg.cell hc fun e=>hn ⟨_,hω,e.symm⟩⟩⟩
 . subst hv'
   exact .own r _ A' _ c' (List.getElem?_set_self hrlω) (Nat.le_refl _)
 . show RS _ _ _ _ _ (look (env.map fun x=>(x.1,subDF r (fun _=>.u) x.2)) t)
   rw[look_sub]
   exact (hS.env t).sub (.refl V) hset hdead
 . rw[List.getElem?_set_ne (fun e=>hq (by rw[e];rfl))];exact h
theorem convS_sound(hS:Sim (szOf T) w0 V0 V μ ω s a w){t1 t2 e:TypeId}(hu:P.underlying t1=some (.slice e))(hd:P.underlying t2=some .string)(he8:P.underlying e=some (.int .u8)){v:Value}{r m:Nat}
    {xs:List (List D)}{l:List UInt8}{e':TypeId}(h1:szOf T e'=1)(hv:RS (szOf T) V μ ω v (.own r m))(hr:s.row[r]? = some (some (e',xs)))(hm:m<=xs.length)(hl:xs.take m=l.map bcell):(convert t1 t2 v).run P w = .ok (.string (bstr l)) w:=by
 obtain⟨A,N,c,hω,hn,rfl⟩:=hv.own_
 obtain⟨A2,c2,vals,e1,hc,hmx,hA,hA2,hown,hR⟩:=hS.mem.rowShapeR hω hr
 cases e1
 rw[run_convert_bytes_string w t1 t2 e A m c hu he8 hd]
 have hml:m=l.length:=by have:=congrArg List.length hl;rw[List.length_take,List.length_map] at this;omega
 cases A with
 | none=>
  obtain⟨_,rfl⟩:=hA rfl
  have:m=0:=by simpa using hm
  subst this
  have:l=[]:=List.eq_nil_of_length_eq_zero hml.symm
  subst this
  rfl
 | some ad=>
  obtain⟨h2,h3⟩:=hA2 ad rfl
  obtain⟨b,o,sp⟩:=ad
  dsimp only at h2 h3
  subst h2 h3
  have hval:∀ (j:Nat) c,l[j]? = some c->vals[j]? = some (.int .u8 c.toNat):=by
   intro j c hj
   have hx:xs[j]? = some (bcell c):=by
    have:=congrArg (fun q=>q[j]?) hl
    simp only[List.getElem?_map,hj,Option.map_some] at this
    rw[List.getElem?_take] at this
    split at this
    . exact this
    . cases this
   obtain⟨u,hu1,hu2⟩:=hR.rel j (bcell c) 0 _ hx rfl
   rw[h1,Nat.mul_one,Nat.add_zero] at hu1
   rw[hu1]
   cases hu2
   rfl
  subst hml
  rw[<- run_convert_bytes_string w t1 t2 e (some ⟨b,0,none⟩) l.length c hu he8 hd]
  refine run_convert_bytes_back w t1 t2 e ⟨b,0,none⟩ c l hu he8 hd fun j hj=>?_
  have:=hown.cells (g:=b) rfl j _ (hval j _ (List.getElem?_eq_getElem hj))
  exact this
def shift1F(k:Nat):D->D|.own r m=>.own (r+k) m|d=>d
theorem shift1_iff{k:Nat}{d:D}{K:D->Prop}(h:shift1 k d K):K (shift1F k d)/\(∀ r e j o,d ≠ .op r e j o)/\(∀ i o,d ≠ .bp i o)/\(∀ cs,d ≠ .agg cs)/\(∀ cs,d ≠ .tup cs)/\(∀ f x y,d ≠ .fnh f x y)/\(∀ r e a m,d ≠ .osl r e a m)/\∀ r g n c,d ≠ .tie r g n c:=by
 cases d<;>simp only[shift1,natLit_eq,D.force_eq] at h<;>first|exact h.elim|exact⟨h,by simp,by simp,by simp,by simp,by simp,by simp,by simp⟩
theorem RS.shift1{sz:TypeId->Nat}{V':Vw}{ω0 ω':List Value}{v:Value}{d:D}(hV:VLe V V')(hω:∀ (r:Nat) u,ω0[r]? = some u->ω'[r+ω.length]? = some u)(h:RS sz V [] ω0 v d)
    (hn:(∀ r e j o,d ≠ .op r e j o)/\(∀ i o,d ≠ .bp i o)/\(∀ cs,d ≠ .agg cs)/\(∀ cs,d ≠ .tup cs)/\(∀ f x y,d ≠ .fnh f x y)/\(∀ r e a m,d ≠ .osl r e a m)/\∀ r g n c,d ≠ .tie r g n c):RS sz V' μ ω' v (shift1F ω.length d):=by
 cases h with
 | imm _ _ hi=>
  have:shift1F ω.length d=d:=by cases d<;>first|rfl|cases hi
  rw[this]
  exact .imm _ _ (hi.mono hV)
 | own r m A N c hq hm=>exact .own _ m A N c (hω r _ hq) hm
 | op r e j o=>exact absurd rfl (hn.1 _ _ _ _)
 | bp i o=>exact absurd rfl (hn.2.1 _ _)
 | agg cs=>exact absurd rfl (hn.2.2.1 _)
 | tup cs=>exact absurd rfl (hn.2.2.2.1 _)
 | fnh=>exact absurd rfl (hn.2.2.2.2.1 _ _ _)
 | osl=>exact absurd rfl (hn.2.2.2.2.2.1 _ _ _ _)
 | tie=>exact absurd rfl (hn.2.2.2.2.2.2 _ _ _ _)
theorem shiftL_iff{k:Nat}:∀ {l:List D} {K:List D->Prop},shiftL k l K->K (l.map (shift1F k))/\∀ d ∈ l,(∀ r e j o,d ≠ .op r e j o)/\(∀ i o,d ≠ .bp i o)/\(∀ cs,d ≠ .agg cs)/\(∀ cs,d ≠ .tup cs)/\(∀ f x y,d ≠ .fnh f x y)/\(∀ r e a m,d ≠ .osl r e a m)/\∀ r g n c,d ≠ .tie r g n c
 | [],K,h=>⟨h,by simp⟩
 | d :: l,K,h=>by
  simp only[shiftL] at h
  obtain⟨h1,h2⟩:=shift1_iff h
  obtain⟨h3,h4⟩:=shiftL_iff h1
  refine⟨h3,fun x hx=>?_⟩
  rcases List.mem_cons.1 hx with rfl|hx
  . exact h2
  . exact h4 x hx
theorem shift2_sound{sz:TypeId->Nat}{V':Vw}{ω0 ω':List Value}{v:Value}{d:D}{K:D->Prop}(hV:VLe V V')(hω:∀ (r:Nat) u,ω0[r]? = some u->ω'[r+ω.length]? = some u)(hr:RS sz V [] ω0 v d)
    (h:shift2 ω.length d K):∃ d',K d'/\RS sz V' μ ω' v d':=by
 unfold shift2 at h
 split at h
 . obtain⟨h1,h2⟩:=shiftL_iff h
   obtain⟨vs,rfl,hs,ho,hR⟩:=hr.agg_
   refine⟨_,h1,.agg _ vs (by simpa using hs) ho fun j v d e1 e2=>?_⟩
   simp only[List.getElem?_map,Option.map_eq_some_iff] at e2
   obtain⟨d0,hd0,rfl⟩:=e2
   exact (hR j v d0 e1 hd0).shift1 hV hω (h2 d0 (List.mem_of_getElem? hd0))
 . obtain⟨h1,h2⟩:=shift1_iff h
   exact⟨_,h1,hr.shift1 hV hω h2⟩
theorem shiftT_sound{sz:TypeId->Nat}{V':Vw}{ω0 ω':List Value}(hV:VLe V V')(hω:∀ (r:Nat) u,ω0[r]? = some u->ω'[r+ω.length]? = some u):∀ (ds:List D) (vs:List Value) (K:List D->Prop),vs.length=ds.length ->
    (∀ (j:Nat) v d,vs[j]? = some v->ds[j]? = some d->RS sz V [] ω0 v d)->shiftT ω.length ds K->∃ es,K es/\es.length=ds.length/\∀ (j:Nat) v d,vs[j]? = some v->es[j]? = some d->RS sz V' μ ω' v d
 | [],vs,K,hl,hR,h=>⟨[],h,rfl,by simp⟩
 | d :: ds,[],K,hl,hR,h=>by simp at hl
 | d :: ds,v :: vs,K,hl,hR,h=>by
  simp only[shiftT] at h
  obtain⟨d',h1,hr⟩:=shift2_sound (μ:=μ) hV hω (hR 0 v d rfl rfl) h
  obtain⟨es,h2,h3,h4⟩:=shiftT_sound hV hω ds vs _ (by simpa using hl) (fun j v d e1 e2=>hR (j+1) v d (by simpa using e1) (by simpa using e2)) h1
  refine⟨d' :: es,h2,by simp[h3],fun j u x e1 e2=>?_⟩
  cases j with
  | zero=>simp at e1 e2;subst e1 e2;exact hr
  | succ j=>exact h4 j u x (by simpa using e1) (by simpa using e2)
theorem shiftD_sound{sz:TypeId->Nat}{V':Vw}{ω0 ω':List Value}{v:Value}{d:D}{K:D->Prop}(hV:VLe V V')(hω:∀ (r:Nat) u,ω0[r]? = some u->ω'[r+ω.length]? = some u)(hr:RS sz V [] ω0 v d)
    (h:shiftD ω.length d K):∃ d',K d'/\RS sz V' μ ω' v d':=by
 unfold shiftD at h
 split at h
 . obtain⟨vs,rfl,hs,hR⟩:=hr.tup_
   obtain⟨es,h1,h2,h3⟩:=shiftT_sound (μ:=μ) hV hω _ vs.toList _ (by simpa using hs) (fun j v d e1 e2=>hR j v d (by simpa using e1) e2) h
   exact⟨_,h1,.tup _ vs (by rw[hs,h2]) fun j v d e1 e2=>h3 j v d (by simpa using e1) e2⟩
 . exact shift2_sound hV hω hr h
theorem expoN_sound{t:TypeId}{d:D}{v:Value}{K:D->Prop}(hv:RS (szOf T) V μ ω v d)(h:expoN T t d K):∃ d',K d'/\RI (szOf T) V v d':=by
 unfold expoN at h
 split at h
 . obtain⟨vs,rfl,hs,ho,hR⟩:=hv.agg_
   obtain⟨ds,hk,hds⟩:=normL_sound _ 0 vs.toList _ (by simpa using hs) ho (fun j v d h1 h2=>hR j v d (by simpa using h1) h2) h
   exact⟨_,hk,.agg _ _ (by rw[<- hds.size];simp) ho fun j v d h1 h2=>hds.rel j v d (by simpa using h1) h2⟩
 . exact norm1_sound hv h
theorem exposN_sound:∀ (ts:List TypeId) (ds:List D) (vs:List Value) (K:List D->Prop),Vals (szOf T) V μ ω vs ds->exposN T ts ds K ->
    ∃ es,K es/\es.length=ds.length/\∀ (j:Nat) v d,vs[j]? = some v->es[j]? = some d->RI (szOf T) V v d
 | [],[],vs,K,hv,h=>⟨[],h,rfl,fun j v d _ hd=>by simp at hd⟩
 | t :: ts,[],vs,K,hv,h=>h.elim
 | [],d :: ds,vs,K,hv,h=>h.elim
 | t :: ts,d :: ds,[],K,hv,h=>by have:=hv.1;simp at this
 | t :: ts,d :: ds,v :: vs,K,hv,h=>by
  simp only[exposN] at h
  obtain⟨d',h,hd⟩:=expoN_sound (hv.2 0 v d rfl rfl) h
  obtain⟨es,h,hes,hr⟩:=exposN_sound ts ds vs _ ⟨by simpa using hv.1,fun j v d h1 h2=>hv.2 (j+1) v d (by simpa using h1) (by simpa using h2)⟩ h
  refine⟨d' :: es,h,by simp[hes],fun j v' e' h1 h2=>?_⟩
  cases j with
  | zero=>simp at h1 h2;subst h1 h2;exact hd
  | succ j=>exact hr j v' e' (by simpa using h1) (by simpa using h2)
theorem Mem.call(h:Mem (szOf T) w0 V0 V μ ω box row w){V':Vw}{ω0:List Value}{row0:Rows}(hres:Res (szOf T) V V' ω0 row0 w w') :
    Mem (szOf T) w0 V0 V' μ (ω++ω0) box (row++row0) w':=by
 have he:Ext w w':=hres.below
 have h':=h.ext he
 have hpre:Pre ω (ω++ω0):=.append _ _
 have own:∀ l g,Own μ (ω++ω0) (row++row0) l g->Own μ ω row l g\/∃ (r:Nat) (v:Value) (x:TypeId × List (List D)),l = .inr (r+ω.length)/\ω0[r]? = some v/\row0[r]? = some (some x)/\v.ownBlock=some g:=by
  intro l g hl
  cases l with
  | inl i=>exact .inl hl
  | inr q=>
   obtain⟨u,y,h1,h2,h3⟩:=hl
   rcases Nat.lt_or_ge q ω.length with hq|hq
   . rw[List.getElem?_append_left hq] at h1
     rw[List.getElem?_append_left (by rw[<- h.rl];exact hq)] at h2
     exact .inl ⟨u,y,h1,h2,h3⟩
   . rw[List.getElem?_append_right hq] at h1
     rw[List.getElem?_append_right (by rw[<- h.rl];exact hq),<- h.rl] at h2
     exact .inr ⟨q - ω.length,u,y,by congr 1;omega,h1,h2,h3⟩
 have newer:∀ (r:Nat) v (x:TypeId × List (List D)) g,ω0[r]? = some v->row0[r]? = some (some x)->v.ownBlock=some g->w.heap.size<=g/\g<w'.heap.size:=by
  rintro r v ⟨e,xs⟩ g h1 h2 h3
  obtain⟨vals,hown,_⟩:=hres.rows r v e xs h1 h2
  exact hown.lt g h3
 refine⟨h'.below,hres.vok,fun p u hp=>hres.le _ _ (h.vle p u hp),fun p hp=>?_,h.bl,?_,by simp[h.rl,hres.rl],?_,?_,?_,?_,fun x hx=>?away⟩
 case away=>
  obtain⟨a,b,c,d,e1⟩:=h'.away x hx
  have hlt:=(Array.getElem?_eq_some_iff.1 (h.away x hx).1).1
  refine⟨a,b,fun l hl=>?_,fun p u hp hb=>?_,e1⟩
  . rcases own l _ hl with hl|⟨r,v,y,rfl,e2,e3,e4⟩
    . exact c l hl
    . have:=(newer r v y _ e2 e3 e4).1;omega
  . rw[hres.vold p (by rw[hb];exact hlt)] at hp
    exact d p u hp hb
 . rw[hres.vold p (Nat.lt_of_lt_of_le hp h.below.size)]
   exact h.vold p hp
 . intro i g cs h1 h2
   obtain⟨us,t',a,b,c',d,ty⟩:=h'.hbox i g cs h1 h2
   exact⟨us,t',a,b,c',fun j v d' e f=>(d j v d' e f).mono hres.le (.refl μ) hpre,ty⟩
 . intro q u e ys h1 h2
   rcases Nat.lt_or_ge q ω.length with hq|hq
   . rw[List.getElem?_append_left hq] at h1
     rw[List.getElem?_append_left (by rw[<- h.rl];exact hq)] at h2
     obtain⟨vals,a,b,c',d⟩:=h'.hrow q u e ys h1 h2
     exact⟨vals,a,b,c',fun i rw_ j d' e1 e2=>let ⟨x,y,z⟩:=d i rw_ j d' e1 e2;⟨x,y,z.mono hres.le⟩⟩
   . rw[List.getElem?_append_right hq] at h1
     rw[List.getElem?_append_right (by rw[<- h.rl];exact hq),<- h.rl] at h2
     obtain⟨vals,a,b⟩:=hres.rows _ u e ys h1 h2
     exact⟨vals,ownsRow_base a h.below.size,b⟩
 . intro l l' g h1 h2
   rcases own l g h1 with h3|⟨r,v,x,rfl,e2,e3,e4⟩<;>rcases own l' g h2 with h5|⟨r',v',x',rfl,f2,f3,f4⟩
   . exact h.uniq l l' g h3 h5
   . have:=(h.new _ _ h3).2;have:=(newer r' v' x' g f2 f3 f4).1;omega
   . have:=(h.new _ _ h5).2;have:=(newer r v x g e2 e3 e4).1;omega
   . rw[hres.uniq r r' v v' x x' g e2 e3 f2 f3 e4 f4]
 . intro l g h1
   rcases own l g h1 with h3|⟨r,v,x,rfl,e2,e3,e4⟩
   . exact h'.new l g h3
   . obtain⟨a,b⟩:=newer r v x g e2 e3 e4
     exact⟨Nat.le_trans h.below.size a,b⟩
 . intro p u l hp h1
   rcases own l _ h1 with h3|⟨r,v,x,rfl,e2,e3,e4⟩
   . rw[hres.vold p (h.new _ _ h3).2] at hp
     exact h.vmut p u l hp h3
   . exact hres.vmut p u r v x hp e2 e3 e4
theorem run_buildSlice{t e:TypeId}{z:Value}{size len:Nat}(hu:P.underlying t=some (.slice e))(hzs:(sizeOf e).run P w = .ok size w)(hz:(zeroValue e).run P w = .ok z w)(hb:len*size<=16777216)
    {parts:Array (Nat × Value)}{us:Array Value}
    (hf:Instr.fill (fun i=>some (i*size,size)) ((Array.range (len*size)).map (fun k=>(if len*size=0 then #[] else z.cells)[k % (if len*size=0 then #[] else z.cells).size]!)) parts.toList=some us) :
    (Instr.buildSlice t len parts).run P w = .ok (.slice (some ⟨w.heap.size,0,none⟩) len len) (w.alloc (.cells us e)):=by
 have hnb:¬ len*size > 2 ^ 24:=by omega
 have hnb':¬ 16777216<len*size:=by omega
 by_cases h0:len*size=0
 . rw[if_pos h0] at hf
   simp only[Instr.buildSlice,Sem.run_bind,run_under hu,Result.andThen_ok,hzs,if_neg hnb,if_pos h0,Sem.run_pure,hf,newRow,run_newObj]
   rfl
 . rw[if_neg h0] at hf
   simp only[Instr.buildSlice,Sem.run_bind,run_under hu,Result.andThen_ok,hzs,if_neg hnb,if_neg h0,Sem.run_pure,hz,hf,newRow,run_newObj]
   rfl
def resOp(tmps:Array Value):ResultVar->Sem Value
 | .tmp t=>pure (tmps.getD t undef)
 | .cell a t=>do loadVar t (<- asAddr (tmps.getD a undef))
theorem results_eq(fn:Func)(tmps:Array Value):results fn tmps=(do
    let vs <- fn.results.mapM (resOp tmps)
    pure (if h:vs.size=1 then vs[0] else .tuple vs)):=rfl
theorem resK_sound(hT:TOk P T)(hS:Sim (szOf T) w0 V0 V μ ω s a w):∀ (rs:List ResultVar) (K:List D->Prop),resK T s rs K ->
    ∃ vs ds,K ds/\Vals (szOf T) V μ ω vs ds/\(rs.mapM (resOp a.tmps)).run P w = .ok vs w
 | [],K,h=>⟨[],[],h,⟨rfl,by simp⟩,by simp⟩
 | .tmp t :: rs,K,h=>by
  simp only[resK,D.force_eq] at h
  obtain⟨vs,ds,hk,hv,hr⟩:=resK_sound hT hS rs _ h
  refine⟨a.tmps.getD t undef :: vs,_,hk,⟨by simp[hv.1],fun j v d h1 h2=>?_⟩,by simp only[List.mapM_cons,resOp,Sem.run_bind,Sem.run_pure,Result.andThen_ok,hr]⟩
  cases j with
  | zero=>simp only[List.getElem?_cons_zero,Option.some.injEq] at h1 h2;subst h1 h2;exact hS.get (.tmp t)
  | succ j=>exact hv.2 j v d (by simpa using h1) (by simpa using h2)
 | .cell p t :: rs,K,h=>by
  simp only[resK] at h
  obtain⟨ad,_,d,u,hp,hk,hr,_,hl⟩:=ptrK_sound hT hS.mem (hS.get (.tmp p)) h
  obtain⟨vs,ds,hk,hv,hrs⟩:=resK_sound hT hS rs _ hk
  refine⟨u :: vs,_,hk,⟨by simp[hv.1],fun j v d h1 h2=>?_⟩,?_⟩
  . cases j with
    | zero=>simp only[List.getElem?_cons_zero,Option.some.injEq] at h1 h2;subst h1 h2;exact hr
    | succ j=>exact hv.2 j v d (by simpa using h1) (by simpa using h2)
  . rw[show a.eval (.tmp p)=a.tmps.getD p undef from rfl] at hp
    simp only[List.mapM_cons,resOp,Sem.run_bind,hp,asAddr,Sem.run_pure,Result.andThen_ok,hl w ((Ext.refl w).keepN _ _),hrs]
theorem oneD_rel{sz:TypeId->Nat}{vs:List Value}{ds:List D}(h:Vals sz V μ ω vs ds):RS sz V μ ω (if h:vs.toArray.size=1 then vs.toArray[0] else .tuple vs.toArray) (oneD ds):=by
 obtain⟨hl,hR⟩:=h
 match vs,ds,hl with
 | [v],[d],_=>simpa[oneD] using hR 0 v d rfl rfl
 | [],[],_=>exact .tup _ _ (by simp) (by simp)
 | v :: v' :: vs,d :: d' :: ds,hl=>
  rw[dif_neg (by simp)]
  exact .tup _ _ (by simpa using hl) fun j v d h1 h2=>hR j v d (by simpa using h1) h2
theorem look_envOf:∀ (ds:List D) (k t:Nat),look (envOf k ds) t=if k<=t then ds.getD (t - k) .u else .u
 | [],k,t=>by simp[envOf,look]
 | d :: ds,k,t=>by
  simp only[envOf,look]
  split
  . rename_i h
    have:=beq_nat_true h
    subst this
    simp
  . rename_i h
    have hne:k ≠ t:=by rintro rfl;rw[Nat.beq_refl] at h;cases h
    rw[look_envOf ds (k+1) t]
    by_cases hk:k+1<=t
    . rw[if_pos hk,if_pos (by omega),show t - k=(t - (k+1))+1 by omega]
      simp
    . rw[if_neg hk,if_neg (by omega)]
theorem look_shift(k:Nat)(env:List (Nat × D))(t:Nat):look (env.map fun x=>(x.1+k,x.2)) (t+k)=look env t:=by
 induction env with
 | nil=>rfl
 | cons x env ih=>
  obtain⟨q,d⟩:=x
  have hb:Nat.beq (q+k) (t+k)=Nat.beq q t:=by
   by_cases h:q=t
   . subst h;simp[Nat.beq_refl]
   . have h1:Nat.beq q t=false:=by
       cases hq:Nat.beq q t with
       | false=>rfl
       | true=>exact absurd (beq_nat_true hq) h
     have h2:Nat.beq (q+k) (t+k)=false:=by
      cases hq:Nat.beq (q+k) (t+k) with
      | false=>rfl
      | true=>exact absurd (Nat.add_right_cancel (beq_nat_true hq)) h
     rw[h1,h2]
  simp only[List.map_cons,look,hb,ih]
theorem look_shift_lt(k:Nat)(env:List (Nat × D))(t:Nat)(ht:t<k):look (env.map fun x=>(x.1+k,x.2)) t = .u:=by
 induction env with
 | nil=>rfl
 | cons x env ih=>
  obtain⟨q,d⟩:=x
  have hb:Nat.beq (q+k) t=false:=by
   cases hq:Nat.beq (q+k) t with
   | false=>rfl
   | true=>have:=beq_nat_true hq;omega
  simp only[List.map_cons,look,hb,ih]
theorem look_append(l m:List (Nat × D))(t:Nat)(h:∀ x ∈ l,x.1 ≠ t):look (l++m) t=look m t:=by
 induction l with
 | nil=>rfl
 | cons x l ih=>
  obtain⟨q,d⟩:=x
  have hb:Nat.beq q t=false:=by
   cases hq:Nat.beq q t with
   | false=>rfl
   | true=>exact absurd (beq_nat_true hq) (h (q,d) (by simp))
  simp only[List.cons_append,look,hb]
  exact ih fun x hx=>h x (by simp[hx])
theorem look_append_in(l m:List (Nat × D))(t:Nat)(h:∃ x ∈ l,x.1=t):look (l++m) t=look l t:=by
 induction l with
 | nil=>obtain⟨x,hx,_⟩:=h;cases hx
 | cons x l ih=>
  obtain⟨q,d⟩:=x
  simp only[List.cons_append,look]
  split
  . rfl
  . rename_i hb
    refine ih ?_
    obtain⟨y,hy,e⟩:=h
    rcases List.mem_cons.1 hy with rfl|hy
    . simp only at e;subst e;rw[Nat.beq_refl] at hb;cases hb
    . exact⟨y,hy,e⟩
theorem envOf_mem:∀ (ds:List D) (k:Nat) (x:Nat × D),x ∈ envOf k ds->k<=x.1/\x.1<k+ds.length
 | [],k,x,h=>by cases h
 | d :: ds,k,x,h=>by
  rcases List.mem_cons.1 h with rfl|h
  . simp
  . have:=envOf_mem ds (k+1) x h
    simp only[List.length_cons];omega
theorem envOf_has:∀ (ds:List D) (k t:Nat),k<=t->t<k+ds.length->∃ x ∈ envOf k ds,x.1=t
 | [],k,t,h1,h2=>by simp at h2;omega
 | d :: ds,k,t,h1,h2=>by
  by_cases h:t=k
  . subst h;exact⟨(t,d),by simp[envOf],rfl⟩
  . obtain⟨x,hx,e⟩:=envOf_has ds (k+1) t (by omega) (by simp only[List.length_cons] at h2;omega)
    exact⟨x,by simp[envOf,hx],e⟩
theorem shE_eq(k:Nat)(env:List (Nat × D)):∀ K:List (Nat × D)->Prop,shE k env K=K (env.map fun x=>(x.1+k,x.2)):=by
 induction env with
 | nil=>intro K;rfl
 | cons x env ih=>intro K;obtain⟨t,d⟩:=x;simp only[shE,forceN_eq,ih,List.map_cons]
def unEF(k:Nat):List (Nat × D)->List (Nat × D)
 | []=>[]
 | (t,d) :: r=>match Nat.ble k t with|true=>(t - k,d) :: unEF k r|false=>unEF k r
theorem unE_eq(k:Nat)(env:List (Nat × D)):∀ K:List (Nat × D)->Prop,unE k env K=K (unEF k env):=by
 induction env with
 | nil=>intro K;rfl
 | cons x env ih=>
  intro K
  obtain⟨t,d⟩:=x
  simp only[unE,unEF]
  cases Nat.ble k t with
  | true=>simp only[forceN_eq,ih]
  | false=>simp only[ih]
theorem look_unEF(k:Nat)(env:List (Nat × D))(t:Nat):look (unEF k env) t=look env (t+k):=by
 induction env with
 | nil=>rfl
 | cons x env ih=>
  obtain⟨q,d⟩:=x
  simp only[unEF]
  cases hb:Nat.ble k q with
  | true=>
   rw[Nat.ble_eq] at hb
   have e:Nat.beq (q - k) t=Nat.beq q (t+k):=by
    by_cases h:q=t+k
    . have h1:q - k=t:=by omega
      rw[h1,h];simp[Nat.beq_refl]
    . have h1:Nat.beq (q - k) t=false:=by
        cases hq:Nat.beq (q - k) t with
        | false=>rfl
        | true=>have:=beq_nat_true hq;omega
      have h2:Nat.beq q (t+k)=false:=by
       cases hq:Nat.beq q (t+k) with
       | false=>rfl
       | true=>exact absurd (beq_nat_true hq) h
      rw[h1,h2]
   simp only[look,e,ih]
  | false=>
   have hne:¬ k<=q:=fun h=>by rw[<- Nat.ble_eq] at h;rw[h] at hb;cases hb
   have h2:Nat.beq q (t+k)=false:=by
    cases hq:Nat.beq q (t+k) with
    | false=>rfl
    | true=>have:=beq_nat_true hq;omega
   simp only[look,h2,ih]
theorem Mem.fr{sz:TypeId->Nat}{F F':Fr}(h:Mem sz w0 F V μ ω box row w)(hF:F'.V=F.V)(hc:∀ x ∈ F'.kc,x ∈ F.kc:=by exact fun _ h=>h):Mem sz w0 F' V μ ω box row w:=
 ⟨h.below,h.vok,by rw[hF];exact h.vle,by rw[hF];exact h.vold,h.bl,h.hbox,h.rl,h.hrow,h.uniq,h.new,h.vmut,fun x hx=>h.away x (hc x hx)⟩
theorem Mem.putOther{sz:TypeId->Nat}{F:Fr}(h:Mem sz w0 F V μ ω box row w){l:Nat}{o:Obj}(o':Obj)(hl:w.heap[l]? = some o)(hn:noC o)(hb:w0.heap.size<=l):Mem sz w0 F V μ ω box row (w.putObj l o') where
 below:=h.below.trans ⟨rfl,rfl,rfl,by simp,fun k hk=>World.putObj_heap_other (by have:=h.below.size;omega)⟩
 vok:=⟨⟨h.vok.1.1,h.vok.gt fun g v hv=>World.putObj_heap_other fun e=>by
  obtain⟨o2,ho2,hc2⟩:=cells_of_cell (h.vok.2 _ _ hv)
  dsimp only at ho2
  rw[e,hl] at ho2
  cases ho2
  cases o<;>simp_all[Obj.isCells]
  exact hn _ _ _ rfl⟩,fun p v hp=>by
  have hc:=h.vok.2 p v hp
  refine (World.cell?_of_block (World.putObj_heap_other fun e=>?_)).trans hc
  obtain⟨o2,ho2,hc2⟩:=cells_of_cell hc
  rw[e,hl] at ho2
  cases ho2
  cases o<;>simp_all[Obj.isCells]
  exact hn _ _ _ rfl⟩
 vle:=h.vle
 vold:=h.vold
 bl:=h.bl
 hbox:=fun i g cs h1 h2=>by
  obtain⟨vs,t,a,b⟩:=h.hbox i g cs h1 h2
  refine⟨vs,t,(World.putObj_heap_other fun e=>?_).trans a,b⟩
  rw[e,hl] at a
  exact hn _ _ _ (Option.some.inj a)
 rl:=h.rl
 hrow:=fun r v e xs h1 h2=>by
  obtain⟨vals,a,b⟩:=h.hrow r v e xs h1 h2
  refine⟨vals,⟨a.1,?_⟩,b⟩
  rcases a.2 with a|⟨g,cap,cur,e',fz,a1,a2,a3,a4⟩
  . exact .inl a
  . refine .inr ⟨g,cap,cur,e',fz,a1,a2,(World.putObj_heap_other fun e=>?_).trans a3,a4⟩
    rw[e,hl] at a3
    exact hn _ _ _ (Option.some.inj a3)
 uniq:=h.uniq
 new:=fun l' g hg=>⟨(h.new l' g hg).1,by rw[World.putObj_size];exact (h.new l' g hg).2⟩
 vmut:=h.vmut
 away:=fun x hx=>by
  obtain⟨a,b,c,d,e⟩:=h.away x hx
  refine⟨(World.putObj_heap_other fun e1=>?_).trans a,b,c,d,e⟩
  rw[e1,hl] at a
  exact e (Option.some.inj a ▸ hn)
def shut:List Nat->World->World
 | [],w=>w
 | D :: r,w=>shut r (w.putObj D (.deferred none))
theorem Mem.shut{sz:TypeId->Nat}{F:Fr}:∀ (ms:List Nat) (w:World),ms.Nodup->(∀ D ∈ ms,w.heap[D]? = some (.deferred (some []))/\w0.heap.size<=D)->Mem sz w0 F V μ ω box row w ->
    Mem sz w0 F V μ ω box row (Go.Vx.shut ms w)/\(∀ k,k ∉ ms->(Go.Vx.shut ms w).heap[k]? = w.heap[k]?)
 | [],w,_,_,h=>⟨h,fun _ _=>rfl⟩
 | D :: ms,w,hn,hd,h=>by
  obtain⟨h1,h2⟩:=List.nodup_cons.1 hn
  have hD:=hd D (by simp)
  have hM:=h.putOther (.deferred none) hD.1 (fun _ _ _ e=>by cases e) hD.2
  obtain⟨a,b⟩:=Mem.shut ms _ h2 (fun E hE=>⟨(World.putObj_heap_other (r:=D) (k:=E) fun e=>h1 (e ▸ hE)).trans (hd E (by simp[hE])).1,(hd E (by simp[hE])).2⟩) hM
  refine⟨a,fun k hk=>(b k fun q=>hk (by simp[q])).trans (World.putObj_heap_other fun e=>hk (by simp[e]))⟩
theorem Sim.shut{sz:TypeId->Nat}{F:Fr}{s:St}{a:Act}(hS:Sim sz w0 F V μ ω s a w):∃ ms:List Nat,a.defers=ms.map mkD++F.df/\ms.Nodup/\(∀ D ∈ ms,w.heap[D]? = some (.deferred (some []))) /\
    Sim sz w0 F V μ ω s { a with defers:=F.df } (Go.Vx.shut ms w):=by
 obtain⟨ms,h1,h2,h3⟩:=hS.defers.marks
 obtain⟨hM,ho⟩:=Mem.shut ms w h2 (fun D hD=>⟨(h3 D hD).1,(h3 D hD).2.1⟩) hS.mem
 refine⟨ms,h1,h2,fun D hD=>(h3 D hD).1,hS.tmps,⟨⟨[],rfl,List.nodup_nil,by simp⟩,fun x hx=>⟨?_,(hS.defers.kept x hx).2⟩⟩,hS.env,hM⟩
 rw[ho x.1 fun hD=>(h3 _ hD).2.2 x hx rfl]
 exact (hS.defers.kept x hx).1
theorem leavesM{fn:Func}{tmps:Array Value}{R:Ending->World->Prop}{u:FrameMode}(hu:u ≠ .run):∀ (ms:List Nat) (w:World),ms.Nodup->(∀ D ∈ ms,w.heap[D]? = some (.deferred (some []))) ->
    LeavesIn Fence.wide 0 P fn tmps R [] u (shut ms w)->LeavesInM Fence.wide 0 P fn tmps R (ms.map mkD) u w
 | [],w,_,_,h=>h
 | D :: ms,w,hn,hd,h=>by
  obtain⟨h1,h2⟩:=List.nodup_cons.1 hn
  exact⟨hu,.inl ⟨D,_,rfl,run_takeDeferred (hd D (by simp)),leavesM hu ms _ h2 (fun E hE=>(World.putObj_heap_other (r:=D) (k:=E) fun e=>h1 (e ▸ hE)).trans (hd E (by simp[hE]))) h⟩⟩
theorem calls_of_wpM{f:FuncId}{fn:Func}{c:Code}{args:Array Value}{w:World}{R:Ending->World->Prop}(hf:P.funcs[f]? = some fn)(hb:fn.body=some c)
    (h:c.wp P (bodyPostM Fence.wide 0 P fn R) { tmps:=args++Array.replicate (fn.ntmps - args.size) undef,defers:=[] } w):Calls P f args w R:=
 callsIn_wide.1 (callsIn_of_wp_marks (F:=Fence.wide) (n:=0) hf hb trivial (wpIn_wide.2 h))
def keptOf(ms:List Nat):List (Nat × Obj):=ms.map fun D=>(D,.deferred (some []))
theorem DefOk.behind{F:Fr}{ds:List Deferred}(h:DefOk w0 F ds w):∃ ms,(∀ w',(∀ x ∈ F.kp++keptOf ms,w'.heap[x.1]? = some x.2)->DefOk w0 F ds w')/\(∀ F':Fr,F'.df=[]->F'.kp=F.kp++keptOf ms->DefOk w0 F' [] w):=by
 obtain⟨ms,h1,h2,h3⟩:=h.marks
 refine⟨ms,fun w' hw=>⟨⟨ms,h1,h2,fun D hD=>⟨hw (D,_) (List.mem_append_right _ (List.mem_map.2 ⟨D,hD,rfl⟩)),(h3 D hD).2⟩⟩,fun x hx=>⟨hw x (List.mem_append_left _ hx),(h.kept x hx).2⟩⟩,fun F' e1 e2=>⟨⟨[],by rw[e1];rfl,List.nodup_nil,by simp⟩,fun x hx=>?_⟩⟩
 rw[e2] at hx
 rcases List.mem_append.1 hx with hx|hx
 . exact h.kept x hx
 . obtain⟨D,hD,rfl⟩:=List.mem_map.1 hx
   exact⟨(h3 D hD).1,(fun _ _ _ e=>by cases e),(h3 D hD).2.1⟩
theorem inlK_sound(hT:TOk P T)(hS:Sim (szOf T) w0 V0 V μ ω s a w){f:FuncId}{ds:List D}{vs:List Value}{K:D->St->Prop}(hv:Vals (szOf T) V μ ω vs ds)(h:inlK P T s f ds K) :
    (∀ args w,(callFunc f args).run P w = .ok (.enter f args) w)/\Calls P f vs.toArray w fun e w'=>∃ v d s' V' μ' ω',e = .returned v/\K d s'/\RS (szOf T) V' μ' ω' v d/\Sim (szOf T) w0 V0 V' μ' ω' s' a w':=by
 obtain⟨fn,c,hf,hb,hcall,h⟩:=h
 refine⟨hcall,calls_of_wpM hf hb ?_⟩
 obtain⟨hn,h⟩:=leB_iff.1 h
 obtain⟨env,box,row,n⟩:=s
 simp only[shE_eq,catK_eq] at h
 obtain⟨ms,back,start⟩:=hS.defers.behind
 have hS':Sim (szOf T) w0 ⟨V0.V,fun t=>slotV V0 n a (t - fn.ntmps),[],V0.kp++keptOf ms,V0.kc⟩ V μ ω ⟨envOf 0 ds++env.map (fun x=>(x.1+fn.ntmps,x.2)),box,row,fn.ntmps⟩
     { tmps:=vs.toArray++Array.replicate (fn.ntmps - vs.toArray.size) undef,defers:=[] } w:=by
  refine⟨by have:=hv.1;simp;omega,start _ rfl rfl,fun t=>?_,hS.mem.fr rfl⟩
  show RS _ _ _ _ (slotV _ fn.ntmps _ t) (look (envOf 0 ds++env.map (fun x=>(x.1+fn.ntmps,x.2))) t)
  unfold slotV
  split
  . rename_i htn
    show RS _ _ _ _ ((vs.toArray++Array.replicate (fn.ntmps - vs.toArray.size) undef).getD t undef) _
    by_cases ht:t<ds.length
    . rw[look_append_in _ _ _ (envOf_has ds 0 t (by omega) (by omega)),look_envOf,if_pos (Nat.zero_le _),Nat.sub_zero]
      have hta:t<vs.length:=by rw[hv.1];exact ht
      have hd:=List.getElem?_eq_getElem ht
      have ha:=List.getElem?_eq_getElem hta
      have:=hv.2 t _ _ ha hd
      have e1:(vs.toArray++Array.replicate (fn.ntmps - vs.toArray.size) undef).getD t undef=vs[t]:=by
       have hv1:=hv.1
       simp[Array.getD,hta]
       omega
      rw[e1]
      simp only[List.getD,hd,Option.getD_some]
      exact this
    . rw[look_append _ _ _ (fun x hx=>by have:=envOf_mem ds 0 x hx;omega),look_shift_lt _ _ _ htn]
      exact .imm _ _ (.u _)
  . rename_i htn
    rw[look_append _ _ _ (fun x hx=>by have:=envOf_mem ds 0 x hx;omega)]
    have e2:t=(t - fn.ntmps)+fn.ntmps:=by omega
    rw[e2,look_shift,<- e2]
    exact hS.env (t - fn.ntmps)
 refine wp_mono (h.run w0 _ V μ ω _ w hS') ?_
 rintro e a' w' ⟨s',V',μ',ω',hq,hS2⟩
 have fin:inlE T fn n K s'->LeavesInM Fence.wide 0 P fn a'.tmps (fun e w'=>∃ v d s' V' μ' ω',e = .returned v/\K d s'/\RS (szOf T) V' μ' ω' v d/\Sim (szOf T) w0 V0 V' μ' ω' s' a w') a'.defers .returning w':=by
  intro hr
  obtain⟨ms',e1,e2,e3,hS2⟩:=hS2.shut
  rw[e1]
  have e4:ms'.map mkD++[]=ms'.map mkD:=List.append_nil _
  show LeavesInM _ _ _ _ _ _ (ms'.map mkD++[]) _ _
  rw[e4]
  refine leavesM (by simp) ms' w' e2 e3 ?_
  obtain⟨env',box',row',m⟩:=s'
  obtain⟨hm,hr⟩:=eqN_iff hr
  obtain⟨us,ds',hk,hv',hrun⟩:=resK_sound hT hS2 _ _ hr
  refine⟨if h:us.toArray.size=1 then us.toArray[0] else .tuple us.toArray,?_,?_⟩
  . rw[results_eq,Array.mapM_eq_mapM_toList]
    dsimp only at hrun
    simp only[Sem.run_bind,Sem.run_map,hrun,Result.andThen_ok,Sem.run_pure]
  . rw[unE_eq] at hk
    refine⟨_,_,_,V',μ',ω',rfl,hk,oneD_rel hv',hS.tmps,back _ fun x hx=>(hS2.defers.kept x hx).1,fun t=>?_,hS2.mem.fr rfl⟩
    have:=hS2.env (t+fn.ntmps)
    unfold slotV at this
    rw[if_neg (by show ¬ t+fn.ntmps<m;omega)] at this
    show RS _ _ _ _ (slotV V0 n a t) (look (unEF fn.ntmps env') t)
    rw[look_unEF]
    have e3:t+fn.ntmps - fn.ntmps=t:=by omega
    simp only[e3] at this
    exact this
 cases e<;>simp only[inlQ] at hq
 . exact fin hq
 . exact fin hq
theorem RI.ground{sz:TypeId->Nat}{V V':Vw}{v:Value}{d:D}(h:RI sz V v d)(hg:d.ground=true):RI sz V' v d:=by
 have h2:=toV1_ri (sz:=sz) (V:=V') hg
 rwa [<- h.uniq (toV1_ri (sz:=sz) (V:=V') hg) hg] at h2
theorem RS.ownOrG{sz:TypeId->Nat}{V V':Vw}{μ:List Nat}{ω:List Value}{v:Value}{d:D}(h:RS sz V μ ω v d)(hg:d.ownOrG=true):RS sz V' μ ω v d:=by
 cases h with
 | imm _ _ hi=>cases d<;>first|exact .imm _ _ (hi.ground hg)|cases hi
 | own r n A N c h1 h2=>exact .own r n A N c h1 h2
 | op=>cases hg
 | bp=>cases hg
 | osl=>cases hg
 | tie=>cases hg
 | agg=>cases hg
 | tup=>cases hg
 | fnh=>cases hg
theorem ownOrGs_at:∀ {l:List D},ownOrGs l=true->∀ (j:Nat) d,l[j]? = some d->d.ownOrG=true
 | [],_,j,d,h=>by simp at h
 | c :: l,hf,j,d,h=>by
  simp only[ownOrGs,Bool.and_eq_true] at hf
  cases j with
  | zero=>simp at h;subst h;exact hf.1
  | succ j=>exact ownOrGs_at hf.2 j d (by simpa using h)
theorem ownOrGt_at:∀ {l:List D},ownOrGt l=true->∀ (j:Nat) d,l[j]? = some d->d.ownOrG1=true
 | [],_,j,d,h=>by simp at h
 | c :: l,hf,j,d,h=>by
  simp only[ownOrGt,Bool.and_eq_true] at hf
  cases j with
  | zero=>simp at h;subst h;exact hf.1
  | succ j=>exact ownOrGt_at hf.2 j d (by simpa using h)
theorem RS.ownOrG1{sz:TypeId->Nat}{V V':Vw}{μ:List Nat}{ω:List Value}{v:Value}{d:D}(h:RS sz V μ ω v d)(hg:d.ownOrG1=true):RS sz V' μ ω v d:=by
 by_cases hd:∃ cs,d = .agg cs
 . obtain⟨cs,rfl⟩:=hd
   obtain⟨vs,rfl,hs,ho,hR⟩:=h.agg_
   exact .agg _ vs hs ho fun j v d h1 h2=>(hR j v d h1 h2).ownOrG (ownOrGs_at hg j d h2)
 . refine h.ownOrG ?_
   cases d<;>first|exact hg|exact absurd ⟨_,rfl⟩ hd
theorem RS.ownOrG2{sz:TypeId->Nat}{V V':Vw}{μ:List Nat}{ω:List Value}{v:Value}{d:D}(h:RS sz V μ ω v d)(hg:d.ownOrG2=true):RS sz V' μ ω v d:=by
 by_cases hd:∃ cs,d = .tup cs
 . obtain⟨cs,rfl⟩:=hd
   obtain⟨vs,rfl,hs,hR⟩:=h.tup_
   exact .tup _ vs hs fun j v d h1 h2=>(hR j v d h1 h2).ownOrG1 (ownOrGt_at hg j d h2)
 . refine h.ownOrG1 ?_
   cases d<;>first|exact hg|exact absurd ⟨_,rfl⟩ hd
theorem gRowsP_at:∀ {rows:Rows},gRowsP rows->∀ (r:Nat) (e:TypeId) (xs:List (List D)),rows[r]? = some (some (e,xs))->∀ x ∈ xs,grounds x=true
 | [],_,r,e,xs,h=>by simp at h
 | none :: l,hf,r,e,xs,h=>by
  cases r with
  | zero=>simp at h
  | succ r=>exact gRowsP_at (rows:=l) hf r e xs (by simpa using h)
 | some (e',xs') :: l,hf,r,e,xs,h=>by
  cases r with
  | zero=>simp at h;obtain⟨_,rfl⟩:=h;exact hf.1
  | succ r=>exact gRowsP_at (rows:=l) hf.2 r e xs (by simpa using h)
theorem Res.less{sz:TypeId->Nat}{V V':Vw}{ω0:List Value}{row0:Rows}(hV:VOk V w)(h:Res sz (heapV w) V' ω0 row0 w w')(hg:gRowsP row0) :
    Res sz V (fun p=>if p.block<w.heap.size then V p else V' p) ω0 row0 w w':=by
 have hin:∀ p u,V p=some u->p.block<w.heap.size:=fun p u hp=>by
  have hc:=hV.2 p u hp
  apply Classical.byContradiction
  intro hn
  have:w.heap[p.block]? = none:=by simp;omega
  simp[World.cell?,this] at hc
 refine⟨h.below,fun p u hp=>by simp only[if_pos (hin p u hp)];exact hp,⟨⟨fun p u hp=>(by have h1:=hV.1.1 p u hp;simp only[if_pos (hin p u h1)];exact h1),h.vok.1.2⟩,fun p u hp=>?_⟩,fun p hp=>by simp only[if_pos hp],h.rl,fun r v e xs h1 h2=>?_,h.uniq,fun p u r v x hp h1 h2=>?_⟩
 . by_cases hb:p.block<w.heap.size
   . simp only[if_pos hb] at hp
     exact (show Ext w w' from h.below).cell (hV.2 p u hp)
   . simp only[if_neg hb] at hp
     exact h.vok.2 p u hp
 . obtain⟨vals,a,b,c,d⟩:=h.rows r v e xs h1 h2
   refine⟨vals,a,b,c,fun i rw_ j d' e1 e2=>?_⟩
   obtain⟨u,hu,hr⟩:=d i rw_ j d' e1 e2
   exact⟨u,hu,hr.ground (grounds_at (gRowsP_at hg r e xs h2 rw_ (List.mem_of_getElem? e1)) j d' e2)⟩
 . by_cases hb:p.block<w.heap.size
   . intro he
     obtain⟨e,xs⟩:=x
     obtain⟨vals,hown,_⟩:=h.rows r v e xs h1 h2
     have:=(hown.lt _ he).1
     omega
   . simp only[if_neg hb] at hp
     exact h.vmut p u r v x hp h1 h2
theorem exposeK_sound{s:St}(hS:Sim (szOf T) w0 V0 V μ ω s a w){dst:Option Nat}{type:TypeId}{pos:String}{after:Array Edge}{guard:Option (Nat × Bool)}{f:FuncId}{args:Array Operand}{argTypes:Array TypeId}{K:D->St->Prop}
    (h:exposeK P T s f argTypes.toList (s.gets args.toList) K) :
    (execOp a.eval ⟨dst,.call ⟨.value (.func f),args,argTypes⟩,type,pos,after,guard⟩).run P w = .ok (.enter f (args.map a.eval)) w /\
    Calls P f (args.map a.eval) w fun e w'=>∃ v d s' V' ω',e = .returned v/\K d s'/\RS (szOf T) V' μ ω' v d/\Sim (szOf T) w0 V0 V' μ ω' s' a w'/\VLe V V'/\Pre ω ω'/\Ext w w':=by
 obtain⟨es,⟨R,hf,h⟩,hes,hri⟩:=expos_sound hS.mem argTypes.toList (s.gets args.toList) (args.toList.map a.eval) _ (by simp[St.gets]) (hS.gets args.toList).2 h
 refine⟨?_,?_⟩
 . simp only[execOp,resolve,Act.eval,Deferred.ofValue,invoke,Sem.run_bind,Sem.run_pure,Result.andThen_ok]
   rw[show (#[]++args.map a.eval)++#[]=args.map a.eval by simp,hf.call]
 have hcalls:=hf.run (heapV w) w (args.map a.eval) (.heap hS.mem.vok.gl (Ext.refl w)) (by simp[hes,St.gets]) (fun j v d h1 h2=>hri j v d (by simpa using h1) h2)
 refine hcalls.mono ?_
 rintro e w'' ⟨V',ω0,row0,v,d,rfl,hR,hrs,hres⟩
 obtain⟨hg,hk⟩:=h d row0 hR
 obtain⟨hd,hk⟩:=boolP_iff.1 hk
 have hres2:=hres.less hS.mem.vok hg
 have hrs2:=hrs.ownOrG2 (V':=fun p=>if p.block<w.heap.size then V p else V' p) hd
 obtain⟨env,box,row,n⟩:=s
 have hM:=hS.mem.call hres2
 have hl:row.length=ω.length:=hS.mem.rl.symm
 dsimp only at hk
 rw[hl] at hk
 obtain⟨d',hk,hr⟩:=shiftD_sound (μ:=μ) (ω':=ω++ω0) (VLe.refl _) (fun r u hu=>by rw[List.getElem?_append_right (by omega),Nat.add_sub_cancel];exact hu) hrs2 hk
 rw[catK_eq] at hk
 exact⟨v,d',_,_,ω++ω0,rfl,hk,hr,⟨hS.tmps,hS.defers.ext hres2.below,fun t=>(hS.env t).mono hres2.le (.refl μ) (.append _ _),hM⟩,hres2.le,.append _ _,hres2.below⟩
theorem vop_sound(hT:TOk P T)(hS:Sim (szOf T) w0 V0 V μ ω s a w){o:Oper}{K:D->St->Prop}(h:vop P T s o K):Vok P T w0 V0 (effOf s o) V μ ω a w o K:=by
 obtain⟨dst,op,type,pos,after,guard⟩:=o
 cases op
 case alloc t=>
  simp only[vop,forceL_eq] at h
  split at h
  case h_2=>exact h.elim
  rename_i ti hti
  rw[boolP_iff] at h
  obtain⟨hnz,h⟩:=h
  obtain⟨i,z,h1,h2,h3,h4,h5,h6,h7⟩:=(hT _ _ hti).info
  obtain⟨d,s',μ',hk,hr,hS',hpre⟩:=newBox_sound (t:=t) hS (AggR.zero h5 h7).allocZ (allocZ_ty hnz) h
  refine .value (v:=.pointer (some ⟨w.heap.size,0,none⟩)) (w':=w.alloc (.cells z.cells t)) ?_ hk hr hS' (.ext (fun _ _ h=>h) hpre (.refl _) (Ext.alloc _ _))
  simp[execOp,Instr.alloc,zeroValue,typeInfo,h1,h4,newVar,newRow]
 case box t x=>
  simp only[vop,forceL_eq] at h
  obtain⟨cs,hag,h⟩:=cellsK_sound (hS.get x) h
  rw[boolP_iff] at h
  obtain⟨hnz,h⟩:=h
  obtain⟨d,s',μ',hk,hr,hS',hpre⟩:=newBox_sound (t:=t) hS hag (noB_ty hnz t) h
  refine .value (v:=.pointer (some ⟨w.heap.size,0,none⟩)) (w':=w.alloc (.cells (a.eval x).cells t)) ?_ hk hr hS' (.ext (fun _ _ h=>h) hpre (.refl _) (Ext.alloc _ _))
  simp[execOp,Instr.box,newVar,newRow]
 case store t x y=>
  simp only[vop] at h
  obtain⟨ds,hag,h⟩:=cellsK_sound (hS.get y) h
  split at h
  . exact h.elim
  rename_i ti hti
  obtain⟨hsz,h⟩:=eqN_iff h
  have hrun:∀ p w',a.eval x = .pointer (some p)->(storeCells p (a.eval y).cells.toList).run P w = .ok () w'->(execOp a.eval ⟨dst,.store t x y,type,pos,after,guard⟩).run P w = .ok .skip w':=by
   intro p w' hp hst
   have hz:¬ (a.eval y).cells.size ≠ ti.size:=by rw[hag.size,hsz];simp
   simp[execOp,Instr.storeAt,hp,Instr.sureAddr,storeVar,(hT _ _ hti).size,hag.size,<- hsz,hst]
  split at h
  . rename_i i off hx
    obtain⟨env,box,row,n⟩:=s
    dsimp only at h
    split at h
    case h_2=>exact h.elim
    rename_i cs hcs
    simp only[leB_iff,forceL_eq,boolP_iff] at h
    obtain⟨hle,hnb,h⟩:=h
    obtain⟨_,h⟩:=setK_iff _ _ _ _ h
    have hxv:=hS.get x
    rw[hx] at hxv
    obtain⟨p,w',hp,hst,hS',hstep⟩:=store_bp_sound (P:=P) hS hxv hag hcs hle hnb
    exact .skip (hrun p w' hp hst) h hS' (by simp only[effOf,hx,srcOf];exact hstep)
  . rename_i r e j off hx
    have hxv:=hS.get x
    rw[hx] at hxv
    split at h
    case h_2=>exact h.elim
    rename_i e' xs0 hr0
    obtain⟨he,h20⟩:=eqN_iff h
    subst he
    have h21:=elemM_of h20
    obtain⟨V1,ds1,s1,h22,hv1,hS1,hle1⟩:=pubsK_sound 8 hS (vs:=(a.eval y).cells.toList) ⟨by rw[Array.length_toList];exact hag.size,fun j v d h1 h2=>hag.rel j v d (by simpa using h1) h2⟩ h21
    obtain⟨env,box,row,n⟩:=s1
    obtain⟨ds2,h23,hds⟩:=normL_sound ds1 off _ _ hv1.1 hag.one hv1.2 h22
    split at h23
    case h_2=>exact h23.elim
    rename_i e2 xs hr
    obtain⟨he,h24⟩:=eqN_iff h23
    subst he
    obtain⟨rw_,hj,hle,xs',rfl,h1⟩:=h24
    obtain⟨_,hk⟩:=setK_iff _ _ _ _ h1
    have hxv1:RS (szOf T) V1 μ ω (a.eval x) (.op r e j off):=by
     obtain⟨g,N,c,h5,h6⟩:=hxv.op_
     rw[h6]
     exact .op r e j off g N c h5
    obtain⟨p,w',hp,hst,hS',hstep⟩:=store_op_sound (P:=P) hS1 hxv1 hds hr hj hle
    exact .skip (hrun p w' hp hst) hk hS' (by simp only[effOf,hx,srcOf];exact⟨hle1,hstep.pre,hstep.row,hstep.foot⟩)
  . exact h.elim
 case buildSlice t len ps=>
  simp only[vop] at h
  split at h
  case h_2=>exact h.elim
  rename_i e zz hti
  obtain⟨⟨ti,hte,hs1,hby⟩,h⟩:=elemK_iff h
  obtain⟨hseq,h⟩:=seqK_iff h
  obtain⟨hlen,h⟩:=eqN_iff h
  rw[leB_iff] at h
  obtain⟨hbig,h⟩:=h
  obtain⟨V1,ds1,s1,h,hv1,hS1,hle1⟩:=pubsK_sound 8 hS (hS.gets _) h
  obtain⟨env,box,row,n⟩:=s1
  dsimp only at h
  obtain⟨rows,h,h1,h2,h3⟩:=partsK_sound ds1 0 _ _ hv1.1 hv1.2 h
  have hu:P.underlying t=some (.slice e):=(hT _ _ hti).kind
  obtain⟨i,z,g1,g2,g3,g4,g5,g6,g7⟩:=(hT _ _ hte).info
  have hsz:=szOf_eq hte
  have hl:len=ps.toList.length:=by simpa using hlen
  have hzip:(ps.map fun x=>(x.1,a.eval x.2)).toList=(List.range' 0 (ps.toList.map fun x=>a.eval x.2).length).zip (ps.toList.map fun x=>a.eval x.2):=by
   have hq:ps.toList.map (·.1)=List.range' 0 ps.toList.length:=by simpa using hseq
   rw[Array.toList_map,List.length_map,<- hq]
   apply List.ext_getElem?
   intro j
   simp only[List.getElem?_map,List.zip_map']
  obtain⟨us,f1,f2,_,f4⟩:=fill_rows (size:=szOf T e) (len:=len) (ps.toList.map fun x=>a.eval x.2) 0 ((Array.range (len*szOf T e)).map (fun k=>(if len*szOf T e=0 then #[] else z.cells)[k % (if len*szOf T e=0 then #[] else z.cells).size]!)) (by simp) (by simp[hl]) (by simpa using h2)
  have hrr:=rowR_cells (T:=T) (V:=V1) (e:=e) (us:=us) (vs:=ps.toList.map fun x=>a.eval x.2) (rows:=rows) rfl (by rw[f2,hl];simp) (by simpa using h1) (by simpa using h2) f4 (by simpa using h3)
  have hrl:rows.length=len:=by rw[h1,hl];simp
  have hm:len<=maxLen:=by
   have:len*1<=len*szOf T e:=Nat.mul_le_mul_left _ (by rw[hsz];exact hs1)
   unfold maxLen;omega
  have hown:=World.ownsRow_lit (e:=e) (size:=szOf T e) w us len (base:=w0.heap.size) hS1.mem.below.size hm f2
  obtain⟨d,s',ω',hk,hr',hS',hpre⟩:=newRow_sound (e:=e) (xs:=rows) (vals:=us.toList) (m:=len) (c:=len) (A:=some ⟨w.heap.size,0,none⟩) (v:=.slice (some ⟨w.heap.size,0,none⟩) len len) (w':=w.alloc (.cells us e)) hS1 (Ext.alloc _ _) (by rw[hrl]) (by rw[hrl];exact hown) hrr
   (fun g hg=>by simp[Value.ownBlock] at hg;omega) hrl.symm h
  refine .value (v:=.slice (some ⟨w.heap.size,0,none⟩) len len) (w':=w.alloc (.cells us e)) ?_ hk hr' hS' (.ext hle1 (.refl _) hpre (Ext.alloc _ _))
  have hzs:(sizeOf e).run P w = .ok (szOf T e) w:=by rw[(hT _ _ hte).size,hsz]
  have hz:(zeroValue e).run P w = .ok z w:=by simp[zeroValue,typeInfo,g1,g4]
  have hb:=run_buildSlice (t:=t) (parts:=ps.map fun x=>(x.1,a.eval x.2)) hu hzs hz hbig (by rw[hzip];exact f1)
  simp[execOp,hb]
 case makeSlice t x y=>
  simp only[vop] at h
  split at h
  case h_2=>exact h.elim
  rename_i k1 l0 k2 c0 _ _ e zz e1 e2 hti
  split at h
  case h_2=>exact h.elim
  rename_i ti hte
  simp only[leB_iff] at h
  obtain⟨hs1,hby,l,c,rfl,rfl,hlc,hc,h⟩:=h
  have hx:=hS.get x
  have hy:=hS.get y
  rw[e1] at hx
  rw[e2] at hy
  have hu:=(hT _ _ hti).kind
  obtain⟨i,z,g1,g2,g3,g4,g5,g6,g7⟩:=(hT _ _ hte).info
  have hsz:=szOf_eq hte
  have haz:=AggR.zero (sz:=szOf T) (V:=V) (μ:=μ) (ω:=ω) g5 g7
  obtain⟨zd,h,hzd⟩:=normL_sound (T:=T) (e:=e) ti.zero 0 z.cells.toList _ (by rw[Array.length_toList];exact haz.size) g7 (fun j v d h1 h2=>haz.rel j v d (by simpa using h1) h2) h
  obtain⟨zs,rfl,h⟩:=h
  have hzl:z.cells.toList.length=szOf T e:=by rw[hsz,<- g6];simp
  have hm:c<=maxLen:=by unfold maxLen;omega
  have hbytes:(i.bytes:Int)*(c:Int)<=281474976710656:=by
   have h1:i.bytes*c<=65536*2147483648:=Nat.mul_le_mul (by rw[g3];exact hby) hc
   have h2:((i.bytes*c:Nat):Int)=(i.bytes:Int)*(c:Int):=Int.natCast_mul _ _
   omega
  have hrun:=run_make (P:=P) w t e i z hu g1 g4 k1 k2 (l:Int) (c:Int) (by omega) (by omega) hbytes (by omega)
  simp only[Int.toNat_natCast] at hrun
  have hlsz:l*szOf T e<=c*szOf T e:=Nat.mul_le_mul_right _ hlc
  have hcell:∀ k,k<c*szOf T e->(madeCells z.cells (c*i.size))[k]? = z.cells.toList[k % szOf T e]?:=by
   intro k hk
   have hz0:0<szOf T e:=by omega
   have hkm:k % szOf T e<z.cells.size:=by rw[g6,<- hsz];exact Nat.mod_lt _ hz0
   have hzz:z.cells.size=szOf T e:=by rw[g6,hsz]
   rw[Array.getElem?_toList]
   simp only[madeCells,Array.getElem?_map,Array.getElem?_range]
   rw[if_pos (by rw[g2,<- hsz];exact hk)]
   simp only[Option.map_some,hzz]
   rw[Array.getElem?_eq_getElem hkm,getElem!_pos z.cells _ hkm]
  have hmade:(madeCells z.cells (c*i.size)).size=c*szOf T e:=by rw[size_madeCells,g2,hsz]
  have hown:(w.alloc (.cells (madeCells z.cells (c*i.size)) e)).ownsRow w0.heap.size e (szOf T e) (.slice (some ⟨w.heap.size,0,none⟩) l c) l ((madeCells z.cells (c*i.size)).toList.take (l*szOf T e)):=
   ⟨by rw[List.length_take,Array.length_toList,hmade];omega,.inr ⟨w.heap.size,c,_,rfl,hS.mem.below.size,heap_alloc_new w _,hlc,hm,hmade,rfl⟩⟩
  have hrr:RowR (szOf T) V e ((madeCells z.cells (c*i.size)).toList.take (l*szOf T e)) (List.replicate l zd):=by
   have hzdl:zd.length=szOf T e:=by rw[<- hzd.size];exact hzl
   refine⟨fun u hu'=>?_,fun q rw_ hq=>?_,fun q rw_ j d hq hj=>?_⟩
   . obtain⟨k,hk⟩:=List.getElem?_of_mem hu'
     have hkl:k<l*szOf T e:=by
      have:=(List.getElem?_eq_some_iff.1 hk).1
      rw[List.length_take] at this;omega
     rw[List.getElem?_take_of_lt hkl,Array.getElem?_toList,hcell k (by omega)] at hk
     exact g7 u (List.mem_of_getElem? hk)
   . rw[List.getElem?_replicate] at hq
     split at hq
     . cases hq;exact hzdl
     . cases hq
   . rw[List.getElem?_replicate] at hq
     split at hq
     case isFalse=>cases hq
     rename_i hql
     cases hq
     have hjl:j<szOf T e:=by rw[<- hzdl];exact (List.getElem?_eq_some_iff.1 hj).1
     have hlt:q*szOf T e+j<l*szOf T e:=by
      have:(q+1)*szOf T e<=l*szOf T e:=Nat.mul_le_mul_right _ hql
      rw[Nat.add_mul] at this;omega
     have hjz:j<z.cells.toList.length:=by omega
     refine⟨z.cells.toList[j],?_,hzd.rel j _ d (List.getElem?_eq_getElem hjz) hj⟩
     rw[List.getElem?_take_of_lt hlt,Array.getElem?_toList,hcell _ (by omega),show (q*szOf T e+j) % szOf T e=j by rw[Nat.mul_comm,Nat.mul_add_mod];exact Nat.mod_eq_of_lt hjl]
     exact List.getElem?_eq_getElem hjz
  have hrl:(List.replicate l zd).length=l:=List.length_replicate
  obtain⟨d,s',ω',hk,hr',hS',hpre⟩:=newRow_sound (e:=e) (xs:=List.replicate l zd) (m:=l) (c:=c) (A:=some ⟨w.heap.size,0,none⟩) (v:=.slice (some ⟨w.heap.size,0,none⟩) l c) hS (Ext.alloc _ _) (by rw[hrl]) (by rw[hrl];exact hown) hrr
   (fun g hg=>by simp[Value.ownBlock] at hg;omega) hrl.symm h
  refine .value (v:=.slice (some ⟨w.heap.size,0,none⟩) l c) (w':=w.alloc (.cells (madeCells z.cells (c*i.size)) e)) ?_ hk hr' hS' (.ext (fun _ _ h=>h) (.refl _) hpre (Ext.alloc _ _))
  simp[execOp,hx.int_,hy.int_,hrun]
 case convert t b x=>
  simp only[vop] at h
  split at h
  case h_3=>exact .of_qop hT hS h
  case h_2=>
   rename_i hx h1 h2
   obtain⟨he8,hsz,hlen,h⟩:=u8K_iff hT h
   have hnT:=nonK_iff h
   rename_i l _ _ _ _ _ e _ _
   have hRx:=hS.get x
   rw[hx] at hRx
   have hrun:=run_bytes_of_string (P:=P) w t b e (bstr l) (hT _ _ h1).kind (hT _ _ h2).kind he8
   rw[bstr_size] at hrun
   have hge:=grownCap_ge w l.length 0 e
   have hle:=grownCap_le_maxLen w l.length 0 e (by unfold maxLen;omega)
   generalize grownCap w l.length 0 e=cap at hrun hge hle
   have hsz1:szOf T (Nat.add e BIG)=1:=szOf_big hnT.1 (by simp[BIG])
   have hcs:(bytesRow (bstr l) cap).size=cap:=by have hb:=bstr_size l;simp[bytesRow];omega
   have hown:ownsR (w.drew.alloc (.cells (bytesRow (bstr l) cap) e ((bytesRow (bstr l) cap).size,(bytesRow (bstr l) cap).size+1))) w0.heap.size (Nat.add e BIG) (szOf T (Nat.add e BIG)) (.slice (some ⟨w.heap.size,0,none⟩) l.length cap) l.length (Lib.strCells (bstr l)):=by
    rw[hsz1]
    refine⟨by simp[Lib.strCells,bstr],.inr ⟨w.heap.size,cap,bytesRow (bstr l) cap,e,((bytesRow (bstr l) cap).size,(bytesRow (bstr l) cap).size+1),rfl,hS.mem.below.size,by show (w.heap.push _)[w.heap.size]? = _;simp,hge,hle,by rw[hcs];omega,?_,.inr ⟨by simp[BIG],Nat.le_refl _⟩⟩⟩
    simp[bytesRow,Lib.strCells,bstr]
   have hext:Ext w (w.drew.alloc (.cells (bytesRow (bstr l) cap) e ((bytesRow (bstr l) cap).size,(bytesRow (bstr l) cap).size+1))):=(Below.refl w.heap.size w).drew.alloc (Nat.le_refl _) _
   obtain⟨d,s',ω',hk,hr',hS',hpre⟩:=newRow_soundR (e:=Nat.add e BIG) (xs:=l.map bcell) (vals:=Lib.strCells (bstr l)) (m:=l.length) (c:=cap) (A:=some ⟨w.heap.size,0,none⟩) (v:=.slice (some ⟨w.heap.size,0,none⟩) l.length cap) hS hext (by simp) (by rw[List.length_map];exact hown) (bytes_ri V l hsz1)
    (fun g hg=>by simp[Value.ownBlock] at hg;omega) (by simp) hnT.2
   refine .value (v:=.slice (some ⟨w.heap.size,0,none⟩) l.length cap) ?_ hk hr' hS' (.ext (fun _ _ h=>h) (.refl _) hpre hext)
   simp only[execOp,hRx.str_,Sem.run_bind,hrun,Result.andThen_ok,Sem.run_pure]
  rename_i hx h1 h2
  obtain⟨he8,hsz,h⟩:=u8K_iff hT h
  split at h
  case h_2=>exact h.elim
  rename_i e' xs hrow
  obtain⟨hee,hm,l,hl,hk⟩:=eqM_iff h
  have hRx:=hS.get x
  rw[hx] at hRx
  obtain⟨hsz',hk⟩:=s1K_iff hk
  have hc:=convS_sound hS (hT _ _ h1).kind (hT _ _ h2).kind he8 hsz' hRx hrow hm hl
  refine .value (v:=.string (bstr l)) ?_ hk (.imm _ _ (.s l)) hS (.ext (fun _ _ h=>h) (.refl _) (.refl _) (Ext.refl w))
  simp[execOp,hc]
 case makeInterface t x=>
  simp only[vop] at h
  obtain⟨d',⟨hc,hk⟩,hr⟩:=expoN_sound (hS.get x) h
  refine .value (v:=.iface t (a.eval x)) ?_ hk (.imm _ _ (.ifc t _ _ hr)) hS (.ext (fun _ _ h=>h) (.refl _) (.refl _) (Ext.refl w))
  simp[execOp,run_makeInterface w t _ hc.ok]
 case call c=>
  obtain⟨callee,args,argTypes⟩:=c
  cases callee with
  | invoke r m=>
   simp only[vop] at h
   rcases h with h|h
   . exact .of_qop hT hS h
   split at h
   case h_2=>exact h.elim
   rename_i t d hd
   have hr:=hS.get r
   rw[hd] at hr
   obtain⟨x,hx,hxr⟩:=hr.ifc_
   obtain⟨f,hm,h⟩:=h
   obtain⟨V1,ds1,s1,h,hv1,hS1,hVV⟩:=pubsK_sound 8 hS (hS.gets _) h
   obtain⟨es,⟨R,hf,h⟩,hes,hri⟩:=exposN_sound argTypes.toList ds1 _ _ hv1 h
   obtain⟨env,box,row,n⟩:=s1
   intro next Q hn
   have hcalls:=hf.run V1 w (#[x]++args.map a.eval) hS1.mem.vok (by have:=hv1.1;simp at this ⊢;omega) (fun j v d h1 h2=>by
    cases j with
    | zero=>
     rw[Array.getElem?_append_left (by simp)] at h1
     simp at h1 h2
     subst h1 h2
     exact hxr.mono hVV
    | succ j=>
     rw[Array.getElem?_append_right (by simp)] at h1
     exact hri j v d (by simpa using h1) (by simpa using h2))
   unfold Oper.wp
   have hrun:(execOp a.eval ⟨dst,.call ⟨.invoke r m,args,argTypes⟩,type,pos,after,guard⟩).run P w = .ok (.enter f (#[x]++args.map a.eval)) w:=by
    simp only[execOp,resolve,hx,Sem.run_bind,Sem.run_pure,Result.andThen_ok]
    rw[hm.enter]
   rw[hrun]
   show Calls P f (#[x]++args.map a.eval) w _
   refine hcalls.mono ?_
   rintro e w'' ⟨V',ω0,row0,v,d,rfl,hR,hrs,hres⟩
   have hM:=hS1.mem.call hres
   have hk:=h d row0 hR
   have hl:row.length=ω.length:=hS1.mem.rl.symm
   dsimp only at hk
   rw[hl] at hk
   obtain⟨d',hk,hr⟩:=shiftD_sound (μ:=μ) (V':=V') (ω':=ω++ω0) (VLe.refl V') (fun r u hu=>by rw[List.getElem?_append_right (by omega),Nat.add_sub_cancel];exact hu) hrs hk
   rw[catK_eq] at hk
   exact hn d' v _ V' μ (ω++ω0) w'' hk hr ⟨hS1.tmps,hS1.defers.ext hres.below,fun t=>(hS1.env t).mono hres.le (.refl μ) (.append _ _),hM⟩ (fun h=>by cases h)
  | builtin b=>
   cases b<;>first|exact .of_qop hT hS h|skip
   case copy=>
    simp only[vop] at h
    split at h
    case h_2=>exact h.elim
    rename_i x y t t' ha ht
    obtain⟨args⟩:=args
    obtain⟨argTypes⟩:=argTypes
    dsimp only at ha ht
    subst ha ht
    obtain⟨d,v,s',w',hk,hr,hS',hrun,hstep⟩:=copK_sound (P:=P) (u:=t') (ty:=type) hT hS (hS.get x) (hS.get y) h
    refine .value (v:=v) (w':=w') ?_ hk hr hS' hstep
    simp[execOp,resolve,invoke,builtin,hrun]
   simp only[vop] at h
   split at h
   case h_2=>exact h.elim
   rename_i x y t t' ha ht
   obtain⟨args⟩:=args
   obtain⟨argTypes⟩:=argTypes
   dsimp only at ha ht
   subst ha ht
   split at h
   . rename_i h31
     obtain⟨d,v,s',ω',w',hk,hr,hS',hrun,hstep⟩:=appS_sound (P:=P) (ty:=type) hT hS (hT _ _ h31).kind (hS.get x) (hS.get y) h
     refine .value ?_ hk hr hS' hstep
     simp only[execOp,resolve,invoke,builtin,Sem.run_bind,Sem.run_pure,Result.andThen_ok,List.map_toArray,List.map_cons,List.map_nil,hrun]
   obtain⟨htt,h30⟩:=eqN_iff h
   subst htt
   obtain⟨d,v,s',ω',w',hk,hr,hS',hrun,hstep⟩:=appK_sound (P:=P) (ty:=type) hT hS (hS.get x) (hS.get y) h30
   refine .value (v:=v) (w':=w') ?_ hk hr hS' hstep
   simp[execOp,resolve,invoke,builtin,hrun]
  | value f=>
   cases f<;>first|exact .of_qop hT hS h|skip
   . rename_i t
     simp only[vop] at h
     rcases h with h|h
     . exact .of_qop hT hS h
     obtain⟨f,first,cap,vs,us,hv,hs1,hs2,hr1,hr2,h⟩:=fnK_sound (hS.get (.tmp t)) h
     rw[forceL_eq] at h
     have hg:=hS.gets args.toList
     have hvals:Vals (szOf T) V μ ω (vs.toList++args.toList.map a.eval++us.toList) (first++s.gets args.toList++cap):=
      ⟨by have:=hg.1;simp at this ⊢;omega,cat3 (fun j v d h1 h2=>hr1 j v d (by simpa using h1) h2) hg.2 (fun j v d h1 h2=>hr2 j v d (by simpa using h1) h2) (by simpa using hs1) hg.1⟩
     obtain⟨hcall,hcalls⟩:=inlK_sound hT hS hvals h
     intro next Q hn
     unfold Oper.wp
     have hrun:(execOp a.eval ⟨dst,.call ⟨.value (.tmp t),args,argTypes⟩,type,pos,after,guard⟩).run P w = .ok (.enter f (vs.toList++args.toList.map a.eval++us.toList).toArray) w:=by
      simp only[execOp,resolve,hv,Deferred.ofValue,invoke,Sem.run_bind,Sem.run_pure,Result.andThen_ok]
      rw[hcall]
      congr 2
      apply Array.ext'
      simp
     rw[hrun]
     show Calls P f _ w _
     refine hcalls.mono ?_
     rintro e w'' ⟨v,d,s',V',μ',ω',rfl,hk,hr,hS'⟩
     exact hn d v s' V' μ' ω' w'' hk hr hS' (fun h=>by cases h)
   rename_i f
   simp only[vop] at h
   rcases h with h|h|h|h|h
   . exact .of_qop hT hS h
   case inr.inr.inr.inr=>
    rw[forceL_eq] at h
    intro next Q hn
    have hg:=hS.gets args.toList
    have hcalls:=h.run w0 V0 V μ ω a w _ hS hg.1 hg.2
    unfold Oper.wp
    have hrun:(execOp a.eval ⟨dst,.call ⟨.value (.func f),args,argTypes⟩,type,pos,after,guard⟩).run P w = .ok (.enter f (args.toList.map a.eval).toArray) w:=by
     simp only[execOp,resolve,Act.eval,Deferred.ofValue,invoke,Sem.run_bind,Sem.run_pure,Result.andThen_ok]
     rw[h.call]
     congr 2
     apply Array.ext'
     simp
    rw[hrun]
    show Calls P f _ w _
    refine hcalls.mono ?_
    rintro e w'' ⟨v,d,s',V',μ',ω',rfl,hk,hr,hS'⟩
    exact hn d v s' V' μ' ω' w'' hk hr hS' (fun h=>by cases h)
   case inr.inr.inr.inl=>
    obtain⟨hrun,h⟩:=exposeK_sound (dst:=dst) (type:=type) (pos:=pos) (after:=after) (guard:=guard) hS h
    intro next Q hn
    unfold Oper.wp
    rw[hrun]
    show Calls P f (args.map a.eval) w _
    refine h.mono ?_
    rintro e w'' ⟨v,d,s',V',ω',rfl,hk,hr,hS',_⟩
    exact hn d v s' V' μ ω' w'' hk hr hS' (fun h=>by cases h)
   case inr.inr.inl=>
    rw[forceL_eq] at h
    obtain⟨hcall,hcalls⟩:=inlK_sound hT hS (hS.gets args.toList) h
    intro next Q hn
    unfold Oper.wp
    have hrun:(execOp a.eval ⟨dst,.call ⟨.value (.func f),args,argTypes⟩,type,pos,after,guard⟩).run P w = .ok (.enter f (args.toList.map a.eval).toArray) w:=by
     simp only[execOp,resolve,Act.eval,Deferred.ofValue,invoke,Sem.run_bind,Sem.run_pure,Result.andThen_ok]
     rw[hcall]
     congr 2
     apply Array.ext'
     simp
    rw[hrun]
    show Calls P f _ w _
    refine hcalls.mono ?_
    rintro e w'' ⟨v,d,s',V',μ',ω',rfl,hk,hr,hS'⟩
    exact hn d v s' V' μ' ω' w'' hk hr hS' (fun h=>by cases h)
   obtain⟨V1,ds1,s1,h,hv1,hS1,_⟩:=pubsK_sound 8 hS (hS.gets _) h
   obtain⟨es,⟨R,hf,h⟩,hes,hri⟩:=exposN_sound argTypes.toList ds1 _ _ hv1 h
   obtain⟨env,box,row,n⟩:=s1
   intro next Q hn
   have hcalls:=hf.run V1 w (args.map a.eval) hS1.mem.vok (by have:=hv1.1;simp at this ⊢;omega) (fun j v d h1 h2=>hri j v d (by simpa using h1) h2)
   unfold Oper.wp
   have hrun:(execOp a.eval ⟨dst,.call ⟨.value (.func f),args,argTypes⟩,type,pos,after,guard⟩).run P w = .ok (.enter f (args.map a.eval)) w:=by
    simp only[execOp,resolve,Act.eval,Deferred.ofValue,invoke,Sem.run_bind,Sem.run_pure,Result.andThen_ok]
    rw[show (#[]++args.map a.eval)++#[]=args.map a.eval by simp,hf.call]
   rw[hrun]
   show Calls P f (args.map a.eval) w _
   refine hcalls.mono ?_
   rintro e w'' ⟨V',ω0,row0,v,d,rfl,hR,hrs,hres⟩
   have hM:=hS1.mem.call hres
   have hk:=h d row0 hR
   have hl:row.length=ω.length:=hS1.mem.rl.symm
   dsimp only at hk
   rw[hl] at hk
   obtain⟨d',hk,hr⟩:=shiftD_sound (μ:=μ) (V':=V') (ω':=ω++ω0) (VLe.refl V') (fun r u hu=>by rw[List.getElem?_append_right (by omega),Nat.add_sub_cancel];exact hu) hrs hk
   rw[catK_eq] at hk
   exact hn d' v _ V' μ (ω++ω0) w'' hk hr ⟨hS1.tmps,hS1.defers.ext hres.below,fun t=>(hS1.env t).mono hres.le (.refl μ) (.append _ _),hM⟩ (fun h=>by cases h)
 all_goals exact .of_qop hT hS h
theorem vops_sound(hT:TOk P T){ops:List Oper}{Q:Exit->Act->World->Prop}:∀ (rest:List Oper) (s:St) (V:Vw) (μ:List Nat) (ω:List Value) (a:Act) (w:World) (K:St->Prop),Sim (szOf T) w0 V0 V μ ω s a w ->
    vops P T ops rest s K->(∀ s V μ ω a w,K s->Sim (szOf T) w0 V0 V μ ω s a w->Q .normal a w)->wpList P ops.toArray Q rest a w
 | [],s,V,μ,ω,a,w,K,hS,h,hq=>hq s V μ ω a w h hS
 | o :: rest,s,V,μ,ω,a,w,K,hS,h,hq=>by
  simp only[vops] at h
  unfold wpList
  rcases wantK_sound hS h with⟨hw,s1,h,hS⟩|⟨hw,s1,h,hS⟩
  . rw[if_pos hw]
    refine .inl (vop_sound hT hS h _ _ fun d v s2 V2 μ2 ω2 w2 hk hr hS2 _=>?_)
    obtain⟨s3,h,hS3⟩:=putK_sound hS2 hr hk
    exact vops_sound hT rest s3 _ _ _ _ _ K hS3 h hq
  . rw[if_neg (by rw[hw];simp)]
    obtain⟨s3,h,hS3⟩:=putK_sound hS (v:=undef) (d:=.tup []) (RS.tup [] #[] rfl (fun j v d h=>by simp at h)) h
    exact vops_sound hT rest s3 _ _ _ _ _ K hS3 h hq
theorem Ok.region(hT:TOk P T){s:St}{Q:Exit->St->Prop}{id:Nat}{l:List Oper}(h:vops P T l l s (Q .normal)):Ok P T (.region id l.toArray false) Q s:=by
 refine⟨fun w0 V0 V μ ω a w hS=>?_⟩
 refine wp_region_lit ?_
 exact vops_sound hT l s V μ ω a w _ hS h fun s' V' μ' ω' a' w' hk hS'=>⟨s',V',μ',ω',hk,hS'⟩
end
end Go.Vx
namespace Go.Vx
open Go.RowKit
def gath1(ti:Option TI)(row acc:Rows)(d:D)(K:Rows->Rows->D->Prop):Prop:=
 match d with
 | .own r m=>match row[r]? with
  | some (some x)=>setK row r none fun row=>snocK acc (some x) fun acc'=>natLit acc.length fun k=>K row acc' (.own k m)
  | _=>False
 | d=>norm1 ti d fun d=>K row acc d
def gathL(T:Tab)(e:TypeId):Nat->Rows->Rows->List D->(Rows->Rows->List D->Prop)->Prop
 | _,row,acc,[],K=>K row acc []
 | j,row,acc,d :: r,K=>gath1 (cellTI T e j) row acc d fun row acc d=>gathL T e (j+1) row acc r fun row acc r=>K row acc (d :: r)
def gath(T:Tab)(t:TypeId)(row acc:Rows)(d:D)(K:Rows->Rows->D->Prop):Prop:=
 match d with
 | .agg cs=>gathL T t 0 row acc cs fun row acc cs=>K row acc (.agg cs)
 | d=>gath1 (T t) row acc d K
def gaths(T:Tab):Rows->Rows->List TypeId->List D->(Rows->List D->Prop)->Prop
 | row,acc,t :: ts,d :: ds,K=>gath T t row acc d fun row acc d=>gaths T row acc ts ds fun acc ds=>K acc (d :: ds)
 | _,acc,[],[],K=>K acc []
 | _,_,_,_,_=>False
def nilOwn(T:Tab):List TypeId->List D->Rows->(Rows->List D->Prop)->Prop
 | t :: ts,d :: ds,row,K=>match d,T t with
  | .nilS,some ⟨_,_,.slice e,_⟩=>snocK row (some (e,[])) fun row'=>natLit row.length fun r=>nilOwn T ts ds row' fun row ds=>K row (.own r 0 :: ds)
  | d,_=>d.force fun d=>nilOwn T ts ds row fun row ds=>K row (d :: ds)
 | _,[],row,K=>K row []
 | [],_ :: _,_,_=>False
def retK(T:Tab)(fn:Func)(R:D->Rows->Prop)(s:St):Prop:=
 resK T s fn.results.toList fun ds=>
  (pubsK 8 s ds fun ds _=>exposN T fn.resultTypes.toList ds fun es=>R (oneD es) []) \/
  (gaths T s.row [] fn.resultTypes.toList ds fun acc es=>R (oneD es) acc) \/
  (nilOwn T fn.resultTypes.toList ds s.row fun row ds=>gaths T row [] fn.resultTypes.toList ds fun acc es=>R (oneD es) acc)
def endQ(T:Tab)(fn:Func)(R:D->Rows->Prop):Exit->St->Prop
 | .normal,s=>retK T fn R s
 | .ret,s=>retK T fn R s
 | _,_=>False
section
variable {w0 w w' : World} {V0 : Fr} {V : Vw} {μ : List Nat} {ω : List Value} {box : List (List D)} {row : Rows} {s : St} {a : Act} {P : Program} {T : Tab}
structure Pick(ω:List Value)(row0 row:Rows)(ω0:List Value)(acc:Rows)(f:Nat->Nat):Prop where
 len:ω0.length=acc.length
 val:∀ k,k<acc.length->ω0[k]? = ω[f k]?/\acc[k]? = row0[f k]?/\row[f k]? = some none
 inj:∀ k k',k<acc.length->k' < acc.length->f k=f k'->k=k'
 keep:∀ (r:Nat) x,row[r]? = some (some x)->row0[r]? = some (some x)
theorem Pick.more{row0 row:Rows}{ω0:List Value}{acc:Rows}{f:Nat->Nat}(h:Pick ω row0 row ω0 acc f){r:Nat}{x:TypeId × List (List D)}{v:Value}(hr:row[r]? = some (some x))(hv:ω[r]? = some v) :
    Pick ω row0 (row.set r none) (ω0++[v]) (acc++[some x]) (fun k=>if k=acc.length then r else f k):=by
 have hrl:r<row.length:=(List.getElem?_eq_some_iff.1 hr).1
 refine⟨by simp[h.len],fun k hk=>?_,fun k k' hk hk' he=>?_,fun q y hq=>?_⟩
 . by_cases hk2:k=acc.length
   . subst hk2
     simp only[if_true]
     refine⟨?_,?_,List.getElem?_set_self hrl⟩
     . rw[<- h.len,List.getElem?_append_right (Nat.le_refl _)];simp[hv]
     . rw[List.getElem?_append_right (Nat.le_refl _)];simp[h.keep r x hr]
   . have hk3:k<acc.length:=by simp at hk;omega
     simp only[if_neg hk2]
     obtain⟨h1,h2,h3⟩:=h.val k hk3
     refine⟨by rw[List.getElem?_append_left (by rw[h.len];exact hk3)];exact h1,by rw[List.getElem?_append_left hk3];exact h2,?_⟩
     by_cases hfr:f k=r
     . rw[hfr];exact List.getElem?_set_self hrl
     . rw[List.getElem?_set_ne (Ne.symm hfr)];exact h3
 . have hne:∀ k,k<acc.length->f k ≠ r:=fun k hk e=>by
     have:=(h.val k hk).2.2
     rw[e,hr] at this
     cases this
   simp at hk hk'
   by_cases h1:k=acc.length<;>by_cases h2:k'=acc.length
   . omega
   . rw[if_pos h1,if_neg h2] at he;exact absurd he.symm (hne k' (by omega))
   . rw[if_neg h1,if_pos h2] at he;exact absurd he (hne k (by omega))
   . rw[if_neg h1,if_neg h2] at he;exact h.inj k k' (by omega) (by omega) he
 . by_cases hqr:q=r
   . subst hqr;rw[List.getElem?_set_self hrl] at hq;cases hq
   . rw[List.getElem?_set_ne (Ne.symm hqr)] at hq;exact h.keep q y hq
theorem gath1_sound{ti:Option TI}{row0 row:Rows}{ω0:List Value}{acc:Rows}{f:Nat->Nat}(hp:Pick ω row0 row ω0 acc f){d:D}{v:Value}{K:Rows->Rows->D->Prop}
    (hv:RS (szOf T) V μ ω v d)(h:gath1 ti row acc d K) :
    ∃ row' acc' d' ω0' f',K row' acc' d'/\Pick ω row0 row' ω0' acc' f'/\Pre ω0 ω0'/\RS (szOf T) V [] ω0' v d':=by
 unfold gath1 at h
 split at h
 . rename_i r m
   split at h
   case h_2=>exact h.elim
   rename_i x hr
   obtain⟨_,h⟩:=setK_iff _ _ _ _ h
   simp only[snocK_eq,natLit_eq] at h
   obtain⟨A,N,c,hω,hn,rfl⟩:=hv.own_
   refine⟨_,_,_,_,_,h,hp.more hr hω,.append _ _,.own _ m A N c ?_ hn⟩
   rw[<- hp.len,List.getElem?_append_right (Nat.le_refl _)]
   simp
 . obtain⟨d',hk,hd⟩:=norm1_sound hv h
   exact⟨row,acc,d',ω0,f,hk,hp,.refl _,.imm _ _ hd⟩
theorem Pre.trans{α:Type}{l m n:List α}(h:Pre l m)(h':Pre m n):Pre l n:=fun i x hx=>h' i x (h i x hx)
theorem gathL_sound{e:TypeId}{row0:Rows}:∀ (cs:List D) (j:Nat) (row acc:Rows) (ω0:List Value) (f:Nat->Nat) (vs:List Value) (K:Rows->Rows->List D->Prop),Pick ω row0 row ω0 acc f ->
    Vals (szOf T) V μ ω vs cs->gathL T e j row acc cs K->∃ row' acc' ds ω0' f',K row' acc' ds/\Pick ω row0 row' ω0' acc' f'/\Pre ω0 ω0'/\Vals (szOf T) V [] ω0' vs ds
 | [],j,row,acc,ω0,f,vs,K,hp,hv,h=>⟨row,acc,[],ω0,f,h,hp,.refl _,by simpa using hv.1,by simp⟩
 | c :: cs,j,row,acc,ω0,f,[],K,hp,hv,h=>by have:=hv.1;simp at this
 | c :: cs,j,row,acc,ω0,f,v :: vs,K,hp,hv,h=>by
  simp only[gathL] at h
  obtain⟨row1,acc1,d,ω1,f1,h,hp1,hpre,hd⟩:=gath1_sound hp (hv.2 0 v c rfl rfl) h
  obtain⟨row2,acc2,ds,ω2,f2,h,hp2,hpre2,hds⟩:=gathL_sound cs (j+1) row1 acc1 ω1 f1 vs _ hp1 ⟨by simpa using hv.1,fun j v d h1 h2=>hv.2 (j+1) v d (by simpa using h1) (by simpa using h2)⟩ h
  refine⟨row2,acc2,d :: ds,ω2,f2,h,hp2,hpre.trans hpre2,by simp[hds.1],fun j u x h1 h2=>?_⟩
  cases j with
  | zero=>simp only[List.getElem?_cons_zero,Option.some.injEq] at h1 h2;subst h1 h2;exact hd.mono (.refl V) (.refl _) hpre2
  | succ j=>exact hds.2 j u x (by simpa using h1) (by simpa using h2)
theorem gath_sound{t:TypeId}{row0 row:Rows}{ω0:List Value}{acc:Rows}{f:Nat->Nat}(hp:Pick ω row0 row ω0 acc f){d:D}{v:Value}{K:Rows->Rows->D->Prop}
    (hv:RS (szOf T) V μ ω v d)(h:gath T t row acc d K) :
    ∃ row' acc' d' ω0' f',K row' acc' d'/\Pick ω row0 row' ω0' acc' f'/\Pre ω0 ω0'/\RS (szOf T) V [] ω0' v d':=by
 unfold gath at h
 split at h
 . obtain⟨vs,rfl,hs,ho,hR⟩:=hv.agg_
   obtain⟨row2,acc2,ds,ω2,f2,h,hp2,hpre2,hds⟩:=gathL_sound _ 0 row acc ω0 f vs.toList _ hp ⟨by simpa using hs,fun j v d h1 h2=>hR j v d (by simpa using h1) h2⟩ h
   exact⟨row2,acc2,_,ω2,f2,h,hp2,hpre2,.agg _ _ (by have:=hds.1;simpa using this) ho fun j v d h1 h2=>hds.2 j v d (by simpa using h1) h2⟩
 . exact gath1_sound hp hv h
theorem gaths_sound{row0:Rows}:∀ (ts:List TypeId) (ds:List D) (row acc:Rows) (ω0:List Value) (f:Nat->Nat) (vs:List Value) (K:Rows->List D->Prop),Pick ω row0 row ω0 acc f ->
    Vals (szOf T) V μ ω vs ds->gaths T row acc ts ds K->∃ row' acc' es ω0' f',K acc' es/\Pick ω row0 row' ω0' acc' f'/\Pre ω0 ω0'/\Vals (szOf T) V [] ω0' vs es
 | [],[],row,acc,ω0,f,vs,K,hp,hv,h=>⟨row,acc,[],ω0,f,h,hp,.refl _,by simpa using hv.1,by simp⟩
 | t :: ts,[],row,acc,ω0,f,vs,K,hp,hv,h=>h.elim
 | [],d :: ds,row,acc,ω0,f,vs,K,hp,hv,h=>h.elim
 | t :: ts,d :: ds,row,acc,ω0,f,[],K,hp,hv,h=>by have:=hv.1;simp at this
 | t :: ts,c :: cs,row,acc,ω0,f,v :: vs,K,hp,hv,h=>by
  simp only[gaths] at h
  obtain⟨row1,acc1,d,ω1,f1,h,hp1,hpre,hd⟩:=gath_sound hp (hv.2 0 v c rfl rfl) h
  obtain⟨row2,acc2,ds,ω2,f2,h,hp2,hpre2,hds⟩:=gaths_sound ts cs row1 acc1 ω1 f1 vs _ hp1 ⟨by simpa using hv.1,fun j v d h1 h2=>hv.2 (j+1) v d (by simpa using h1) (by simpa using h2)⟩ h
  refine⟨row2,acc2,d :: ds,ω2,f2,h,hp2,hpre.trans hpre2,by simp[hds.1],fun j u x h1 h2=>?_⟩
  cases j with
  | zero=>simp only[List.getElem?_cons_zero,Option.some.injEq] at h1 h2;subst h1 h2;exact hd.mono (.refl V) (.refl _) hpre2
  | succ j=>exact hds.2 j u x (by simpa using h1) (by simpa using h2)
theorem Pick.start(ω:List Value)(row:Rows):Pick ω row row [] [] id:=⟨rfl,by simp,by simp,fun _ _ h=>h⟩
theorem Res.of_mem{V':Vw}(h:Mem (szOf T) w V0 V' μ ω box row w'){ω0:List Value}{acc row1:Rows}{f:Nat->Nat}(hp:Pick ω row row1 ω0 acc f):Res (szOf T) V0.V V' ω0 acc w w':=by
 have back:∀ (k:Nat) v x,ω0[k]? = some v->acc[k]? = some (some x)->ω[f k]? = some v/\row[f k]? = some (some x)/\k<acc.length:=by
  intro k v x h1 h2
  have hk:k<acc.length:=(List.getElem?_eq_some_iff.1 h2).1
  obtain⟨a1,a2,_⟩:=hp.val k hk
  exact⟨by rw[<- a1];exact h1,by rw[<- a2];exact h2,hk⟩
 refine⟨h.below,h.vle,h.vok,h.vold,hp.len,?_,?_,?_⟩
 . intro r v e xs h1 h2
   obtain⟨b1,b2,_⟩:=back r v _ h1 h2
   exact h.hrow _ v e xs b1 b2
 . intro r r' v v' x x' g h1 h2 h3 h4 h5 h6
   obtain⟨b1,b2,b3⟩:=back r v x h1 h2
   obtain⟨c1,c2,c3⟩:=back r' v' x' h3 h4
   have:=h.uniq (.inr (f r)) (.inr (f r')) g ⟨v,x,b1,b2,h5⟩ ⟨v',x',c1,c2,h6⟩
   simp at this
   exact hp.inj r r' b3 c3 this
 . intro p u r v x h1 h2 h3 h4
   obtain⟨b1,b2,_⟩:=back r v x h2 h3
   exact h.vmut p u (.inr (f r)) h1 ⟨v,x,b1,b2,h4⟩
theorem Mem.start(hV:VOk V w):Mem (szOf T) w ⟨V,fun _=>undef,[],[],[]⟩ V [] [] [] [] w:=
 ⟨Below.refl _ _,hV,VLe.refl V,fun _ _=>rfl,rfl,by simp,rfl,by simp,
  fun l l' g h1 _=>by cases l<;>simp[Own] at h1,fun l g h1=>by cases l<;>simp[Own] at h1,fun p u l _ h1=>by cases l<;>simp[Own] at h1,fun x hx=>by cases hx⟩
theorem nilOwn_sound{F:Fr}:∀ (ts:List TypeId) (ds:List D) (vs:List Value) (ω:List Value) (row:Rows) (K:Rows->List D->Prop),Mem (szOf T) w0 F V μ ω box row w->Vals (szOf T) V μ ω vs ds->nilOwn T ts ds row K ->
    ∃ ω' row' ds',K row' ds'/\Pre ω ω'/\Mem (szOf T) w0 F V μ ω' box row' w/\Vals (szOf T) V μ ω' vs ds'
 | ts,[],vs,ω,row,K,hM,hv,h=>⟨ω,row,[],by cases ts<;>exact h,.refl _,hM,hv⟩
 | [],d :: ds,vs,ω,row,K,hM,hv,h=>h.elim
 | t :: ts,d :: ds,[],ω,row,K,hM,hv,h=>by have:=hv.1;simp at this
 | t :: ts,d :: ds,v :: vs,ω,row,K,hM,hv,h=>by
  have htl:Vals (szOf T) V μ ω vs ds:=⟨by simpa using hv.1,fun j v d h1 h2=>hv.2 (j+1) v d (by simpa using h1) (by simpa using h2)⟩
  have hd:=hv.2 0 v d rfl rfl
  simp only[nilOwn] at h
  split at h
  . simp only[snocK_eq,natLit_eq] at h
    rename_i e _ _
    have hM2:=hM.newRow (w':=w) (Ext.refl w) (v:=.slice none 0 0) (e:=e) (xs:=[]) (vals:=[]) ⟨by simp,.inl ⟨rfl,rfl⟩⟩ ⟨by simp,by simp,by simp⟩ (by simp[Value.ownBlock])
    obtain⟨ω',row',ds',hk,hp,hM',hv'⟩:=nilOwn_sound ts ds vs _ _ _ hM2 ⟨htl.1,fun j v d a b=>(htl.2 j v d a b).mono (.refl V) (.refl μ) (.append _ _)⟩ h
    refine⟨ω',row',_,hk,(Pre.append _ _).trans hp,hM',by simp[hv'.1],fun j u x h1 h2=>?_⟩
    cases j with
    | zero=>
     simp only[List.getElem?_cons_zero,Option.some.injEq] at h1 h2
     subst h1 h2
     rw[hd.nilS_]
     refine .own _ 0 none 0 0 (hp _ _ ?_) (Nat.le_refl _)
     rw[hM.rl.symm,List.getElem?_append_right (Nat.le_refl _)]
     simp
    | succ j=>exact hv'.2 j u x (by simpa using h1) (by simpa using h2)
  . rw[D.force_eq] at h
    obtain⟨ω',row',ds',hk,hp,hM',hv'⟩:=nilOwn_sound ts ds vs _ _ _ hM htl h
    refine⟨ω',row',_,hk,hp,hM',by simp[hv'.1],fun j u x h1 h2=>?_⟩
    cases j with
    | zero=>
     simp only[List.getElem?_cons_zero,Option.some.injEq] at h1 h2
     subst h1 h2
     exact hd.mono (.refl V) (.refl μ) hp
    | succ j=>exact hv'.2 j u x (by simpa using h1) (by simpa using h2)
theorem FSpec.of_run(hT:TOk P T){f:FuncId}{fn:Func}{c:Code}(hf:P.funcs[f]? = some fn)(hb:fn.body=some c)(hcall:∀ args w,(callFunc f args).run P w = .ok (.enter f args) w){ds:List D}{R:D->Rows->Prop}(hn:ds.length<=fn.ntmps)
    (h:∀ (w:World) (V:Vw) (a:Act),Sim (szOf T) w ⟨V,fun _=>undef,[],[],[]⟩ V [] [] ⟨envOf 0 ds,[],[],fn.ntmps⟩ a w ->
     c.wp P (fun e a' w'=>∃ s' V' μ' ω',endQ T fn R e s'/\Sim (szOf T) w ⟨V,fun _=>undef,[],[],[]⟩ V' μ' ω' s' a' w') a w):FSpec P T f ds R:=by
 refine⟨hcall,fun V w args hV hl hR=>calls_of_wpM hf hb ?_⟩
 have hS:Sim (szOf T) w ⟨V,fun _=>undef,[],[],[]⟩ V [] [] ⟨envOf 0 ds,[],[],fn.ntmps⟩ { tmps:=args++Array.replicate (fn.ntmps - args.size) undef,defers:=[] } w:=by
  refine⟨by simp;omega,.start,fun t=>?_,Mem.start hV⟩
  show RS _ _ _ _ (slotV _ fn.ntmps _ t) (look (envOf 0 ds) t)
  rw[look_envOf,if_pos (Nat.zero_le _),Nat.sub_zero]
  unfold slotV
  split
  case isFalse hge=>
   rw[List.getD,List.getElem?_eq_none (by omega)]
   exact .imm _ _ (.u _)
  show RS _ _ _ _ ((args++Array.replicate (fn.ntmps - args.size) undef).getD t undef) _
  by_cases ht:t<ds.length
  . have hta:t<args.size:=by omega
    have hd:=List.getElem?_eq_getElem ht
    have ha:=Array.getElem?_eq_getElem hta
    have:=hR t _ _ ha hd
    have e1:(args++Array.replicate (fn.ntmps - args.size) undef).getD t undef=args[t]:=by
     simp[Array.getD,hta]
     omega
    rw[e1]
    simp only[List.getD,hd,Option.getD_some]
    exact .imm _ _ this
  . rw[List.getD,List.getElem?_eq_none (by omega)]
    exact .imm _ _ (.u _)
 refine wp_mono (h w V _ hS) ?_
 rintro e a' w' ⟨s',V',μ',ω',hq,hS'⟩
 have fin:retK T fn R s'->LeavesInM Fence.wide 0 P fn a'.tmps (fun e w'=>∃ V' ω row v' d,e = .returned v'/\R d row/\RS (szOf T) V' [] ω v' d/\Res (szOf T) V V' ω row w w') a'.defers .returning w':=by
  intro hr
  obtain⟨ms',e1,e2,e3,hS'⟩:=hS'.shut
  rw[e1]
  have e4:ms'.map mkD++[]=ms'.map mkD:=List.append_nil _
  show LeavesInM _ _ _ _ _ _ (ms'.map mkD++[]) _ _
  rw[e4]
  refine leavesM (by simp) ms' w' e2 e3 ?_
  obtain⟨vs,ds',hk,hv,hrun⟩:=resK_sound hT hS' _ _ hr
  refine⟨if h:vs.toArray.size=1 then vs.toArray[0] else .tuple vs.toArray,?_,?_⟩
  . rw[results_eq,Array.mapM_eq_mapM_toList]
    dsimp only at hrun
    simp only[Sem.run_bind,Sem.run_map,hrun,Result.andThen_ok,Sem.run_pure]
  . rcases hk with hk|hk|hk
    . obtain⟨V1,ds1,s1,hk,hv1,hS1,_⟩:=pubsK_sound 8 hS' hv hk
      obtain⟨es,hk,hes,hri⟩:=exposN_sound _ _ _ _ hv1 hk
      refine⟨V1,[],[],_,_,rfl,hk,oneD_rel ⟨by rw[hv1.1,hes],fun j v d h1 h2=>.imm _ _ (hri j v d h1 h2)⟩,?_⟩
      exact Res.of_mem hS1.mem (Pick.start _ _)
    . obtain⟨row1,acc,es,ω0,f0,hk,hp,_,hes⟩:=gaths_sound _ _ _ _ _ _ _ _ (Pick.start _ _) hv hk
      exact⟨V',ω0,acc,_,_,rfl,hk,oneD_rel hes,Res.of_mem hS'.mem hp⟩
    . obtain⟨ω1,row0,ds1,hk,_,hM1,hv1⟩:=nilOwn_sound _ _ _ _ _ _ hS'.mem hv hk
      obtain⟨row1,acc,es,ω0,f0,hk,hp,_,hes⟩:=gaths_sound _ _ _ _ _ _ _ _ (Pick.start _ _) hv1 hk
      exact⟨V',ω0,acc,_,_,rfl,hk,oneD_rel hes,Res.of_mem hM1 hp⟩
 cases e<;>simp only[endQ] at hq
 . exact fin hq
 . exact fin hq
theorem FSpec.of_ok(hT:TOk P T){f:FuncId}{fn:Func}{c:Code}(hf:P.funcs[f]? = some fn)(hb:fn.body=some c)(hcall:∀ args w,(callFunc f args).run P w = .ok (.enter f args) w){ds:List D}{R:D->Rows->Prop}(hn:ds.length<=fn.ntmps)
    (h:Ok P T c (endQ T fn R) ⟨envOf 0 ds,[],[],fn.ntmps⟩):FSpec P T f ds R:=
 .of_run hT hf hb hcall hn fun w V a hS=>h.run w _ V [] [] a w hS
end
end Go.Vx
namespace Go.Vx
open Go.RowKit
def fit0(k kb:Nat):D->Bool
 | .own r _=>Nat.blt r k
 | .op r _ _ _=>Nat.blt r k
 | .bp i _=>Nat.blt i kb
 | .agg _=>false
 | .tup _=>false
 | .fnh ..=>false
 | .osl ..=>false
 | .tie r _ _ _=>Nat.blt r k
 | _=>true
def fitL0(k kb:Nat):List D->Bool
 | []=>true
 | d :: r=>match fit0 k kb d with|true=>fitL0 k kb r|false=>false
def fit1(k kb:Nat):D->Bool
 | .fnh _ x y=>fitL0 k kb x && fitL0 k kb y
 | d=>fit0 k kb d
def fitL(k kb:Nat):List D->Bool
 | []=>true
 | d :: r=>match fit1 k kb d with|true=>fitL k kb r|false=>false
def fitD(k kb:Nat):D->Bool
 | .agg cs=>fitL k kb cs
 | .tup cs=>fitL k kb cs
 | d=>fit1 k kb d
def keepE(k kb:Nat)(env:List (Nat × D)):List Nat->(List (Nat × D)->Prop)->Prop
 | [],K=>K []
 | t :: ts,K=>(look env t).force fun d=>boolP (fitD k kb d) <| keepE k kb env ts fun r=>K ((t,d) :: r)
def fitB(k kb:Nat):List (List D)->Bool
 | []=>true
 | c :: r=>match fitL k kb c with|true=>fitB k kb r|false=>false
def takeK{α:Type}:Nat->List α->(List α->Prop)->Prop
 | 0,_,K=>K []
 | k+1,x :: l,K=>takeK k l fun r=>K (x :: r)
 | _+1,[],K=>K []
theorem takeK_iff{α:Type}:∀ {k:Nat} {l:List α} {K:List α->Prop},takeK k l K->K (l.take k)/\True
 | 0,l,K,h=>⟨by simpa[takeK] using h,trivial⟩
 | k+1,[],K,h=>⟨h,trivial⟩
 | k+1,x :: l,K,h=>by
  obtain⟨h1,h2⟩:=takeK_iff (k:=k) (l:=l) h
  exact⟨h1,trivial⟩
def keepK(L:List Nat)(k kb:Nat)(s:St)(K:St->Prop):Prop:=
 match s with
 | ⟨env,box,row,n⟩=>keepE k kb env L fun env=>takeK kb box fun box=>boolP (fitB k kb box) <| takeK k row fun row=>K ⟨env,box,row,n⟩
section
variable {w0 w w' : World} {V0 : Fr} {V : Vw} {μ : List Nat} {ω : List Value} {box : List (List D)} {row : Rows} {s : St} {a : Act} {P : Program} {T : Tab} {sz : TypeId → Nat}
theorem blt_lt{a b:Nat}(h:Nat.blt a b=true):a<b:=by
 unfold Nat.blt at h
 rw[Nat.ble_eq] at h
 exact h
theorem RS.fit0{k kb:Nat}{v:Value}{d:D}(h:RS sz V μ ω v d)(hf:fit0 k kb d=true):RS sz V (μ.take kb) (ω.take k) v d:=by
 cases h with
 | imm _ _ hi=>exact .imm _ _ hi
 | own r n A N c hq hn=>exact .own r n A N c (by rw[List.getElem?_take_of_lt (blt_lt hf)];exact hq) hn
 | op r e j off g N c hq=>exact .op r e j off g N c (by rw[List.getElem?_take_of_lt (blt_lt hf)];exact hq)
 | bp i off g hg=>exact .bp i off g (by rw[List.getElem?_take_of_lt (blt_lt hf)];exact hg)
 | agg cs=>simp[Vx.fit0] at hf
 | tup cs=>simp[Vx.fit0] at hf
 | fnh=>simp[Vx.fit0] at hf
 | osl=>simp[Vx.fit0] at hf
 | tie v r g n c hq=>exact .tie v r g n c (by rw[List.getElem?_take_of_lt (blt_lt hf)];exact hq)
theorem fitL0_at{k kb:Nat}:∀ {l:List D},fitL0 k kb l=true->∀ (j:Nat) d,l[j]? = some d->fit0 k kb d=true
 | [],_,j,d,h=>by simp at h
 | c :: l,hf,j,d,h=>by
  simp only[fitL0] at hf
  split at hf
  case h_2=>cases hf
  rename_i hc
  cases j with
  | zero=>simp at h;subst h;exact hc
  | succ j=>exact fitL0_at hf j d (by simpa using h)
theorem RS.fit1{k kb:Nat}{v:Value}{d:D}(h:RS sz V μ ω v d)(hf:fit1 k kb d=true):RS sz V (μ.take kb) (ω.take k) v d:=by
 by_cases hd:∃ f x y,d = .fnh f x y
 . obtain⟨f,x,y,rfl⟩:=hd
   cases h with
   | imm _ _ hi=>cases hi
   | fnh _ _ _ vs us h1 h2 hR1 hR2=>
    simp only[Vx.fit1,Bool.and_eq_true] at hf
    exact .fnh f x y vs us h1 h2 (fun j v d a b=>(hR1 j v d a b).fit0 (fitL0_at hf.1 j d b)) (fun j v d a b=>(hR2 j v d a b).fit0 (fitL0_at hf.2 j d b))
 . refine h.fit0 ?_
   cases d<;>first|exact hf|exact absurd ⟨_,_,_,rfl⟩ hd
theorem fitL_at{k kb:Nat}:∀ {l:List D},fitL k kb l=true->∀ (j:Nat) d,l[j]? = some d->fit1 k kb d=true
 | [],_,j,d,h=>by simp at h
 | c :: l,hf,j,d,h=>by
  simp only[fitL] at hf
  split at hf
  . rename_i hc
    cases j with
    | zero=>simp at h;subst h;exact hc
    | succ j=>exact fitL_at hf j d (by simpa using h)
  . cases hf
theorem RS.fit{k kb:Nat}{v:Value}{d:D}(h:RS sz V μ ω v d)(hf:fitD k kb d=true):RS sz V (μ.take kb) (ω.take k) v d:=by
 cases d with
 | agg cs=>
  obtain⟨vs,rfl,hs,ho,hR⟩:=h.agg_
  exact .agg _ vs hs ho fun j v d h1 h2=>(hR j v d h1 h2).fit1 (fitL_at hf j d h2)
 | tup cs=>
  obtain⟨vs,rfl,hs,hR⟩:=h.tup_
  exact .tup _ vs hs fun j v d h1 h2=>(hR j v d h1 h2).fit1 (fitL_at hf j d h2)
 | _=>exact h.fit1 hf
theorem fitB_at{k kb:Nat}:∀ {l:List (List D)},fitB k kb l=true->∀ (j:Nat) c,l[j]? = some c->fitL k kb c=true
 | [],_,j,d,h=>by simp at h
 | c :: l,hf,j,d,h=>by
  simp only[fitB] at hf
  split at hf
  . rename_i hc
    cases j with
    | zero=>simp at h;subst h;exact hc
    | succ j=>exact fitB_at hf j d (by simpa using h)
  . cases hf
theorem take_get{α:Type}{l:List α}{k i:Nat}{x:α}(h:(l.take k)[i]? = some x):l[i]? = some x:=by
 rw[List.getElem?_take] at h
 split at h
 . exact h
 . cases h
theorem Mem.take(h:Mem sz w0 V0 V μ ω box row w){k kb:Nat}(hf:fitB k kb (box.take kb)=true):Mem sz w0 V0 V (μ.take kb) (ω.take k) (box.take kb) (row.take k) w:=by
 have own:∀ l g,Own (μ.take kb) (ω.take k) (row.take k) l g->Own μ ω row l g:=by
  intro l g hl
  cases l with
  | inl i=>exact take_get hl
  | inr r=>
   obtain⟨v,x,h1,h2,h3⟩:=hl
   exact⟨v,x,take_get h1,take_get h2,h3⟩
 refine⟨h.below,h.vok,h.vle,h.vold,by simp[h.bl],?_,by simp[h.rl],?_,fun l l' g h1 h2=>h.uniq l l' g (own l g h1) (own l' g h2),fun l g h1=>h.new l g (own l g h1),fun p u l hp h1=>h.vmut p u l hp (own l _ h1),fun x hx=>let ⟨a,b,c,d⟩:=h.away x hx;⟨a,b,fun l hl=>c l (own l _ hl),d⟩⟩
 . intro i g cs h1 h2
   obtain⟨us,t',a,b,c',d,ty⟩:=h.hbox i g cs (take_get h1) (take_get h2)
   exact⟨us,t',a,b,c',fun j v d' e1 e2=>(d j v d' e1 e2).fit1 (fitL_at (fitB_at hf i cs h2) j d' e2),ty⟩
 . intro r v e xs h1 h2
   exact h.hrow r v e xs (take_get h1) (take_get h2)
theorem keepE_sound{k kb:Nat}(hE:∀ t,RS sz V μ ω (slotV V0 s.n a t) (look s.env t)):∀ (L:List Nat) (K:List (Nat × D)->Prop),keepE k kb s.env L K ->
    ∃ env,K env/\∀ t,RS sz V (μ.take kb) (ω.take k) (slotV V0 s.n a t) (look env t)
 | [],K,h=>⟨[],h,fun _=>.imm _ _ (.u _)⟩
 | t :: ts,K,h=>by
  simp only[keepE,D.force_eq,boolP_iff] at h
  obtain⟨hf,h⟩:=h
  obtain⟨env,hk,hR⟩:=keepE_sound hE ts _ h
  refine⟨_,hk,fun x=>?_⟩
  unfold look
  split
  . rename_i hb
    rw[<- beq_nat_true hb]
    exact (hE t).fit hf
  . exact hR x
theorem keepK_sound{L:List Nat}{k kb:Nat}{K:St->Prop}(hS:Sim sz w0 V0 V μ ω s a w)(h:keepK L k kb s K):∃ s' μ' ω',K s'/\Sim sz w0 V0 V μ' ω' s' a w:=by
 obtain⟨env,box,row,n⟩:=s
 simp only[keepK] at h
 obtain⟨env',h,hR⟩:=keepE_sound (s:=⟨env,box,row,n⟩) hS.env L _ h
 obtain⟨h,_⟩:=takeK_iff h
 rw[boolP_iff] at h
 obtain⟨hf,h⟩:=h
 obtain⟨h,_⟩:=takeK_iff h
 exact⟨_,_,_,h,⟨hS.tmps,hS.defers,hR,hS.mem.take hf⟩⟩
theorem Ok.keep{c:Code}{Q:Exit->St->Prop}(L:List Nat)(k kb:Nat)(h:keepK L k kb s (Ok P T c Q)):Ok P T c Q s:=by
 refine⟨fun w0 V0 V μ ω a w hS=>?_⟩
 obtain⟨s',μ',ω',hk,hS'⟩:=keepK_sound hS h
 exact hk.run w0 V0 V μ' ω' a w hS'
theorem Ok.loopK{c:Code}{Q:Exit->St->Prop}{ι:Type}(L:List Nat)(k kb:Nat)(mk:ι->St)(I:ι->Prop)(m:ι->Nat)(x0:ι)(h0:I x0)(hs:keepK L k kb s (·=mk x0))
    (round:∀ x,I x->Ok P T c (thenQ (fun s'=>∃ x',m x' < m x/\I x'/\keepK L k kb s' (·=mk x')) Q) (mk x)):Ok P T (.loop c) Q s:=by
 refine⟨fun w0 V0 V μ ω a w hS=>?_⟩
 obtain⟨s',μ',ω',rfl,hS'⟩:=keepK_sound hS hs
 refine wp_loop_at (fun n a w=>∃ x V μ ω,m x=n/\I x/\Sim (szOf T) w0 V0 V μ ω (mk x) a w) ?_ ⟨x0,V,μ',ω',rfl,h0,hS'⟩
 rintro n a w ⟨x,V,μ,ω,rfl,hI,hS⟩
 refine wp_mono ((round x hI).run w0 V0 V μ ω a w hS) ?_
 rintro e a' w' ⟨s',V',μ',ω',hk,hS'⟩
 cases e with
 | normal=>
  obtain⟨x',hlt,hI',hk⟩:=hk
  obtain⟨s2,μ2,ω2,rfl,hS2⟩:=keepK_sound hS' hk
  exact⟨m x',hlt,x',V',μ2,ω2,rfl,hI',hS2⟩
 | _=>exact⟨s',V',μ',ω',hk,hS'⟩
theorem Ok.ghost{c:Code}{Q:Exit->St->Prop}(t:Nat)(e:TypeId){env:List (Nat × D)}{box:List (List D)}{row:Rows}{n:Nat}(ht:look env t = .nilS)
    (h:snocK row (some (e,[])) fun row'=>natLit row.length fun r=>Ok P T c Q ⟨(t,.own r 0) :: env,box,row',n⟩):Ok P T c Q ⟨env,box,row,n⟩:=by
 refine⟨fun w0 V0 V μ ω a w hS=>?_⟩
 simp only[snocK_eq,natLit_eq] at h
 have hM:=hS.mem.newRow (w':=w) (Ext.refl w) (v:=.slice none 0 0) (e:=e) (xs:=[]) (vals:=[]) ⟨by simp,.inl ⟨rfl,rfl⟩⟩ ⟨by simp,by simp,by simp⟩ (by simp[Value.ownBlock])
 have hv:=hS.env t
 dsimp only at hv
 rw[ht] at hv
 refine h.run w0 V0 V μ (ω++[.slice none 0 0]) a w ⟨hS.tmps,hS.defers,fun x=>?_,hM⟩
 show RS _ _ _ _ _ (look ((t,.own row.length 0) :: env) x)
 unfold look
 split
 . rename_i hb
   rw[<- beq_nat_true hb,hv.nilS_]
   have hl:row.length=ω.length:=hS.mem.rl.symm
   refine .own _ 0 none 0 0 ?_ (Nat.le_refl _)
   rw[hl,List.getElem?_append_right (Nat.le_refl _)]
   simp
 . exact (hS.env x).mono (.refl V) (.refl μ) (.append _ _)
theorem Ok.ghostB{c:Code}{Q:Exit->St->Prop}(i j:Nat)(e:TypeId){env:List (Nat × D)}{box:List (List D)}{cs:List D}{row:Rows}{n:Nat}(hi:box[i]? = some cs)(hj:cs[j]? = some .nilS)
    (h:snocK row (some (e,[])) fun row'=>natLit row.length fun r=>setK cs j (.own r 0) fun cs'=>setK box i cs' fun box'=>Ok P T c Q ⟨env,box',row',n⟩):Ok P T c Q ⟨env,box,row,n⟩:=by
 refine⟨fun w0 V0 V μ ω a w hS=>?_⟩
 simp only[snocK_eq,natLit_eq] at h
 obtain⟨hjl,h⟩:=setK_iff _ _ _ _ h
 obtain⟨hil,h⟩:=setK_iff _ _ _ _ h
 have hM:=hS.mem.newRow (w':=w) (Ext.refl w) (v:=.slice none 0 0) (e:=e) (xs:=[]) (vals:=[]) ⟨by simp,.inl ⟨rfl,rfl⟩⟩ ⟨by simp,by simp,by simp⟩ (by simp[Value.ownBlock])
 have hl:row.length=ω.length:=hS.mem.rl.symm
 have hown:RS (szOf T) V μ (ω++[.slice none 0 0]) (.slice none 0 0) (.own row.length 0):=by
  refine .own _ 0 none 0 0 ?_ (Nat.le_refl _)
  rw[hl,List.getElem?_append_right (Nat.le_refl _)]
  simp
 refine h.run w0 V0 V μ (ω++[.slice none 0 0]) a w ⟨hS.tmps,hS.defers,fun x=>(hS.env x).mono (.refl V) (.refl μ) (.append _ _),?_⟩
 refine⟨hM.below,hM.vok,hM.vle,hM.vold,by simpa using hM.bl,?_,hM.rl,hM.hrow,hM.uniq,hM.new,hM.vmut,hM.away⟩
 intro q g cs2 h1 h2
 by_cases hq:q=i
 . subst hq
   rw[List.getElem?_set_self hil] at h2
   cases h2
   obtain⟨us,t',a1,b,c',d,ty⟩:=hM.hbox q g cs h1 hi
   refine⟨us,t',a1,by simpa using b,c',fun k v d' e1 e2=>?_,bTy_set ty j rfl⟩
   by_cases hk:k=j
   . subst hk
     rw[List.getElem?_set_self hjl] at e2
     cases e2
     have:=d k v _ e1 hj
     rw[this.nilS_]
     exact hown
   . rw[List.getElem?_set_ne (Ne.symm hk)] at e2
     exact d k v d' e1 e2
 . rw[List.getElem?_set_ne (Ne.symm hq)] at h2
   exact hM.hbox q g cs2 h1 h2
theorem num_in{x:Int}{p:Int->Prop}(h1:-9223372036854775808<=x)(h2:x<=9223372036854775807)(h:p x):∃ n,n=IntKind.i64.wrap x/\p n:=
 ⟨x,by rw[IntKind.wrap_i64];omega,h⟩
theorem nI {x : Int} {p : Int → Prop} (h : p x) (h1 : -9223372036854775808 ≤ x := by omega) (h2 : x ≤ 9223372036854775807 := by omega) : ∃ n, n = IntKind.i64.wrap x ∧ p n := num_in h1 h2 h
theorem num_any{x:Int}{p:Int->Prop}(h:p x):∃ n,n=x/\p n:=⟨x,rfl,h⟩
end
end Go.Vx
namespace Go.Vx
open Go.RowKit
inductive Bef(ops:Array Oper)(i:Nat):Nat->Prop
 | one {j:Nat} {o:Oper} {e:Edge} (h:ops[j]? = some o) (he:e ∈ o.after) (hb:Region.binds .any e=true) (hi:e.on=i):Bef ops i j
 | more {j:Nat} {o:Oper} {e:Edge} (h:ops[j]? = some o) (he:e ∈ o.after) (hb:Region.binds .any e=true) (h2:Bef ops i e.on):Bef ops i j
def Closed(ops:Array Oper)(L:Array Bool):Prop:=∀ (j:Nat) o,ops[j]? = some o->L.getD j false=true->∀ e ∈ o.after,Region.binds .any e=true->L.getD e.on false=true
theorem Bef.listed{ops:Array Oper}{L:Array Bool}(hc:Closed ops L){i j:Nat}(hb:Bef ops i j) :
    (∀ o,ops[j]? = some o->∀ e ∈ o.after,Region.binds .any e=true->L.getD e.on false=true)->L.getD i false=true:=by
 induction hb with
 | one h he hb hi=>intro hj;rw[<- hi];exact hj _ h _ he hb
 | more h he hb h2 ih=>intro hj;exact ih fun o' ho' e' he' hb'=>hc _ o' ho' (hj _ h _ he hb) e' he' hb'
abbrev Pends:=List (Nat × (World->Prop))
section
variable {P : Program} {ops : Array Oper} {bef : Nat → Nat → Bool} {Q : Exit → Act → World → Prop}
def wpAnyP(P:Program)(ops:Array Oper)(bef:Nat->Nat->Bool)(Q:Exit->Act->World->Prop):Nat->Pends->Array Bool->Act->World->Prop
 | 0,_,listed,a,w=>Region.ready .any ops listed=[]/\Q .normal a w
 | fuel+1,ps,listed,a,w=>
  (Region.ready .any ops listed=[]->Q .normal a w) /\
  ∀ j ∈ Region.ready .any ops listed,wpOp P ops Q j (fun a' w'=>(∀ x ∈ ps,bef x.1 j=false->x.2 w')/\wpAnyP P ops bef Q fuel (ps.filter fun x=>!bef x.1 j) (listed.setIfInBounds j true) a' w') a w
theorem wpAny_of_P:∀ (fuel:Nat) (ps:Pends) (listed:Array Bool) (a:Act) (w:World),wpAnyP P ops bef Q fuel ps listed a w->wpAny P .any ops Q fuel listed a w
 | 0,_,_,_,_,h=>h
 | fuel+1,_,_,_,_,h=>⟨h.1,fun i hi=>wpOp_mono (fun a' w' h'=>wpAny_of_P fuel _ _ a' w' h'.2) (h.2 i hi)⟩
theorem wpAnyP_sub:∀ (fuel:Nat) (ps ps':Pends) (listed:Array Bool) (a:Act) (w:World),(∀ x ∈ ps',x ∈ ps)->wpAnyP P ops bef Q fuel ps listed a w->wpAnyP P ops bef Q fuel ps' listed a w
 | 0,_,_,_,_,_,_,h=>h
 | fuel+1,ps,ps',_,_,_,hs,h=>⟨h.1,fun i hi=>wpOp_mono (fun a' w' h'=>⟨fun x hx=>h'.1 x (hs x hx),wpAnyP_sub fuel _ _ _ a' w' (fun x hx=>by
     rw[List.mem_filter] at hx ⊢
     exact⟨hs x hx.1,hx.2⟩) h'.2⟩) (h.2 i hi)⟩
theorem Closed.set{L:Array Bool}(h:Closed ops L){j:Nat}(hj:j ∈ Region.ready .any ops L):Closed ops (L.setIfInBounds j true):=by
 obtain⟨_,o,ho,hall⟩:=mem_ready.1 hj
 intro k ok hk hl e he hb
 by_cases hkj:k=j
 . subst hkj
   rw[ho] at hk
   cases hk
   exact getD_set_true (hall e he hb)
 . rw[getD_set_ne false (Ne.symm hkj)] at hl
   exact getD_set_true (h k ok hk hl e he hb)
theorem wpAnyP_first{i:Nat}{oi:Oper}{v:Value}{C:World->Prop}(hbef:∀ i j,bef i j=true->Bef ops i j)(hi:ops[i]? = some oi)(hsel:∀ (j:Nat) (o:Oper) cs b,ops[j]? = some o->o.op ≠ .select cs b)
    (hQ:∀ c a w,Q (.panic c) (a.put oi.dst v) w->Q (.panic c) a w) :
    ∀ (fuel:Nat) (ps:Pends) (listed:Array Bool) (a:Act) (w:World),Closed ops listed ->
     (∀ j oj,ops[j]? = some oj->j ≠ i->listed.getD j true=false->(∀ e ∈ oj.after,Region.binds .any e=true->e.on ≠ i)->oi.apart ops oj=true) ->
     i ∈ Region.ready .any ops listed->YieldsIf P ops C oi v a->C w->(∀ x ∈ ps,x.2 w) ->
     wpAnyP P ops bef Q fuel ((i,C) :: ps) (listed.setIfInBounds i true) (a.put oi.dst v) w->wpAnyP P ops bef Q (fuel+1) ps listed a w:=by
 intro fuel
 induction fuel with
 | zero=>
  intro ps listed a w _ _ hr hy hC hps H
  refine⟨fun h=>(by rw[h] at hr;cases hr),fun j hj=>?_⟩
  by_cases hji:j=i
  . subst hji;exact hy.wpOp hi hC ⟨fun x hx _=>hps x hx,H⟩
  . have:=ready_mono hj hji
    rw[H.1] at this
    cases this
 | succ fuel ih=>
  intro ps listed a w hcl hfree hr hy hC hps H
  refine⟨fun h=>(by rw[h] at hr;cases hr),fun j hj=>?_⟩
  by_cases hji:j=i
  . subst hji
    exact hy.wpOp hi hC ⟨fun x hx _=>hps x hx,wpAnyP_sub _ _ _ _ _ _ (fun x hx=>List.mem_cons_of_mem _ (List.mem_filter.1 hx).1) H⟩
  . have h1:=H.2 j (ready_mono hj hji)
    obtain⟨hjun,oj,hoj,hall⟩:=mem_ready.1 hj
    have hiun:listed.getD i false ≠ true:=by
     have h0:=(mem_ready.1 hr).1
     intro h1
     rcases Nat.lt_or_ge i listed.size with h'|h'
     . simp[h'] at h0 h1;rw[h0] at h1;cases h1
     . simp[Array.getElem?_eq_none h'] at h1
    have hnot:∀ e ∈ oj.after,Region.binds .any e=true->e.on ≠ i:=fun e he hb heq=>hiun (by rw[<- heq];exact hall e he hb)
    have hbij:bef i j=false:=by
     cases hb:bef i j with
     | false=>rfl
     | true=>exact absurd ((hbef i j hb).listed hcl fun o ho e he hb=>by rw[hoj] at ho;cases ho;exact hall e he hb) hiun
    have h2:=wpOp_putIf hoj (hfree j oj hoj hji hjun hnot) (fun cs b=>hsel i oi cs b hi) (fun cs b=>hsel j oj cs b hoj) hQ hy h1
    have hfree':∀ k ok,ops[k]? = some ok->k ≠ i->(listed.setIfInBounds j true).getD k true=false ->
        (∀ e ∈ ok.after,Region.binds .any e=true->e.on ≠ i)->oi.apart ops ok=true:=fun k ok hk hki hun hno=>by
     refine hfree k ok hk hki ?_ hno
     by_cases hjk:j=k
     . subst hjk;exact hjun
     . rw[getD_set_ne true hjk] at hun;exact hun
    refine wpOp_mono (fun a' w' h3=>?_) h2
    obtain⟨hy',hK1,hK2⟩:=h3
    refine⟨fun x hx=>hK1 x (List.mem_cons_of_mem _ hx),ih _ _ a' w' (hcl.set hj) hfree' (ready_mono hr (Ne.symm hji)) hy' (hK1 (i,C) (List.mem_cons_self ..) hbij) (fun x hx=>?_) ?_⟩
    . obtain⟨hx1,hx2⟩:=List.mem_filter.1 hx
      exact hK1 x (List.mem_cons_of_mem _ hx1) (by simpa using hx2)
    . rw[Array.setIfInBounds_comm _ _ hji]
      rw[List.filter_cons_of_pos (by simp[hbij])] at hK2
      exact hK2
end
inductive Mv where|q (i:Nat)|l (i:Nat)
def isQ(o:Oper):Bool:=match o.op with
 | .call { callee:=.builtin .len,args:=_,argTypes:=_ }=>true
 | .move _|.assign _|.pick _ _ _|.load _ _|.nilCheck _|.binOp _ _ _ _ _|.unOp _ _ _|.convert _ _ _|.slice _ _ _ _ _|.fieldAddr _ _ _|.field _ _ _|.indexAddr _ _ _|.index _ _ _|.extract _ _|.build _ _|.makeFunc _ _ _=>true
 | _=>false
def planB(ops:Array Oper):List Mv->Array Bool->Bool
 | [],listed=>(Region.ready .any ops listed).isEmpty
 | .q i :: r,listed=>(Region.ready .any ops listed).contains i && Region.free .any ops listed i && ((ops[i]?).map isQ).getD false && planB ops r (listed.setIfInBounds i true)
 | .l i :: r,listed=>(Region.ready .any ops listed) == [i] && planB ops r (listed.setIfInBounds i true)
abbrev Waits:=List (Nat × Nat × List Nat)
def edgeB(ops:Array Oper)(j i:Nat):Bool:=match ops[j]? with|some o=>o.after.any fun e=>Region.binds .any e && e.on == i|none=>false
def pathB(ops:Array Oper)(i:Nat):Nat->List Nat->Bool
 | j,[]=>edgeB ops j i
 | j,k :: r=>edgeB ops j k && pathB ops i k r
def waitsB(ops:Array Oper)(A:Waits):Bool:=A.all fun x=>pathB ops x.1 x.2.1 x.2.2
def befW:Waits->Nat->Nat->Bool
 | [],_,_=>false
 | (a,b,_) :: r,i,j=>match Nat.beq a i && Nat.beq b j with|true=>true|false=>befW r i j
def planOk(ops:Array Oper)(A:Waits)(mvs:List Mv):Bool:=
 Region.noSelect ops && waitsB ops A && (mvs.length == ops.size) && planB ops mvs (Array.replicate ops.size false)
theorem edgeB_spec{ops:Array Oper}{i j:Nat}(h:edgeB ops j i=true):∃ o,ops[j]? = some o/\∃ e ∈ o.after,Region.binds .any e=true/\e.on=i:=by
 unfold edgeB at h
 split at h
 . rename_i o ho
   obtain⟨e,he,hb⟩:=Array.any_eq_true'.1 h
   simp only[Bool.and_eq_true,beq_iff_eq] at hb
   exact⟨o,ho,e,he,hb.1,hb.2⟩
 . cases h
theorem pathB_spec{ops:Array Oper}{i:Nat}:∀ (l:List Nat) (j:Nat),pathB ops i j l=true->Bef ops i j
 | [],j,h=>by
  obtain⟨o,ho,e,he,hb,hi⟩:=edgeB_spec h
  exact .one ho he hb hi
 | k :: r,j,h=>by
  simp only[pathB,Bool.and_eq_true] at h
  obtain⟨o,ho,e,he,hb,hi⟩:=edgeB_spec h.1
  exact .more ho he hb (by rw[hi];exact pathB_spec r k h.2)
theorem befW_spec{ops:Array Oper}:∀ {A:Waits},waitsB ops A=true->∀ i j,befW A i j=true->Bef ops i j
 | [],_,i,j,h=>by cases h
 | (a,b,l) :: r,hw,i,j,h=>by
  simp only[waitsB,List.all_cons,Bool.and_eq_true] at hw
  simp only[befW] at h
  split at h
  . rename_i hb
    rw[Bool.and_eq_true] at hb
    have h1:=beq_nat_true hb.1
    have h2:=beq_nat_true hb.2
    subst h1 h2
    exact pathB_spec l _ hw.1
  . exact befW_spec (A:=r) hw.2 i j h
def ownK(row:Rows)(r:Nat)(p:Prop):Prop:=match row[r]? with|some (some _)=>p|_=>False
def apartK(s:St)(E:Src)(x:Src)(p:Prop):Prop:=
 match x with
 | .none=>p
 | .box a=>match E with|.box b=>(match Nat.beq a b with|true=>False|false=>p)|_=>p
 | .row a=>ownK s.row a <| match E with|.row b=>(match Nat.beq a b with|true=>False|false=>p)|_=>p
 | .all=>False
def clearP(bef:Nat->Nat->Bool)(i:Nat)(s:St)(E:Src):List (Nat × Src)->Prop->Prop
 | [],p=>p
 | (k,x) :: r,p=>match bef k i with|true=>clearP bef i s E r p|false=>apartK s E x (clearP bef i s E r p)
def clearA(bef:Nat->Nat->Bool)(i:Nat):List (Nat × Src)->Prop->Prop
 | [],p=>p
 | (k,_) :: r,p=>match bef k i with|true=>clearA bef i r p|false=>False
def clearK(bef:Nat->Nat->Bool)(i:Nat)(s:St)(E:Src)(ps:List (Nat × Src))(p:Prop):Prop:=
 match E with
 | .row b=>ownK s.row b (clearP bef i s E ps p)
 | .all=>clearA bef i ps p
 | _=>clearP bef i s E ps p
def filterP(bef:Nat->Nat->Bool)(i:Nat):List (Nat × Src)->List (Nat × Src)
 | []=>[]
 | (k,x) :: r=>match bef k i with|true=>filterP bef i r|false=>(k,x) :: filterP bef i r
def dop(P:Program)(T:Tab)(s:St)(o:Oper)(K:D->St->Prop):Prop:=
 match o.op with
 | .call { callee:=.value (.func f),args,argTypes }=>
  qop P T s o K\/(pubsK 8 s (s.gets args.toList) fun ds s=>exposN T argTypes.toList ds fun ds=>∃ R,FSpec P T f ds R/\∀ d rows,R d rows->(match s with
   | ⟨env,box,row,n⟩=>shiftD row.length d fun d=>catK row rows fun row=>K d ⟨env,box,row,n⟩))\/exposeK P T s f argTypes.toList (s.gets args.toList) K\/(forceL (s.gets args.toList) fun ds=>effK P T s f ds K)
 | .call { callee:=.value _,args:=_,argTypes:=_ }=>qop P T s o K
 | .call { callee:=.invoke _ _,args:=_,argTypes:=_ }=>qop P T s o K
 | _=>vop P T s o K
def dops(P:Program)(T:Tab)(ops:List Oper)(A:Waits):List Mv->List (Nat × Src)->St->(St->Prop)->Prop
 | [],_,s,K=>K s
 | .q i :: r,ps,s,K=>match ops[i]? with
  | none=>False
  | some o=>wantK ops s o.guard
   (fun s=>qop P T s o fun d s'=>putK s' o.dst d fun s'=>dops P T ops A r ((i,srcQ s o) :: ps) s' K)
   (fun s=>putK s o.dst (.tup []) fun s=>dops P T ops A r ((i,.none) :: ps) s K)
 | .l i :: r,ps,s,K=>match ops[i]? with
  | none=>False
  | some o=>wantK ops s o.guard
   (fun s=>clearK (befW A) i s (effOf s o) ps <| dop P T s o fun d s=>putK s o.dst d fun s=>dops P T ops A r (filterP (befW A) i ps) s K)
   (fun s=>putK s o.dst (.tup []) fun s=>dops P T ops A r (filterP (befW A) i ps) s K)
section
variable {w0 w w' : World} {V0 : Fr} {V : Vw} {μ : List Nat} {ω : List Value} {s : St} {a : Act} {P : Program} {T : Tab}
theorem quiet_value{o:Oper}{C:World->Prop}{v:Value}(hq:isQ o=true)(h:o.quietAt P a C w v):(execOp a.eval o).run P w = .ok (.value v) w:=by
 have key:∀ n w',(execOp a.eval o).run P w = .ok n w'->∃ u,n = .value u:=by
  intro n w' he
  obtain⟨dst,op,type,pos,after,guard⟩:=o
  have lift:∀ x:Sem Value,(Sem.run P (do pure (.value (<- x)):Sem Next) w) = .ok n w'->∃ u,n = .value u:=by
   intro x hx
   simp only[Sem.run_bind,Sem.run_pure] at hx
   cases hr:x.run P w with
   | ok u w1=>rw[hr] at hx;simp only[Result.andThen_ok,Result.ok.injEq] at hx;exact⟨u,hx.1.symm⟩
   | halt y w1=>rw[hr] at hx;simp at hx
  cases op<;>first|(cases hq;done)|exact lift _ he|skip
  case move x=>simp only[execOp,Sem.run_pure,Result.ok.injEq] at he;exact⟨_,he.1.symm⟩
  case assign x=>simp only[execOp,Sem.run_pure,Result.ok.injEq] at he;exact⟨_,he.1.symm⟩
  case pick c x y=>
   simp only[execOp,Sem.run_bind,Sem.run_pure] at he
   cases hr:(asBool (a.eval c)).run P w with
   | ok u w1=>rw[hr] at he;simp only[Result.andThen_ok,Result.ok.injEq] at he;exact⟨_,he.1.symm⟩
   | halt y w1=>rw[hr] at he;simp at he
  case nilCheck x=>
   have pn:∀ w1,(runtimePanic RuntimeError.nilDeref:Sem Next).run P w1 = .ok n w'->∃ u,n = .value u:=by
    intro w1 h1
    simp[runtimePanic,goPanic] at h1
   have bnd:∀ {β:Type} (y:Sem β) (k:β->Sem Next) w1,(∀ u w2,(k u).run P w2 = .ok n w'->∃ u,n = .value u)->(y >>= k).run P w1 = .ok n w'->∃ u,n = .value u:=by
    intro β y k w1 hk h1
    rw[Sem.run_bind] at h1
    cases hr:y.run P w1 with
    | ok u w2=>rw[hr] at h1;simp only[Result.andThen_ok] at h1;exact hk _ _ h1
    | halt y w2=>rw[hr] at h1;simp at h1
   have pv:∀ (u:Value) w1,(pure (.value u):Sem Next).run P w1 = .ok n w'->∃ u,n = .value u:=by
    intro u w1 h1
    simp only[Sem.run_pure,Result.ok.injEq] at h1
    exact⟨_,h1.1.symm⟩
   simp only[execOp] at he
   split at he<;>first|exact pn _ he|exact pv _ _ he|skip
   split at he<;>first|exact pn _ he|exact pv _ _ he|skip
   refine bnd _ _ _ (fun u w2 h1=>?_) he
   refine bnd _ _ _ (fun u w2 h1=>?_) h1
   split at h1
   . exact bnd _ _ _ (fun u w2 h1=>pv _ _ h1) h1
   . exact pv _ _ h1
  case call c=>
   obtain⟨callee,args,argTypes⟩:=c
   cases callee with
   | value f=>cases hq
   | invoke f m=>cases hq
   | builtin b=>
    cases b<;>first|(cases hq;done)|skip
    simp only[execOp,resolve,Sem.run_bind,Sem.run_pure,Result.andThen_ok,invoke,builtin] at he
    exact lift _ (by simpa only[Sem.run_bind,Sem.run_pure] using he)
 unfold Oper.quietAt at h
 cases hr:(execOp a.eval o).run P w with
 | ok n w'=>
  rw[hr] at h
  obtain⟨u,rfl⟩:=key n w' hr
  obtain⟨rfl,rfl⟩:=h
  rfl
 | halt x w'=>rw[hr] at h;exact h.elim
def VokS(P:Program)(T:Tab)(w0:World)(V0:Fr)(E:Src)(V:Vw)(μ:List Nat)(ω:List Value)(a:Act)(w:World)(o:Oper)(K:D->St->Prop):Prop:=
 ∀ (next:Act->World->Prop) (Q:Exit->Act->World->Prop),
  (∀ d v s V' μ' ω' w',K d s->RS (szOf T) V' μ' ω' v d->Sim (szOf T) w0 V0 V' μ' ω' s a w'->Step E V μ ω w V' μ' ω' w'->next (a.put o.dst v) w')->o.wp P a w next Q
theorem VokS.of_qop{E:Src}(hT:TOk P T)(hS:Sim (szOf T) w0 V0 V μ ω s a w){o:Oper}{K:D->St->Prop}(h:qop P T s o K):VokS P T w0 V0 E V μ ω a w o K:=by
 intro next Q hn
 obtain⟨d,v,s',hk,hr,hS',_,_,_,hq⟩:=qop_sound hT hS h
 exact Oper.wp_of_quiet (C:=Ext w) (K:=fun a'=>∀ w',Ext w w'->next a' w') (Ext.refl w) (fun a' w' he h=>h w' he) ⟨v,fun w' he=>hq w' (QR.ext he),fun w' he=>hn d v s' V μ ω w' hk hr (hS'.ext he) (.ext (fun _ _ h=>h) (.refl _) (.refl _) he)⟩
theorem dop_sound(hT:TOk P T)(hS:Sim (szOf T) w0 V0 V μ ω s a w){o:Oper}{K:D->St->Prop}(h:dop P T s o K):VokS P T w0 V0 (effOf s o) V μ ω a w o K:=by
 have plain:isCallV o=false->vop P T s o K->VokS P T w0 V0 (effOf s o) V μ ω a w o K:=fun hc hv next Q hn=>
  vop_sound hT hS hv next Q fun d v s' V' μ' ω' w' hk hr hS' hst=>hn d v s' V' μ' ω' w' hk hr hS' (hst hc)
 obtain⟨dst,op,type,pos,after,guard⟩:=o
 cases op
 case call c=>
  obtain⟨callee,args,argTypes⟩:=c
  cases callee with
  | invoke r m=>exact .of_qop hT hS h
  | builtin b=>exact plain rfl h
  | value f=>
   cases f<;>first|exact .of_qop hT hS h|skip
   rename_i f
   simp only[dop] at h
   rcases h with h|h|h|h
   . exact .of_qop hT hS h
   case inr.inr.inr=>
    rw[forceL_eq] at h
    intro next Q hn
    have hg:=hS.gets args.toList
    have hcalls:=h.run w0 V0 V μ ω a w _ hS hg.1 hg.2
    unfold Oper.wp
    have hrun:(execOp a.eval ⟨dst,.call ⟨.value (.func f),args,argTypes⟩,type,pos,after,guard⟩).run P w = .ok (.enter f (args.toList.map a.eval).toArray) w:=by
     simp only[execOp,resolve,Act.eval,Deferred.ofValue,invoke,Sem.run_bind,Sem.run_pure,Result.andThen_ok]
     rw[h.call]
     congr 2
     apply Array.ext'
     simp
    rw[hrun]
    show Calls P f _ w _
    refine hcalls.mono ?_
    rintro e w'' ⟨v,d,s',V',μ',ω',rfl,hk,hr,hS',hV,hm,hω,hc⟩
    exact hn d v s' V' μ' ω' w'' hk hr hS' ⟨hV,hm,fun r v _ _ h=>hω r v h,fun q v hq _=>hc q v hq⟩
   case inr.inr.inl=>
    obtain⟨hrun,h⟩:=exposeK_sound (dst:=dst) (type:=type) (pos:=pos) (after:=after) (guard:=guard) hS h
    intro next Q hn
    unfold Oper.wp
    rw[hrun]
    show Calls P f (args.map a.eval) w _
    refine h.mono ?_
    rintro e w'' ⟨v,d,s',V',ω',rfl,hk,hr,hS',hle,hpre,hb⟩
    exact hn d v s' V' μ ω' w'' hk hr hS' (.ext hle (.refl _) hpre hb)
   obtain⟨V1,ds1,s1,h,hv1,hS1,hle1⟩:=pubsK_sound 8 hS (hS.gets _) h
   obtain⟨es,⟨R,hf,h⟩,hes,hri⟩:=exposN_sound argTypes.toList ds1 _ _ hv1 h
   obtain⟨env,box,row,n⟩:=s1
   intro next Q hn
   have hcalls:=hf.run V1 w (args.map a.eval) hS1.mem.vok (by have:=hv1.1;simp at this ⊢;omega) (fun j v d h1 h2=>hri j v d (by simpa using h1) h2)
   unfold Oper.wp
   have hrun:(execOp a.eval ⟨dst,.call ⟨.value (.func f),args,argTypes⟩,type,pos,after,guard⟩).run P w = .ok (.enter f (args.map a.eval)) w:=by
    simp only[execOp,resolve,Act.eval,Deferred.ofValue,invoke,Sem.run_bind,Sem.run_pure,Result.andThen_ok]
    rw[show (#[]++args.map a.eval)++#[]=args.map a.eval by simp,hf.call]
   rw[hrun]
   show Calls P f (args.map a.eval) w _
   refine hcalls.mono ?_
   rintro e w'' ⟨V',ω0,row0,v,d,rfl,hR,hrs,hres⟩
   have hM:=hS1.mem.call hres
   have hk:=h d row0 hR
   have hl:row.length=ω.length:=hS1.mem.rl.symm
   dsimp only at hk
   rw[hl] at hk
   obtain⟨d',hk,hr⟩:=shiftD_sound (μ:=μ) (V':=V') (ω':=ω++ω0) (VLe.refl V') (fun r u hu=>by rw[List.getElem?_append_right (by omega),Nat.add_sub_cancel];exact hu) hrs hk
   rw[catK_eq] at hk
   exact hn d' v _ V' μ (ω++ω0) w'' hk hr ⟨hS1.tmps,hS1.defers.ext hres.below,fun t=>(hS1.env t).mono hres.le (.refl μ) (.append _ _),hM⟩
    (.ext (fun p u hp=>hres.le p u (hle1 p u hp)) (.refl _) (.append _ _) hres.below)
 all_goals exact plain rfl h
def PendOK(V:Vw)(μ:List Nat)(ω:List Value)(w:World)(x:Nat × (World->Prop))(y:Nat × Src):Prop:=
 x.1=y.1/\∃ p n wi,x.2=KeepN p n wi/\SrcP V μ ω y.2 p n/\KeepN p n wi w
theorem ownK_iff{row:Rows}{r:Nat}{p:Prop}(h:ownK row r p):(∃ x,row[r]? = some (some x))/\p:=by
 unfold ownK at h
 split at h
 . rename_i x hx;exact⟨⟨x,hx⟩,h⟩
 . exact h.elim
theorem PendOK.step(hM:Mem (szOf T) w0 V0 V μ ω s.box s.row w){E:Src}(hAll:E ≠ .all)(hE:∀ b,E = .row b->∃ x,s.row[b]? = some (some x)){x:Nat × (World->Prop)}{y:Nat × Src}(h:PendOK V μ ω w x y){q:Prop}(ha:apartK s E y.2 q)
    {V':Vw}{μ':List Nat}{ω':List Value}{w':World}(hst:Step E V μ ω w V' μ' ω' w'):PendOK V' μ' ω' w' x y/\q:=by
 obtain⟨he,p,n,wi,hx,hsrc,hk⟩:=h
 obtain⟨k,src⟩:=y
 have own:∀ g,Hit μ ω E g->∃ l,Own μ ω s.row l g/\(match E with|.none=>False|.box b=>l = .inl b|.row b=>l = .inr b|.all=>False):=by
  intro g hg
  cases E with
  | none=>exact hg.elim
  | all=>exact absurd rfl hAll
  | box b=>exact⟨.inl b,hg,rfl⟩
  | row b=>
   obtain⟨v,h1,h2⟩:=hg
   obtain⟨z,hz⟩:=hE b rfl
   exact⟨.inr b,⟨v,z,h1,hz,h2⟩,rfl⟩
 have keep:(∀ j,j<n->¬ Hit μ ω E (p.add j).block)->KeepN p n wi w':=fun hn j v hj hc=>hst.foot _ _ (hk j v hj hc) (hn j hj)
 cases src with
 | all=>exact hsrc.elim
 | none=>
  refine⟨⟨he,p,n,wi,hx,fun j hj=>?_,keep fun j hj hh=>?_⟩,ha⟩
  . obtain⟨v,hv⟩:=hsrc j hj
    exact⟨v,hst.vle _ _ hv⟩
  . obtain⟨v,hv⟩:=hsrc j hj
    obtain⟨l,hl,_⟩:=own _ hh
    exact hM.vmut _ v l hv hl
 | box b=>
  have hq:q/\∀ c,E = .box c->b ≠ c:=by
   simp only[apartK] at ha
   cases E with
   | none=>exact⟨ha,by simp⟩
   | all=>exact absurd rfl hAll
   | row c=>exact⟨ha,by simp⟩
   | box c=>
    dsimp only at ha
    cases hb:Nat.beq b c with
    | true=>rw[hb] at ha;exact ha.elim
    | false=>rw[hb] at ha;exact⟨ha,fun c' hc'=>by cases hc';rintro rfl;rw[Nat.beq_refl] at hb;cases hb⟩
  refine⟨⟨he,p,n,wi,hx,hst.pre _ _ hsrc,keep fun j hj hh=>?_⟩,hq.1⟩
  obtain⟨l,hl,hlE⟩:=own _ hh
  rw[add_block] at hl
  have:=hM.uniq (.inl b) l _ hsrc hl
  cases E with
  | none=>exact hlE
  | all=>exact hlE
  | box c=>subst hlE;simp at this;exact hq.2 c rfl this
  | row c=>subst hlE;simp at this
 | row b=>
  have hq:(∃ z,s.row[b]? = some (some z))/\q/\∀ c,E = .row c->b ≠ c:=by
   simp only[apartK] at ha
   obtain⟨hz,ha⟩:=ownK_iff ha
   refine⟨hz,?_⟩
   cases E with
   | none=>exact⟨ha,by simp⟩
   | all=>exact absurd rfl hAll
   | box c=>exact⟨ha,by simp⟩
   | row c=>
    dsimp only at ha
    cases hb:Nat.beq b c with
    | true=>rw[hb] at ha;exact ha.elim
    | false=>rw[hb] at ha;exact⟨ha,fun c' hc'=>by cases hc';rintro rfl;rw[Nat.beq_refl] at hb;cases hb⟩
  obtain⟨⟨z,hz⟩,hq1,hq2⟩:=hq
  obtain⟨v,hv,hvb⟩:=hsrc
  refine⟨⟨he,p,n,wi,hx,⟨v,hst.row b v (fun e=>hq2 b e rfl) hAll hv,hvb⟩,keep fun j hj hh=>?_⟩,hq1⟩
  obtain⟨l,hl,hlE⟩:=own _ hh
  rw[add_block] at hl
  have:=hM.uniq (.inr b) l _ ⟨v,z,hv,hz,hvb⟩ hl
  cases E with
  | none=>exact hlE
  | all=>exact hlE
  | box c=>subst hlE;simp at this
  | row c=>subst hlE;simp at this;exact hq2 c rfl this
theorem PendOK.mono_{x:Nat × (World->Prop)}{y:Nat × Src}(h:PendOK V μ ω w x y):x.2 w:=by
 obtain⟨_,p,n,wi,hx,_,hk⟩:=h
 rw[hx]
 exact hk
inductive All2{α β:Type}(R:α->β->Prop):List α->List β->Prop
 | nil:All2 R [] []
 | cons {a b l m} (h:R a b) (t:All2 R l m):All2 R (a :: l) (b :: m)
theorem All2.left{α β:Type}{R:α->β->Prop}{l:List α}{m:List β}(h:All2 R l m):∀ x ∈ l,∃ y,R x y:=by
 induction h with
 | nil=>intro x hx;cases hx
 | cons h t ih=>
  intro x hx
  rcases List.mem_cons.1 hx with rfl|hx
  . exact⟨_,h⟩
  . exact ih x hx
theorem clearP_step(hM:Mem (szOf T) w0 V0 V μ ω s.box s.row w){E:Src}(hAll:E ≠ .all)(hE:∀ b,E = .row b->∃ x,s.row[b]? = some (some x)){bef:Nat->Nat->Bool}{i:Nat}{ps:Pends}{sps:List (Nat × Src)}(h:All2 (PendOK V μ ω w) ps sps) :
    ∀ {q:Prop},clearP bef i s E sps q->q/\∀ V' μ' ω' w',Step E V μ ω w V' μ' ω' w' ->
     (∀ x ∈ ps,bef x.1 i=false->x.2 w')/\All2 (PendOK V' μ' ω' w') (ps.filter fun x=>!bef x.1 i) (filterP bef i sps):=by
 induction h with
 | nil=>intro q h;exact⟨h,fun V' μ' ω' w' _=>⟨by simp,.nil⟩⟩
 | @cons x y ps sps hxy _ ih=>
  intro q h
  obtain⟨k,src⟩:=y
  have hk:x.1=k:=hxy.1
  simp only[clearP] at h
  cases hb:bef k i with
  | true=>
   rw[hb] at h
   obtain⟨hq,hs⟩:=ih h
   refine⟨hq,fun V' μ' ω' w' hst=>?_⟩
   obtain⟨h1,h2⟩:=hs V' μ' ω' w' hst
   refine⟨fun z hz hzb=>?_,?_⟩
   . rcases List.mem_cons.1 hz with rfl|hz
     . rw[hk,hb] at hzb;cases hzb
     . exact h1 z hz hzb
   . rw[List.filter_cons_of_neg (by simp[hk,hb])]
     simp only[filterP,hb]
     exact h2
  | false=>
   rw[hb] at h
   have hq0:(clearP bef i s E sps q):=by
    simp only[apartK,ownK] at h
    cases src with
    | all=>exact h.elim
    | none=>exact h
    | box b=>cases E with
     | box c=>dsimp only at h;split at h;exact h.elim;exact h
     | _=>exact h
    | row b=>
     dsimp only at h
     split at h
     case h_2=>exact h.elim
     cases E with
     | row c=>dsimp only at h;split at h;exact h.elim;exact h
     | _=>exact h
   obtain⟨hq,hs⟩:=ih hq0
   refine⟨hq,fun V' μ' ω' w' hst=>?_⟩
   obtain⟨h1,h2⟩:=hs V' μ' ω' w' hst
   have hp:=(hxy.step hM hAll hE h hst).1
   refine⟨fun z hz hzb=>?_,?_⟩
   . rcases List.mem_cons.1 hz with rfl|hz
     . exact hp.mono_
     . exact h1 z hz hzb
   . rw[List.filter_cons_of_pos (by simp[hk,hb])]
     simp only[filterP,hb]
     exact .cons hp h2
theorem clearA_step{bef:Nat->Nat->Bool}{i:Nat}{ps:Pends}{sps:List (Nat × Src)}(h:All2 (PendOK V μ ω w) ps sps) :
    ∀ {q:Prop},clearA bef i sps q->q/\∀ V' μ' ω' w',Step .all V μ ω w V' μ' ω' w' ->
     (∀ x ∈ ps,bef x.1 i=false->x.2 w')/\All2 (PendOK V' μ' ω' w') (ps.filter fun x=>!bef x.1 i) (filterP bef i sps):=by
 induction h with
 | nil=>intro q h;exact⟨h,fun V' μ' ω' w' _=>⟨by simp,.nil⟩⟩
 | @cons x y ps sps hxy _ ih=>
  intro q h
  obtain⟨k,src⟩:=y
  have hk:x.1=k:=hxy.1
  simp only[clearA] at h
  cases hb:bef k i with
  | false=>rw[hb] at h;exact h.elim
  | true=>
   rw[hb] at h
   obtain⟨hq,hs⟩:=ih h
   refine⟨hq,fun V' μ' ω' w' hst=>?_⟩
   obtain⟨h1,h2⟩:=hs V' μ' ω' w' hst
   refine⟨fun z hz hzb=>?_,?_⟩
   . rcases List.mem_cons.1 hz with rfl|hz
     . rw[hk,hb] at hzb;cases hzb
     . exact h1 z hz hzb
   . rw[List.filter_cons_of_neg (by simp[hk,hb])]
     simp only[filterP,hb]
     exact h2
theorem clearK_step(hM:Mem (szOf T) w0 V0 V μ ω s.box s.row w){E:Src}{bef:Nat->Nat->Bool}{i:Nat}{ps:Pends}{sps:List (Nat × Src)}(h:All2 (PendOK V μ ω w) ps sps)
    {q:Prop}(hc:clearK bef i s E sps q):q/\∀ V' μ' ω' w',Step E V μ ω w V' μ' ω' w' ->
     (∀ x ∈ ps,bef x.1 i=false->x.2 w')/\All2 (PendOK V' μ' ω' w') (ps.filter fun x=>!bef x.1 i) (filterP bef i sps):=by
 unfold clearK at hc
 cases E with
 | row b=>
  obtain⟨hz,hc⟩:=ownK_iff hc
  exact clearP_step hM (by simp) (fun c hc=>by cases hc;exact hz) h hc
 | all=>exact clearA_step h hc
 | none=>exact clearP_step hM (by simp) (fun c hc=>by cases hc) h hc
 | box b=>exact clearP_step hM (by simp) (fun c hc=>by cases hc) h hc
theorem All2.filter{bef:Nat->Nat->Bool}{i:Nat}{R:Nat × (World->Prop)->Nat × Src->Prop}(hR:∀ x y,R x y->x.1=y.1){ps:Pends}{sps:List (Nat × Src)}(h:All2 R ps sps) :
    All2 R (ps.filter fun x=>!bef x.1 i) (filterP bef i sps):=by
 induction h with
 | nil=>exact .nil
 | @cons x y ps sps hxy _ ih=>
  obtain⟨k,src⟩:=y
  have hk:x.1=k:=hR _ _ hxy
  simp only[filterP]
  cases hb:bef k i with
  | true=>rw[List.filter_cons_of_neg (by simp[hk,hb])];exact ih
  | false=>rw[List.filter_cons_of_pos (by simp[hk,hb])];exact .cons hxy ih
theorem dops_sound(hT:TOk P T){ops:List Oper}{A:Waits}(hns:Region.noSelect ops.toArray=true)(hA:waitsB ops.toArray A=true){Q:Exit->Act->World->Prop}(hQ:∀ c a w,¬ Q (.panic c) a w) :
    ∀ (mvs:List Mv) (listed:Array Bool) (ps:Pends) (sps:List (Nat × Src)) (s:St) (V:Vw) (μ:List Nat) (ω:List Value) (a:Act) (w:World) (K:St->Prop),
     planB ops.toArray mvs listed=true->Closed ops.toArray listed->Sim (szOf T) w0 V0 V μ ω s a w->All2 (PendOK V μ ω w) ps sps->dops P T ops A mvs sps s K ->
     (∀ s V μ ω a w,K s->Sim (szOf T) w0 V0 V μ ω s a w->Q .normal a w)->wpAnyP P ops.toArray (befW A) Q mvs.length ps listed a w
 | [],listed,ps,sps,s,V,μ,ω,a,w,K,hB,hcl,hS,hps,h,hq=>⟨by simpa[planB] using hB,hq _ _ _ _ _ _ h hS⟩
 | .q i :: r,listed,ps,sps,s,V,μ,ω,a,w,K,hB,hcl,hS,hps,h,hq=>by
  simp only[planB,Bool.and_eq_true] at hB
  obtain⟨⟨⟨hr,hf⟩,hq1⟩,hB⟩:=hB
  simp only[dops] at h
  cases ho:ops[i]? with
  | none=>rw[ho] at h;exact h.elim
  | some o=>
   rw[ho] at h
   dsimp only at h
   have ho':ops.toArray[i]? = some o:=by simpa using ho
   rw[ho'] at hq1
   have hri:i ∈ Region.ready .any ops.toArray listed:=by simpa using hr
   have hall:∀ x ∈ ps,x.2 w:=fun x hx=>let ⟨y,hy⟩:=hps.left x hx;hy.mono_
   rcases wantK_sound (o:=o) hS h with⟨hw,s1,h,hS⟩|⟨hw,s1,h,hS⟩
   . obtain⟨d,v,s2,h,hr2,hS2,p,n,hsrc,hq2⟩:=qop_sound hT hS h
     obtain⟨s3,h,hS3⟩:=putK_sound hS2 hr2 h
     refine wpAnyP_first (C:=KeepN p n w) (v:=v) (fun i j=>befW_spec hA i j) ho' (Region.noSelect_spec hns) (fun c a w hc=>absurd hc (hQ _ _ _)) r.length ps listed a w hcl (Region.free_spec ho' hf) hri
      (.inl ⟨hw,fun w' hk=>quiet_value (by simpa using hq1) (hq2 w' ?_)⟩) (fun _ _ _ h=>h) hall ?_
     . unfold QR
       split
       . exact hk
       . rename_i heq;simp[isQ,heq] at hq1
       . rename_i heq;simp[isQ,heq] at hq1
       . trivial
     . exact dops_sound hT hns hA hQ r _ _ _ s3 V μ ω _ w K hB (hcl.set hri) hS3 (.cons ⟨rfl,p,n,w,rfl,hsrc,fun _ _ _ h=>h⟩ hps) h hq
   . obtain⟨s3,h,hS3⟩:=putK_sound hS (v:=undef) (d:=.tup []) (RS.tup [] #[] rfl (fun j v d h=>by simp at h)) h
     refine wpAnyP_first (C:=KeepN ⟨0,0,none⟩ 0 w) (v:=undef) (fun i j=>befW_spec hA i j) ho' (Region.noSelect_spec hns) (fun c a w hc=>absurd hc (hQ _ _ _)) r.length ps listed a w hcl (Region.free_spec ho' hf) hri
      (.inr ⟨hw,rfl⟩) (fun _ _ _ h=>h) hall ?_
     exact dops_sound hT hns hA hQ r _ _ _ s3 V μ ω _ w K hB (hcl.set hri) hS3 (.cons ⟨rfl,⟨0,0,none⟩,0,w,rfl,SrcP.zero _,fun _ _ _ h=>h⟩ hps) h hq
 | .l i :: r,listed,ps,sps,s,V,μ,ω,a,w,K,hB,hcl,hS,hps,h,hq=>by
  simp only[planB,Bool.and_eq_true,beq_iff_eq] at hB
  obtain⟨hr,hB⟩:=hB
  simp only[dops] at h
  cases ho:ops[i]? with
  | none=>rw[ho] at h;exact h.elim
  | some o=>
   rw[ho] at h
   dsimp only at h
   have ho':ops.toArray[i]? = some o:=by simpa using ho
   have hri:i ∈ Region.ready .any ops.toArray listed:=by rw[hr];simp
   refine⟨fun h0=>(by rw[hr] at h0;cases h0),fun j hj=>?_⟩
   rw[hr] at hj
   have hji:j=i:=by simpa using hj
   subst hji
   unfold wpOp
   rw[ho']
   dsimp only
   rcases wantK_sound (o:=o) hS h with⟨hw,s1,h,hS⟩|⟨hw,s1,h,hS⟩
   . rw[if_pos hw]
     obtain⟨h,hst⟩:=clearK_step hS.mem hps h
     refine .inl (dop_sound hT hS h _ _ fun d v s2 V2 μ2 ω2 w2 hk hr2 hS2 hstep=>?_)
     obtain⟨h1,h2⟩:=hst _ _ _ _ hstep
     obtain⟨s3,h,hS3⟩:=putK_sound hS2 hr2 hk
     exact⟨h1,dops_sound hT hns hA hQ r _ _ _ s3 _ _ _ _ w2 K hB (hcl.set hri) hS3 h2 h hq⟩
   . rw[if_neg (by rw[hw];simp)]
     obtain⟨s3,h,hS3⟩:=putK_sound hS (v:=undef) (d:=.tup []) (RS.tup [] #[] rfl (fun j v d h=>by simp at h)) h
     exact⟨fun x hx _=>let ⟨y,hy⟩:=hps.left x hx;hy.mono_,dops_sound hT hns hA hQ r _ _ _ s3 _ _ _ _ w K hB (hcl.set hri) hS3 (hps.filter fun _ _ h=>h.1) h hq⟩
theorem Ok.region_plan(hT:TOk P T)(hm:P.follows .mixedOrders=true){s:St}{Q:Exit->St->Prop}{id:Nat}{l:List Oper}(A:Waits)(mvs:List Mv)(hB:planOk l.toArray A mvs=true)(h:dops P T l A mvs [] s (Q .normal)) :
    Ok P T (.region id l.toArray true) Q s:=by
 refine⟨fun w0 V0 V μ ω a w hS=>?_⟩
 simp only[planOk,Bool.and_eq_true,beq_iff_eq] at hB
 obtain⟨⟨⟨hns,hA⟩,hlen⟩,hB⟩:=hB
 have hd:Ext w { w with drawn:=w.drawn+1 }:=(Below.refl w.heap.size w).drew
 refine wp_mono (Q:=fun e a' w'=>e = .normal/\∃ s' V' μ' ω',Q .normal s'/\Sim (szOf T) w0 V0 V' μ' ω' s' a' w') (wp_region_any hm ?_) ?_
 . refine wpAny_of_P (bef:=befW A) _ [] _ _ _ ?_
   have hz:∀ m j:Nat,(Array.replicate m false).getD j false=false:=fun m j=>by
    rcases Nat.lt_or_ge j m with h|h<;>simp[h]
   have hw:=dops_sound hT hns hA (Q:=fun e a' w'=>e = .normal/\∃ s' V' μ' ω',Q .normal s'/\Sim (szOf T) w0 V0 V' μ' ω' s' a' w') (fun c a w h=>by cases h.1) mvs _ [] [] s V μ ω a _ _ hB
    (fun j o _ hl=>by rw[hz] at hl;cases hl) (hS.ext hd) .nil h fun s' V' μ' ω' a' w' hk hS'=>⟨rfl,s',V',μ',ω',hk,hS'⟩
   rw[hlen] at hw
   exact hw
 . rintro e a' w' ⟨rfl,s',V',μ',ω',hk,hS'⟩
   exact⟨s',V',μ',ω',hk,hS'⟩
end
end Go.Vx
namespace Go.Vx
open Go.RowKit
def eqFs(T:Tab)(E:TypeId → List Sh → Bool):List Field → Nat → List Sh → Bool
 | [],_,sh=>sh.isEmpty
 | f :: r,off,sh=>f.name != "_" && f.offset == off && (match T f.type with
  | some ti=>Nat.ble 1 ti.size && Nat.ble ti.size sh.length && E f.type (sh.take ti.size) && eqFs T E r (off+ti.size) (sh.drop ti.size)
  | none=>false)
def eqAs(E:TypeId->List Sh->Bool)(e:TypeId)(sz:Nat):Nat->List Sh->Bool
 | 0,sh=>sh.isEmpty
 | n+1,sh=>Nat.ble 1 sz && Nat.ble sz sh.length && E e (sh.take sz) && eqAs E e sz n (sh.drop sz)
def eqB(P:Program)(T:Tab):Nat->TypeId->List Sh->Bool
 | 0,_,_=>false
 | d+1,t,sh=>match T t with
  | some ⟨1,_,.int k,_⟩=>match sh with|[.i k']=>Nat.beq (ikn k') (ikn k)|_=>false
  | some ⟨1,_,.str,_⟩=>match sh with|[.s]=>true|_=>false
  | some ⟨1,_,.bool,_⟩=>match sh with|[.b]=>true|_=>false
  | some ⟨_,_,.struct _,_⟩=>!P.stoodInHeld t && (match P.underlying t with|some (.struct fa)=>eqFs T (eqB P T d) fa.toList 0 sh|_=>false)
  | some ⟨_,_,.array n e,_⟩=>(match T e with|some ti=>eqAs (eqB P T d) e ti.size n sh|none=>false)
  | _=>false
def Holds(ti:TI)(v:Value)(x:List D):Prop:=
 match ti.agg with
 | true=>∃ vs:Array Value,v = .agg vs/\vs.size=x.length/\∀ (j:Nat) u d,vs[j]? = some u->x[j]? = some d->plainR d u
 | false=>∃ d,x=[d]/\plainR d v
def EqD(P:Program)(T:Tab)(dd:Nat)(t:TypeId)(sh:List Sh):Prop:=
 ∀ (w:World) (ti:TI) (a b:Value) (x y:List D),T t=some ti->shB sh x=true->shB sh y=true->Holds ti a x->Holds ti b y->∃ r:Bool,(Op.equalIn dd t a b).run P w = .ok r w/\(r=true ↔ eqDs x y)
theorem eqDs_cons(a b:D)(x y:List D)(h:x.length=y.length):eqDs (a :: x) (b :: y) ↔ eqD a b/\eqDs x y:=by
 cases x with
 | nil=>cases y with
  | nil=>simp[eqDs]
  | cons=>simp at h
 | cons c x=>cases y with
  | nil=>simp at h
  | cons d y=>simp[eqDs]
theorem eqDs_append:∀ (x1 y1 x2 y2:List D),x1.length=y1.length->x2.length=y2.length->(eqDs (x1++x2) (y1++y2) ↔ eqDs x1 y1/\eqDs x2 y2)
 | [],[],x2,y2,_,_=>by simp[eqDs]
 | [],_ :: _,_,_,h,_=>by simp at h
 | _ :: _,[],_,_,h,_=>by simp at h
 | a :: x1,b :: y1,x2,y2,h1,h2=>by
  simp only[List.length_cons,Nat.add_right_cancel_iff] at h1
  rw[List.cons_append,List.cons_append,eqDs_cons _ _ _ _ (by simp[h1,h2]),eqDs_cons _ _ _ _ h1,eqDs_append x1 y1 x2 y2 h1 h2,and_assoc]
theorem shB_length:∀ {sh:List Sh} {x:List D},shB sh x=true->x.length=sh.length
 | [],x,h=>by rw[shB_nil h];rfl
 | a :: s,x,h=>by
  obtain⟨c,r,rfl,_,h2⟩:=shB_cons h
  simp[shB_length h2]
theorem shB_take:∀ {sh:List Sh} {x:List D} (n:Nat),shB sh x=true->shB (sh.take n) (x.take n)=true/\shB (sh.drop n) (x.drop n)=true
 | [],x,n,h=>by rw[shB_nil h];simp[shB]
 | a :: s,x,0,h=>by simp[shB,h]
 | a :: s,x,n+1,h=>by
  obtain⟨c,r,rfl,h1,h2⟩:=shB_cons h
  obtain⟨h3,h4⟩:=shB_take n h2
  simp[shB,h1,h3,h4]
section
variable {P : Program} {T : Tab}
theorem part_holds(hT:TOk P T)(w:World){t:TypeId}{ti:TI}(ht:T t=some ti){xs:Array Value}{x:List D}(hl:xs.size=x.length)(hp:∀ (j:Nat) u d,xs[j]? = some u->x[j]? = some d->plainR d u){off:Nat}(hle:off+ti.size<=x.length)(h1:ti.agg=false->ti.size=1) :
    ∃ a,(part t xs off).run P w = .ok a w/\Holds ti a ((x.drop off).take ti.size):=by
 have hg:=hT t ti ht
 cases hag:ti.agg with
 | true=>
  refine⟨.agg (xs.extract off (off+ti.size)),?_,?_⟩
  . simp[part,hg.agg,hag,hg.size]
  . unfold Holds
    rw[hag]
    refine⟨_,rfl,by simp;omega,fun j u d h2 h3=>?_⟩
    rw[Array.getElem?_extract] at h2
    rw[List.getElem?_take] at h3
    split at h2
    . split at h3
      . rw[List.getElem?_drop] at h3
        exact hp _ _ _ h2 h3
      . cases h3
    . cases h2
 | false=>
  have hs:=h1 hag
  have hlt:off<xs.size:=by omega
  refine⟨xs[off],?_,?_⟩
  . simp[part,hg.agg,hag,hlt]
  . unfold Holds
    rw[hag]
    have hx:off<x.length:=by omega
    refine⟨x[off],?_,hp off _ _ (Array.getElem?_eq_getElem hlt) (List.getElem?_eq_getElem hx)⟩
    rw[hs,List.drop_eq_getElem_cons hx]
    rfl
theorem eqFs_sound(hT:TOk P T)(w:World){dd:Nat}{E:TypeId->List Sh->Bool}(hE:∀ t sh,E t sh=true->EqD P T dd t sh/\∀ ti,T t=some ti->ti.agg=false->ti.size=1){xs ys:Array Value}{X Y:List D}(hlx:xs.size=X.length)(hly:ys.size=Y.length)
    (hpx:∀ (j:Nat) u d,xs[j]? = some u->X[j]? = some d->plainR d u)(hpy:∀ (j:Nat) u d,ys[j]? = some u->Y[j]? = some d->plainR d u) :
    ∀ (fs:List Field) (off:Nat) (sh:List Sh),eqFs T E fs off sh=true->shB sh (X.drop off)=true->shB sh (Y.drop off)=true ->
     ∃ r:Bool,(Op.eqFields dd xs ys fs).run P w = .ok r w/\(r=true ↔ eqDs (X.drop off) (Y.drop off))
 | [],off,sh,h,hx,hy=>by
  have:sh=[]:=by simpa[eqFs] using h
  subst this
  refine⟨true,by simp[Op.eqFields],?_⟩
  rw[shB_nil hx,shB_nil hy]
  simp[eqDs]
 | f :: fs,off,sh,h,hx,hy=>by
  simp only[eqFs,Bool.and_eq_true,bne_iff_ne,ne_eq,beq_iff_eq] at h
  obtain⟨⟨hn,ho⟩,h⟩:=h
  split at h
  case h_2=>cases h
  rename_i ti hti
  simp only[Bool.and_eq_true,Nat.ble_eq] at h
  obtain⟨⟨⟨hs1,hs2⟩,he⟩,hr⟩:=h
  obtain⟨hEq,hone⟩:=hE _ _ he
  have hXl:=shB_length hx
  have hYl:=shB_length hy
  rw[List.length_drop] at hXl hYl
  obtain⟨a,ha,hA⟩:=part_holds hT w hti hlx hpx (off:=off) (by omega) (hone ti hti)
  obtain⟨b,hb,hB⟩:=part_holds hT w hti hly hpy (off:=off) (by omega) (hone ti hti)
  obtain⟨hx1,hx2⟩:=shB_take ti.size hx
  obtain⟨hy1,hy2⟩:=shB_take ti.size hy
  obtain⟨r,hrr,hiff⟩:=hEq w ti a b _ _ hti hx1 hy1 hA hB
  rw[List.drop_drop] at hx2 hy2
  obtain⟨r',hr',hiff'⟩:=eqFs_sound hT w hE hlx hly hpx hpy fs (off+ti.size) _ hr hx2 hy2
  have hsplit:eqDs (X.drop off) (Y.drop off) ↔ eqDs ((X.drop off).take ti.size) ((Y.drop off).take ti.size)/\eqDs (X.drop (off+ti.size)) (Y.drop (off+ti.size)):=by
   have h1:X.drop off=(X.drop off).take ti.size++X.drop (off+ti.size):=by rw[<- List.drop_drop,List.take_append_drop]
   have h2:Y.drop off=(Y.drop off).take ti.size++Y.drop (off+ti.size):=by rw[<- List.drop_drop,List.take_append_drop]
   have:=eqDs_append ((X.drop off).take ti.size) ((Y.drop off).take ti.size) (X.drop (off+ti.size)) (Y.drop (off+ti.size)) (by simp;omega) (by simp;omega)
   rw[<- h1,<- h2] at this
   exact this
  rw[hsplit]
  simp only[Op.eqFields,hn,ne_eq,not_false_eq_true,if_true,Sem.run_bind,ho,ha,hb,hrr,Result.andThen_ok]
  cases r with
  | false=>exact⟨false,by simp,by simp;intro e;exact absurd (hiff.2 e) (by simp)⟩
  | true=>exact⟨r',by simpa using hr',by rw[hiff'];simp[hiff.1 rfl]⟩
theorem eqAs_sound(hT:TOk P T)(w:World){dd:Nat}{E:TypeId->List Sh->Bool}(hE:∀ t sh,E t sh=true->EqD P T dd t sh/\∀ ti,T t=some ti->ti.agg=false->ti.size=1){xs ys:Array Value}{X Y:List D}(hlx:xs.size=X.length)(hly:ys.size=Y.length)
    (hpx:∀ (j:Nat) u d,xs[j]? = some u->X[j]? = some d->plainR d u)(hpy:∀ (j:Nat) u d,ys[j]? = some u->Y[j]? = some d->plainR d u){e:TypeId}{ti:TI}(hti:T e=some ti) :
    ∀ (n i:Nat) (sh:List Sh),eqAs E e ti.size n sh=true->shB sh (X.drop (i*ti.size))=true->shB sh (Y.drop (i*ti.size))=true ->
     ∃ r:Bool,(Op.eqItems dd e ti.size xs ys (List.range' i n)).run P w = .ok r w/\(r=true ↔ eqDs (X.drop (i*ti.size)) (Y.drop (i*ti.size)))
 | 0,i,sh,h,hx,hy=>by
  have:sh=[]:=by simpa[eqAs] using h
  subst this
  refine⟨true,by simp[Op.eqItems],?_⟩
  rw[shB_nil hx,shB_nil hy]
  simp[eqDs]
 | n+1,i,sh,h,hx,hy=>by
  simp only[eqAs,Bool.and_eq_true,Nat.ble_eq] at h
  obtain⟨⟨⟨hs1,hs2⟩,he⟩,hr⟩:=h
  obtain⟨hEq,hone⟩:=hE _ _ he
  have hXl:=shB_length hx
  have hYl:=shB_length hy
  rw[List.length_drop] at hXl hYl
  obtain⟨a,ha,hA⟩:=part_holds hT w hti hlx hpx (off:=i*ti.size) (by omega) (hone ti hti)
  obtain⟨b,hb,hB⟩:=part_holds hT w hti hly hpy (off:=i*ti.size) (by omega) (hone ti hti)
  obtain⟨hx1,hx2⟩:=shB_take ti.size hx
  obtain⟨hy1,hy2⟩:=shB_take ti.size hy
  obtain⟨r,hrr,hiff⟩:=hEq w ti a b _ _ hti hx1 hy1 hA hB
  rw[List.drop_drop,show i*ti.size+ti.size=(i+1)*ti.size by rw[Nat.succ_mul]] at hx2 hy2
  obtain⟨r',hr',hiff'⟩:=eqAs_sound hT w hE hlx hly hpx hpy hti n (i+1) _ hr hx2 hy2
  have hsplit:eqDs (X.drop (i*ti.size)) (Y.drop (i*ti.size)) ↔ eqDs ((X.drop (i*ti.size)).take ti.size) ((Y.drop (i*ti.size)).take ti.size)/\eqDs (X.drop ((i+1)*ti.size)) (Y.drop ((i+1)*ti.size)):=by
   have e1:(i+1)*ti.size=i*ti.size+ti.size:=by rw[Nat.succ_mul]
   have h1:X.drop (i*ti.size)=(X.drop (i*ti.size)).take ti.size++X.drop ((i+1)*ti.size):=by rw[e1,<- List.drop_drop,List.take_append_drop]
   have h2:Y.drop (i*ti.size)=(Y.drop (i*ti.size)).take ti.size++Y.drop ((i+1)*ti.size):=by rw[e1,<- List.drop_drop,List.take_append_drop]
   have:=eqDs_append ((X.drop (i*ti.size)).take ti.size) ((Y.drop (i*ti.size)).take ti.size) (X.drop ((i+1)*ti.size)) (Y.drop ((i+1)*ti.size)) (by simp;omega) (by simp;omega)
   rw[<- h1,<- h2] at this
   exact this
  rw[hsplit]
  rw[List.range'_succ]
  simp only[Op.eqItems,Sem.run_bind,ha,hb,hrr,Result.andThen_ok]
  cases r with
  | false=>exact⟨false,by simp,by simp;intro e;exact absurd (hiff.2 e) (by simp)⟩
  | true=>exact⟨r',by simpa using hr',by rw[hiff'];simp[hiff.1 rfl]⟩
theorem eqB_sound(hT:TOk P T)(c:Nat):∀ (d:Nat) (t:TypeId) (sh:List Sh),eqB P T d t sh=true->EqD P T (c+d) t sh/\∀ ti,T t=some ti->ti.agg=false->ti.size=1
 | 0,_,_,h=>by simp[eqB] at h
 | d+1,t,sh,h=>by
  simp only[eqB] at h
  split at h
  . rename_i bb k z hti
    refine⟨?_,fun ti h1 _=>by rw[hti] at h1;cases h1;rfl⟩
    split at h
    case h_2=>cases h
    rename_i k'
    have:=ikn_inj h
    subst this
    intro w ti a b x y ht hx hy ha hb
    rw[hti] at ht
    cases ht
    obtain⟨d1,rfl,ha⟩:=ha
    obtain⟨d2,rfl,hb⟩:=hb
    obtain⟨_,_,e1,h1,_⟩:=shB_cons hx
    obtain⟨_,_,e2,h2,_⟩:=shB_cons hy
    cases e1
    cases e2
    rcases sh1_val h1 with⟨_,n,rfl,e⟩|⟨_,_,e⟩|⟨_,_,e⟩<;>cases e
    rcases sh1_val h2 with⟨_,m,rfl,e⟩|⟨_,_,e⟩|⟨_,_,e⟩<;>cases e
    simp only[plainR] at ha hb
    subst ha hb
    have hu:=(hT _ _ hti).kind
    refine⟨n == m,by simp[Op.equalIn,run_under hu],by simp[eqDs,eqD]⟩
  . rename_i bb z hti
    refine⟨?_,fun ti h1 _=>by rw[hti] at h1;cases h1;rfl⟩
    split at h
    case h_2=>cases h
    intro w ti a b x y ht hx hy ha hb
    rw[hti] at ht
    cases ht
    obtain⟨d1,rfl,ha⟩:=ha
    obtain⟨d2,rfl,hb⟩:=hb
    obtain⟨_,_,e1,h1,_⟩:=shB_cons hx
    obtain⟨_,_,e2,h2,_⟩:=shB_cons hy
    cases e1
    cases e2
    rcases sh1_val h1 with⟨_,n,_,e⟩|⟨l,rfl,e⟩|⟨_,_,e⟩<;>cases e
    rcases sh1_val h2 with⟨_,m,_,e⟩|⟨m,rfl,e⟩|⟨_,_,e⟩<;>cases e
    simp only[plainR] at ha hb
    subst ha hb
    have hu:=(hT _ _ hti).kind
    refine⟨bstr l == bstr m,by simp[Op.equalIn,run_under hu],?_⟩
    rw[beq_toListBytes,bstr_toList,bstr_toList]
    simp[eqDs,eqD]
  . rename_i bb z hti
    refine⟨?_,fun ti h1 _=>by rw[hti] at h1;cases h1;rfl⟩
    split at h
    case h_2=>cases h
    intro w ti a b x y ht hx hy ha hb
    rw[hti] at ht
    cases ht
    obtain⟨d1,rfl,ha⟩:=ha
    obtain⟨d2,rfl,hb⟩:=hb
    obtain⟨_,_,e1,h1,_⟩:=shB_cons hx
    obtain⟨_,_,e2,h2,_⟩:=shB_cons hy
    cases e1
    cases e2
    rcases sh1_val h1 with⟨_,n,_,e⟩|⟨_,_,e⟩|⟨p,rfl,e⟩<;>cases e
    rcases sh1_val h2 with⟨_,m,_,e⟩|⟨_,_,e⟩|⟨q,rfl,e⟩<;>cases e
    simp only[plainR] at ha hb
    obtain⟨x,rfl,hx⟩:=ha
    obtain⟨y,rfl,hy⟩:=hb
    have hu:=(hT _ _ hti).kind
    refine⟨x == y,by simp[Op.equalIn,run_under hu],?_⟩
    simp only[eqDs,eqD,<- hx,<- hy]
    cases x<;>cases y<;>simp
  . rename_i n bb fs z hti
    refine⟨?_,fun ti h1 h2=>by rw[hti] at h1;cases h1;simp[TI.agg] at h2⟩
    simp only[Bool.and_eq_true,Bool.not_eq_true'] at h
    obtain⟨hst,h⟩:=h
    split at h
    case h_2=>cases h
    rename_i fa hu
    intro w ti a b x y ht hx hy ha hb
    rw[hti] at ht
    cases ht
    obtain⟨xs,rfl,hlx,hpx⟩:=ha
    obtain⟨ys,rfl,hly,hpy⟩:=hb
    have hfs:P.fieldsOf t=fa:=by simp[Program.fieldsOf,hu]
    obtain⟨r,hr,hiff⟩:=eqFs_sound hT w (fun t sh h=>eqB_sound hT c d t sh h) hlx hly hpx hpy fa.toList 0 sh h (by simpa using hx) (by simpa using hy)
    refine⟨r,?_,by simpa using hiff⟩
    rw[show c+(d+1)=(c+d)+1 from rfl,run_equalIn_struct w (c+d) t xs ys (by rw[hfs];exact hu) hst,hfs]
    exact hr
  . rename_i m bb n e z hti
    refine⟨?_,fun ti h1 h2=>by rw[hti] at h1;cases h1;simp[TI.agg] at h2⟩
    split at h
    case h_2=>cases h
    rename_i te hte
    intro w ti a b x y ht hx hy ha hb
    rw[hti] at ht
    cases ht
    obtain⟨xs,rfl,hlx,hpx⟩:=ha
    obtain⟨ys,rfl,hly,hpy⟩:=hb
    have hu:=(hT _ _ hti).kind
    obtain⟨i,zz,hi,his,_⟩:=(hT _ _ hte).info
    have hce:P.cellsOf e=te.size:=by rw[Program.cellsOf,hi];exact his
    obtain⟨r,hr,hiff⟩:=eqAs_sound hT w (fun t sh h=>eqB_sound hT c d t sh h) hlx hly hpx hpy hte n 0 sh h (by simpa using hx) (by simpa using hy)
    refine⟨r,?_,by simpa using hiff⟩
    rw[show c+(d+1)=(c+d)+1 from rfl,run_equalIn_array w (c+d) xs ys hu hi,hce,List.range_eq_range']
    exact hr
  . cases h
theorem EqT.of_b(hT:TOk P T){t:TypeId}{sh:List Sh}{ti:TI}(ht:T t=some ti)(hag:ti.agg=true)(h:eqB P T 10 t sh=true):EqT P t sh:=by
 intro x y vs us w hx hy hl1 hl2 hp1 hp2
 have:=(eqB_sound hT 9990 10 t sh h).1 w ti (.agg vs) (.agg us) x y ht hx hy (by unfold Holds;rw[hag];exact⟨vs,rfl,hl1,hp1⟩) (by unfold Holds;rw[hag];exact⟨us,rfl,hl2,hp2⟩)
 exact this
end
end Go.Vx
namespace Go.Vx
open Go.RowKit Go.ChangeShapes Go.WideShapes
open Go.Proofs.YtaiondckookpiaaDoor (Rows.uptoBulk Rows.uptoBulkAll)
inductive Shp where
 | bool|int (k:IntKind)|str|slice (e:TypeId) (cells:List Shp)
def shpFs(F:TypeId->Option (List Shp)):Nat->List (Nat × TypeId)->Option (List Shp)
 | _,[]=>some []
 | k,(o,t) :: r=>match Nat.beq o k,F t with
  | true,some l=>(match shpFs F (k+l.length) r with|some m=>some (l++m)|none=>none)
  | _,_=>none
def lenIs(s:Nat)(o:Option (List Shp)):Option (List Shp):=match o with|some l=>(match Nat.beq s l.length with|true=>some l|false=>none)|none=>none
def shpC(T:Tab):Nat->TypeId->Option (List Shp)
 | 0,_=>none
 | f+1,t=>match T t with
  | some ⟨s,_,.bool,_⟩=>lenIs s (some [.bool])
  | some ⟨s,_,.int k,_⟩=>lenIs s (some [.int k])
  | some ⟨s,_,.str,_⟩=>lenIs s (some [.str])
  | some ⟨s,_,.slice e,_⟩=>lenIs s (match shpC T f e with|some l=>some [.slice e l]|none=>none)
  | some ⟨s,_,.struct fs,_⟩=>lenIs s (shpFs (shpC T f) 0 fs)
  | _=>none
mutual
/-- A cell of such a type; lists and texts of at most B. -/
def TyS (B : Nat) : Shp → D → Prop
  | .bool, d => ∃ p, d = .b p
  | .int k, d => ∃ n, d = .i k n ∧ (Lit.int k n).wf = true
  | .str, d => ∃ l, d = .s l ∧ l.length ≤ B
  | .slice e l, d => ∃ rows room, d = .lst e rows room ∧ rows.length + room.length ≤ B ∧ ∀ r, r ∈ rows ++ room → TySs B l r
/-- .. a row of cells. -/
def TySs (B : Nat) : List Shp → List D → Prop
  | [], [] => True
  | s :: ss, d :: ds => TyS B s d ∧ TySs B ss ds
  | [], _ :: _ => False
  | _ :: _, [] => False
end
def TyA(T:Tab)(B:Nat)(t:TypeId)(l:List Shp)(x:D):Prop:=
 match T t with
 | some ⟨_,_,.struct _,_⟩=>∃ row,x = .agg row/\TySs B l row
 | _=>TySs B l [x]
theorem TySs.append{B:Nat}:∀ {ts us:List Shp} {ds es:List D},TySs B ts ds->TySs B us es->TySs B (ts++us) (ds++es)
 | [],_,[],_,_,h=>h
 | _ :: _,_,_ :: _,_,h,h'=>by
  simp only[TySs,List.cons_append] at h ⊢
  exact⟨h.1,TySs.append h.2 h'⟩
 | [],_,_ :: _,_,h,_=>by simp[TySs] at h
 | _ :: _,_,[],_,h,_=>by simp[TySs] at h
theorem lenIs_some{s:Nat}{o:Option (List Shp)}{l:List Shp}(h:lenIs s o=some l):o=some l/\s=l.length:=by
 unfold lenIs at h
 split at h
 . split at h
   . rename_i hb
     cases h
     exact⟨rfl,Nat.eq_of_beq_eq_true hb⟩
   . cases h
 . cases h
theorem shpC_len{T:Tab}{f:Nat}{t:TypeId}{l:List Shp}(h:shpC T f t=some l):szOf T t=l.length/\∃ ti,T t=some ti:=by
 cases f with
 | zero=>simp[shpC] at h
 | succ f=>
  simp only[shpC] at h
  split at h
  all_goals first
   | (cases h)
   | (rename_i ht;have:=lenIs_some h;rw[szOf_eq ht];exact⟨this.2,_,ht⟩)
section
variable {H : Type} {enc : TypeId × Value → H} {P : Program} {T : Tab} {w : World} {held : Bool}
theorem bulk_mem{d:DataW H}:∀ {l:List (DataW H)},d ∈ l->Rows.uptoBulk d<=Rows.uptoBulkAll l
 | [],h=>by cases h
 | x :: r,h=>by
  simp only[Rows.uptoBulkAll]
  rcases List.mem_cons.1 h with rfl|h
  . omega
  . have:=bulk_mem h;omega
theorem bulk_one(d:DataW H):1<=Rows.uptoBulk d:=by
 cases d with
 | lit l=>cases l<;>simp[Rows.uptoBulk]
 | _=>simp[Rows.uptoBulk]
theorem bulk_length:∀ (l:List (DataW H)),l.length<=Rows.uptoBulkAll l
 | []=>by simp[Rows.uptoBulkAll]
 | x :: r=>by have:=bulk_one x;have:=bulk_length r;simp only[Rows.uptoBulkAll,List.length_cons];omega
def CellsR(T:Tab)(w:World)(cs:List Value)(row:List D):Prop:=
 cs.length=row.length/\∀ (j:Nat) v d,cs[j]? = some v->row[j]? = some d->RI (szOf T) (heapV w) v d/\v.oneCell'=true
theorem CellsR.append{cs cs':List Value}{row row':List D}(h:CellsR T w cs row)(h':CellsR T w cs' row'):CellsR T w (cs++cs') (row++row'):=by
 refine⟨by simp[h.1,h'.1],fun j v d h1 h2=>?_⟩
 by_cases hj:j<cs.length
 . rw[List.getElem?_append_left hj] at h1
   rw[List.getElem?_append_left (by rw[<- h.1];exact hj)] at h2
   exact h.2 j v d h1 h2
 . rw[List.getElem?_append_right (by omega)] at h1
   rw[List.getElem?_append_right (by rw[<- h.1];omega),<- h.1] at h2
   exact h'.2 _ v d h1 h2
theorem CellsR.one{v:Value}{d:D}(h:RI (szOf T) (heapV w) v d)(h1:v.oneCell'=true):CellsR T w [v] [d]:=by
 refine⟨rfl,fun j v' d' h2 h3=>?_⟩
 cases j with
 | zero=>simp at h2 h3;subst h2 h3;exact⟨h,h1⟩
 | succ j=>simp at h2
theorem cells_of(hT:TOk P T){t:TypeId}(h:∃ ti,T t=some ti):szOf T t=P.cellsOf t:=by
 obtain⟨ti,ht⟩:=h
 obtain⟨i,z,h1,h2,_⟩:=(hT t ti ht).info
 rw[szOf_eq ht]
 simp[Program.cellsOf,h1,h2]
theorem fields_ri{f B:Nat}{k:Nat}(ih:∀ t cs x l,shpC T f t=some l->(B=maxLen\/Rows.uptoBulk x.1<=B)->DataW.trod enc P w 0 (fun _=>true) held k t cs=some x->∃ row,TySs B l row/\CellsR T w cs row)
    (hT:TOk P T)(cs:List Value) :
    ∀ (fs:List (Nat × TypeId)) (o:Nat) (xs:List (DataW H × List MemPlace)) (l:List Shp),shpFs (shpC T f) o fs=some l ->
     (B=maxLen\/Rows.uptoBulkAll (xs.map (·.1))<=B)->xs.length=fs.length ->
     (∀ (i:Nat) p,fs[i]? = some p->DataW.trod enc P w 0 (fun _=>true) held k p.2 ((cs.drop p.1).take (P.cellsOf p.2))=xs[i]?) ->
     cs.length=o+l.length->∃ row,TySs B l row/\CellsR T w (cs.drop o) row
 | [],o,xs,l,h1,_,_,_,hl=>⟨[],by simp[shpFs] at h1;subst h1;simp[TySs],by
     simp[shpFs] at h1
     subst h1
     have:cs.drop o=[]:=List.drop_of_length_le (by rw[hl];simp)
     rw[this]
     exact⟨rfl,fun j v d h=>by simp at h⟩⟩
 | (o',t) :: r,o,xs,l,h1,hB,hxl,hx,hl=>by
  simp only[shpFs] at h1
  split at h1
  case h_2=>cases h1
  rename_i l0 hb ht
  split at h1
  case h_2=>cases h1
  rename_i m hm
  cases h1
  have ho:o'=o:=Nat.eq_of_beq_eq_true hb
  obtain⟨hs,hti⟩:=shpC_len ht
  subst ho
  cases xs with
  | nil=>simp at hxl
  | cons x0 xs=>
   have h0:=hx 0 _ rfl
   simp only[List.getElem?_cons_zero] at h0
   have hb0:B=maxLen\/Rows.uptoBulk x0.1<=B:=by
    rcases hB with hB|hB
    . exact .inl hB
    . right;simp only[List.map_cons,Rows.uptoBulkAll] at hB;omega
   have hb1:B=maxLen\/Rows.uptoBulkAll (xs.map (·.1))<=B:=by
    rcases hB with hB|hB
    . exact .inl hB
    . right;simp only[List.map_cons,Rows.uptoBulkAll] at hB;omega
   simp only[List.length_append] at hl
   obtain⟨row0,a0,r0⟩:=ih _ _ _ _ ht hb0 h0
   obtain⟨row1,a1,r1⟩:=fields_ri ih hT cs r (o' + l0.length) xs m hm hb1 (by simpa using hxl) (fun i p hp=>by
    have:=hx (i+1) p (by simpa using hp)
    simpa using this) (by omega)
   refine⟨row0++row1,a0.append a1,?_⟩
   have hc:cs.drop o'=(cs.drop o').take (P.cellsOf t)++cs.drop (o' + l0.length):=by
    rw[<- cells_of hT hti,hs,<- List.drop_drop,List.take_append_drop]
   rw[hc]
   exact r0.append r1
theorem trod_ri(hT:TOk P T)(B:Nat)(hBm:B<=maxLen):∀ (f k:Nat) (t:TypeId) (cs:List Value) (x:DataW H × List MemPlace) (l:List Shp),shpC T f t=some l->(B=maxLen\/Rows.uptoBulk x.1<=B) ->
    DataW.trod enc P w 0 (fun _=>true) held k t cs=some x->∃ row,TySs B l row/\CellsR T w cs row
 | 0,_,_,_,_,_,h,_,_=>by simp[shpC] at h
 | f+1,k,t,cs,x,l,hok,hB,h=>by
  cases ht:T t with
  | none=>simp[shpC,ht] at hok
  | some ti=>
   obtain⟨s,b,kd,z⟩:=ti
   have hG:=(hT t _ ht).kind
   cases kd with
   | bool=>
    obtain⟨v,rfl,rfl⟩:=DataW.trod_bool hG h
    simp only[shpC,ht] at hok
    obtain⟨hok,_⟩:=lenIs_some hok
    cases hok
    refine⟨[.b (v=true)],?_,.one (.b _ _ Iff.rfl) rfl⟩
    simp only[TySs,TyS,and_true]
    exact⟨_,rfl⟩
   | int kk=>
    obtain⟨n,rfl,rfl,hw⟩:=DataW.trod_int hG h
    simp only[shpC,ht] at hok
    obtain⟨hok,_⟩:=lenIs_some hok
    cases hok
    refine⟨[.i kk n],?_,.one (.i _ _) rfl⟩
    simp[TySs,TyS,hw]
   | str=>
    obtain⟨v,rfl,rfl,hl⟩:=DataW.trod_string hG h
    simp only[shpC,ht] at hok
    obtain⟨hok,_⟩:=lenIs_some hok
    cases hok
    refine⟨[.s v.data.toList],?_,.one (by have:=RI.s (sz:=szOf T) (V:=heapV w) v.data.toList;rwa [bstr_data] at this) rfl⟩
    simp only[TySs,TyS,and_true]
    refine⟨_,rfl,?_⟩
    have hl':v.data.toList.length<=maxLen:=by rw[Array.length_toList];exact hl
    rcases hB with rfl|hB
    . exact hl'
    . simp only[Rows.uptoBulk] at hB;omega
   | slice e=>
    simp only[shpC,ht] at hok
    obtain⟨hok,_⟩:=lenIs_some hok
    split at hok
    case h_2=>cases hok
    rename_i le hle
    cases hok
    obtain⟨hse,hti⟩:=shpC_len hle
    have hce:=cells_of hT hti
    rcases Go.Deep.open_slice hG h with⟨rfl,rfl⟩|⟨a,len,cap,m,n,Df,Pl,rfl,_,hlc,hcm,hm,rfl,hx⟩
    . refine⟨[.lst e [] []],?_,.one (RI.lst e [] [] none ⟨0,0,none⟩ 0 (fun _ _=>undef) (by simp) (by unfold maxLen;omega) (by simp) (by simp) (by simp) (by simp) (by simp)) rfl⟩
      simp only[TySs,TyS,and_true]
      exact⟨[],[],rfl,Nat.zero_le _,fun r hr=>by cases hr⟩
    . simp only[if_true] at hm
      subst hm
      have hbi:∀ i,i<m->(B=maxLen\/Rows.uptoBulk (Df i)<=B):=by
       intro i hi
       rcases hB with hB|hB
       . exact .inl hB
       . right
         simp only[Rows.uptoBulk] at hB
         by_cases hil:i<len
         . have:=bulk_mem (d:=Df i) (l:=(List.range len).map Df) (List.mem_map.2 ⟨i,by simpa using hil,rfl⟩)
           omega
         . have:=bulk_mem (d:=Df i) (l:=(List.range (m - len)).map fun j=>Df (len+j)) (List.mem_map.2 ⟨i - len,by simp;omega,by rw[show len+(i - len)=i by omega]⟩)
           omega
      have hmB:m<=B:=by
       rcases hB with rfl|hB
       . exact hcm
       . simp only[Rows.uptoBulk] at hB
         have h1:=bulk_length ((List.range len).map Df)
         have h2:=bulk_length ((List.range (m - len)).map fun j=>Df (len+j))
         simp at h1 h2
         omega
      have key:∀ i,i<m->∃ p:List Value × List D,w.cells? 0 (a.add (i*szOf T e)) (szOf T e)=some p.1/\TySs B le p.2/\CellsR T w p.1 p.2:=by
       intro i hi
       obtain⟨cs',h1,h2⟩:=hx i hi
       obtain⟨row,h3,h4⟩:=trod_ri hT B hBm f n e cs' _ le hle (hbi i hi) h2
       exact⟨(cs',row),by rw[hce];exact h1,h3,h4⟩
      obtain⟨g,hg⟩:=Go.Deep.choose_lt key
      have hat:∀ (i:Nat) row,(((List.range len).map fun i=>(g i).2)++((List.range (m - len)).map fun j=>(g (len+j)).2))[i]? = some row->i<m/\row=(g i).2:=by
       intro i row hr
       by_cases hil:i<len
       . rw[List.getElem?_append_left (by simpa using hil)] at hr
         simp[hil] at hr
         exact⟨by omega,hr.symm⟩
       . rw[List.getElem?_append_right (by simp;omega)] at hr
         simp only[List.length_map,List.length_range,List.getElem?_map,Option.map_eq_some_iff] at hr
         obtain⟨j,hj,rfl⟩:=hr
         have hj2:=List.getElem?_eq_some_iff.1 hj
         obtain⟨hj3,hj4⟩:=hj2
         simp at hj3 hj4
         refine⟨by omega,by rw[<- hj4,show len+(i - len)=i by omega]⟩
      have hcell:∀ i,i<m->(g i).1.length=szOf T e/\∀ j,j<szOf T e->w.cell? ((a.add (i*szOf T e)).add j)=(g i).1[j]?:=by
       intro i hi
       obtain⟨_,h2,h3⟩:=World.cells?_some (hg i hi).1
       exact⟨h2,h3⟩
      refine⟨[.lst e ((List.range len).map fun i=>(g i).2) ((List.range (m - len)).map fun j=>(g (len+j)).2)],?_,.one ?_ rfl⟩
      . simp only[TySs,TyS,and_true]
        refine⟨_,_,rfl,by simp;omega,fun r hr=>?_⟩
        obtain⟨i,hi⟩:=List.getElem?_of_mem hr
        obtain⟨h1,rfl⟩:=hat i r hi
        exact (hg i h1).2.1
      . have hres:=RI.lst (sz:=szOf T) (V:=heapV w) e ((List.range len).map fun i=>(g i).2) ((List.range (m - len)).map fun j=>(g (len+j)).2) (some a) a m (fun i j=>(g i).1.getD j undef)
          (by simp;omega) hcm (fun _=>rfl) (fun hno=>by cases hno)
          (fun i row hr=>by
           obtain⟨h1,rfl⟩:=hat i row hr
           rw[<- (hg i h1).2.2.1,(hcell i h1).1])
          (fun i row j d hr hd=>by
           obtain⟨h1,rfl⟩:=hat i row hr
           have hj:j<(g i).1.length:=by rw[(hg i h1).2.2.1];exact (List.getElem?_eq_some_iff.1 hd).1
           have h2:=(hcell i h1).2 j (by rw[<- (hcell i h1).1];exact hj)
           have hv:(g i).1[j]? = some ((g i).1.getD j undef):=by simp[List.getD,List.getElem?_eq_getElem hj]
           refine⟨?_,((hg i h1).2.2.2 j _ d hv hd).2⟩
           show w.cell? _=_
           rw[<- add_add,h2,hv])
          (fun i row j d hr hd=>by
           obtain⟨h1,rfl⟩:=hat i row hr
           have hj:j<(g i).1.length:=by rw[(hg i h1).2.2.1];exact (List.getElem?_eq_some_iff.1 hd).1
           have hv:(g i).1[j]? = some ((g i).1.getD j undef):=by simp[List.getD,List.getElem?_eq_getElem hj]
           exact ((hg i h1).2.2.2 j _ d hv hd).1)
        simpa using hres
   | struct fs=>
    simp only[shpC,ht] at hok
    obtain⟨hok,hs⟩:=lenIs_some hok
    obtain⟨fa,hu,hfa⟩:=hG
    obtain⟨xs,n,_,rfl,hl,hxl,hx⟩:=DataW.trod_struct hu h
    have hc:P.cellsOf t=s:=by
     obtain⟨i,z',h1,h2,_⟩:=(hT t _ ht).info
     simp[Program.cellsOf,h1,h2]
    have hfl:fs.length=fa.size:=by rw[<- hfa];simp
    obtain⟨row,h1,h2⟩:=fields_ri (fun t cs x l a b c=>trod_ri hT B hBm f n t cs x l a b c) hT cs fs 0 xs l hok (by
        rcases hB with hB|hB
        . exact .inl hB
        . right;simp only[Rows.uptoBulk] at hB;omega) (by rw[hxl,hfl]) (fun i p hp=>by
        rw[<- hfa] at hp
        simp only[List.getElem?_map,Option.map_eq_some_iff] at hp
        obtain⟨fd,h3,rfl⟩:=hp
        exact hx i fd (by simpa using h3)) (by rw[hl,hc,hs,Nat.zero_add])
    exact⟨row,h1,by simpa using h2⟩
   | array n e=>simp[shpC,ht] at hok
   | ptr e=>simp[shpC,ht] at hok
   | other=>simp[shpC,ht] at hok
end
end Go.Vx
namespace Go.Vx
open Go.RowKit Go.ChangeShapes Go.WideShapes
open Go.Proofs.YtaiondckookpiaaDoor (Rows.uptoBulk Rows.uptoBulkAll)
def shapes(T:Tab)(f:Nat):List TypeId->Option (List (List Shp))
 | []=>some []
 | t :: ts=>match shpC T f t,shapes T f ts with|some l,some r=>some (l :: r)|_,_=>none
def TyAs(T:Tab)(B:Nat):List TypeId->List (List Shp)->List D->Prop
 | [],[],[]=>True
 | t :: ts,l :: ls,x :: xs=>TyA T B t l x/\TyAs T B ts ls xs
 | _,_,_=>False
section
variable {H : Type} {enc : TypeId × Value → H} {P : Program} {T : Tab} {w : World}
theorem arg_ri(hT:TOk P T){B:Nat}(hBm:B<=maxLen){f base:Nat}{r:Reach}{t:TypeId}{v:Value}{d:DataW H}{ps:List MemPlace}{l:List Shp}(hs:shpC T f t=some l)(hB:B=maxLen\/Rows.uptoBulk d<=B)
    (hv:Value.okWide P w r base t v)(h:DataW.Trod enc P w 0 (fun _=>true) true t v d ps):∃ x,TyA T B t l x/\RI (szOf T) (heapV w) v x:=by
 obtain⟨k,hk⟩:=h
 obtain⟨row,h1,h2⟩:=trod_ri hT B hBm f k t _ _ l hs hB hk
 obtain⟨hz,ti,ht⟩:=shpC_len hs
 obtain⟨s,b,kd,z⟩:=ti
 have hG:=(hT t _ ht).kind
 have one:∀ u,v=u->u.cells=#[u]->TyA T B t l=(fun x=>TySs B l [x])->∃ x,TyA T B t l x/\RI (szOf T) (heapV w) v x:=by
  rintro u rfl hu he
  rw[hu] at h2
  obtain⟨h3,h4⟩:=h2
  match row,h3 with
  | [x],_=>exact⟨x,by rw[he];exact h1,(h4 0 v x rfl rfl).1⟩
 cases kd with
 | bool=>obtain⟨u,rfl⟩:=okWide_bool hG hv;exact one _ rfl rfl (by funext x;simp[TyA,ht])
 | int kk=>obtain⟨u,rfl⟩:=okWide_int hG hv;exact one _ rfl rfl (by funext x;simp[TyA,ht])
 | str=>obtain⟨u,rfl⟩:=okWide_string hG hv;exact one _ rfl rfl (by funext x;simp[TyA,ht])
 | slice e=>obtain⟨a,m,n,rfl⟩:=okWide_slice hG hv;exact one _ rfl rfl (by funext x;simp[TyA,ht])
 | struct fs=>
  obtain⟨fa,hu,_⟩:=hG
  obtain⟨cs,rfl,_⟩:=okWide_struct hu hv
  refine⟨.agg row,by simp only[TyA,ht];exact⟨row,rfl,h1⟩,?_⟩
  simp only[Value.cells] at h2
  refine RI.agg row cs (by simpa using h2.1) (fun u hu=>?_) (fun j u d a b=>(h2.2 j u d (by simpa using a) b).1)
  obtain⟨j,hj⟩:=List.getElem?_of_mem hu
  have hl:j<row.length:=by rw[<- h2.1];exact (List.getElem?_eq_some_iff.1 hj).1
  exact (h2.2 j u _ hj (List.getElem?_eq_getElem hl)).2
 | array n e=>cases f with|zero=>simp[shpC] at hs|succ f=>simp[shpC,ht] at hs
 | ptr e=>cases f with|zero=>simp[shpC] at hs|succ f=>simp[shpC,ht] at hs
 | other=>cases f with|zero=>simp[shpC] at hs|succ f=>simp[shpC,ht] at hs
theorem args_ri(hT:TOk P T){B:Nat}(hBm:B<=maxLen){f base:Nat}{r:Reach}:∀ (ts:List TypeId) (ls:List (List Shp)) (vs:List Value) (ds:List (DataW H)) (ps:List MemPlace),shapes T f ts=some ls ->
    (B=maxLen\/Rows.uptoBulkAll ds<=B)->(∀ (j:Nat) t v,ts[j]? = some t->vs[j]? = some v->Value.okWide P w r base t v)->DataW.TrodAll enc P w 0 (fun _=>true) true ts vs ds ps ->
    ∃ xs,TyAs T B ts ls xs/\vs.length=xs.length/\∀ (j:Nat) v x,vs[j]? = some v->xs[j]? = some x->RI (szOf T) (heapV w) v x
 | [],ls,vs,ds,ps,hs,_,_,h=>by
  obtain⟨rfl,rfl,rfl⟩:=trodAll_nil h
  cases hs
  exact⟨[],trivial,rfl,fun j v x h=>by simp at h⟩
 | t :: ts,ls,vs,ds,ps,hs,hB,hv,h=>by
  obtain⟨v,vs',d,ds',p,q,rfl,rfl,rfl,h1,h2⟩:=trodAll_cons h
  simp only[shapes] at hs
  split at hs
  case h_2=>cases hs
  rename_i l r h3 h4
  cases hs
  obtain⟨x,hx1,hx2⟩:=arg_ri hT hBm h3 (by
   rcases hB with hB|hB
   . exact .inl hB
   . right;simp only[Rows.uptoBulkAll] at hB;omega) (hv 0 t v rfl rfl) h1
  obtain⟨xs,hy1,hy2,hy3⟩:=args_ri hT hBm ts r vs' ds' q h4 (by
   rcases hB with hB|hB
   . exact .inl hB
   . right;simp only[Rows.uptoBulkAll] at hB;omega) (fun j t' v' a b=>hv (j+1) t' v' (by simpa using a) (by simpa using b)) h2
  refine⟨x :: xs,⟨hx1,hy1⟩,by simp[hy2],fun j v' x' a b=>?_⟩
  cases j with
  | zero=>simp at a b;subst a b;exact hx2
  | succ j=>exact hy3 j v' x' (by simpa using a) (by simpa using b)
theorem stays(hl:laidOutB P=true){W W':World}(hb:Below W.heap.size W W'){sp:Nat->Bool}:∀ (ts:List TypeId) (vs:List Value) (ds:List (DataW H)) (ps:List MemPlace),(∀ t ∈ ts,P.readableRec t=true/\t<P.types.size) ->
    (∀ p ∈ ps,p.block<W.heap.size)->(∀ p ∈ ps,sp p.block=true)->DataW.TrodAll enc P W 0 (fun _=>true) true ts vs ds ps->DataW.TrodAll enc P W' 0 sp true ts vs ds ps
 | [],vs,ds,ps,_,_,_,h=>by
  obtain⟨rfl,rfl,rfl⟩:=trodAll_nil h
  exact trodAll_mk0
 | t :: ts,vs,ds,ps,ht,h1,h2,h=>by
  obtain⟨v,vs',d,ds',p,q,rfl,rfl,rfl,h3,h4⟩:=trodAll_cons h
  refine⟨p,q,WideElems.Trod_stays hl (ht t (by simp)).1 (ht t (by simp)).2 h3 (fun x hx=>hb.same (h1 x (by simp[hx]))) (fun x hx=>h2 x (by simp[hx])),
   stays hl hb ts vs' ds' q (fun t' hm=>ht t' (by simp[hm])) (fun x hx=>h1 x (by simp[hx])) (fun x hx=>h2 x (by simp[hx])) h4,rfl⟩
theorem trod_len:∀ {ts:List TypeId} {vs:List Value} {ds:List (DataW H)} {ps:List MemPlace},DataW.TrodAll enc P w 0 (fun _=>true) true ts vs ds ps->ds.length=ts.length
 | [],_,_,_,h=>by obtain⟨rfl,rfl,rfl⟩:=trodAll_nil h;rfl
 | _ :: _,_,_,_,h=>by
  obtain⟨v,vs',d,ds',p,q,rfl,rfl,rfl,_,h4⟩:=trodAll_cons h
  simp[trod_len h4]
theorem law_calls(hT:TOk P T){B:Nat}(hBm:B<=maxLen){f:FuncId}{fn:Func}{s:ChangeSpec}{ls:List (List Shp)}{n:Nat}{tb:TypeId}{ts:List TypeId}(hp:fn.params.toList=ts)(hr:fn.resultTypes=#[tb])(htb:P.underlying tb=some .bool)
    (hsv:s.vars=[])(hs:∀ (ds:List (DataW H)),ds.length=ts.length->s.fn H ds={ results:=[.lit (.bool true)],args:=ds })
    (hl:laidOutB P=true)(hts:∀ t ∈ ts,P.readableRec t=true/\t<P.types.size)(hsh:shapes T n ts=some ls)
    (hlaw:∀ xs,TyAs T B ts ls xs->FSpec P T f xs (fun d _=>d = .b True))
    (W:World)(base:Nat)(args:Array Value)(ds gs:List (DataW H))(before:List MemPlace)
    (hval:∀ (j:Nat) t v,fn.params[j]? = some t->args[j]? = some v->Value.okWide P W .any base t v)
    (hW:DataW.Whole enc P fn.params.toList s.vars false W args.toList ds gs before)(hB:B=maxLen\/Rows.uptoBulkAll (ds++gs)<=B)
    (hgl:GlOk W:=by exact⟨by intro p v hp;unfold glV glD at hp;split at hp<;>(cases hp),by intro g cs hg;unfold glD at hg;split at hg<;>(cases hg)⟩) :
    Calls P f args W fun e W'=>∃ v,e = .returned v/\s.post enc P fn false true false false W args v W':=by
 have hlt:=hW.lt
 obtain⟨p,q,hA,hV,rfl,hfz,hnd⟩:=id hW
 rw[hsv] at hV
 obtain⟨rfl,rfl⟩:=trodVars_none hV
 simp only[List.append_nil] at hlt hB hfz
 rw[hp] at hA
 obtain⟨xs,h1,h2,h3⟩:=args_ri hT hBm ts ls args.toList ds p hsh hB (fun j t v a b=>hval j t v (by rw[<- hp] at a;simpa using a) (by simpa using b)) hA
 have hdl:ds.length=ts.length:=trod_len hA
 refine ((hlaw xs h1).run (heapV W) W args ⟨hgl,fun _ _ h=>h⟩ (by simpa using h2) (fun j v d a b=>h3 j v d (by simpa using a) b)).mono fun e W' hx=>?_
 obtain⟨V',ω,row,v,d,rfl,hd,hRS,hres⟩:=hx
 subst hd
 obtain⟨b,rfl,hbt⟩:=hRS.bool
 have hbt:b=true:=hbt.2 trivial
 subst hbt
 refine⟨_,rfl,?_⟩
 have hb:=hres.below
 have hargs:∀ sp:Nat->Bool,(∀ x ∈ p,sp x.block=true)->DataW.TrodAll enc P W' 0 sp true fn.params.toList args.toList ds p:=fun sp hsp=>by
  rw[hp];exact stays hl hb ts args.toList ds p hts hlt hsp hA
 have hrs:∀ (b:Nat) (sp:Nat->Bool) (hd:Bool),DataW.TrodAll enc P W' b sp hd fn.resultTypes.toList ((Value.bool true).resultList fn.resultTypes.size) [.lit (.bool true)] []:=fun b sp hd=>by
  rw[hr]
  exact trodAll_mk1 (shut_bool htb _)
 have hsf:=hs ds hdl
 refine⟨ds,[],p,[],p,[],by simpa using hW,?_,?_,?_,?_,?_⟩
 . rw[List.append_nil,hsf];exact hrs _ _ _
 . rw[List.append_nil,hsf];exact hargs _ fun x hx=>by simpa using hlt x hx
 . rw[hsv,List.append_nil,hsf];exact rfl
 . exact World.keptBut_mono (fun x hx=>⟨hx,by simpa using hx⟩) (hb.frame (· ∈ p))
 . intro _
   refine⟨?_,?_⟩
   . exact ok_one hr rfl (okWide_bool_mk htb _)
   . refine⟨_,[],([]++p)++[],⟨[]++p,[],trodAll_append (hargs _ (fun _ _=>rfl)) (hrs 0 _ _),?_,rfl,?_,fun h=>by cases h⟩,fun x hx _=>by simpa using hx⟩
     . rw[hsv];rfl
     . intro b off hx
       have hin:MemPlace.cell b off ∈ p:=by simpa using hx
       rw[hb.frozen (hlt _ hin)]
       exact hfz b off hin
end
end Go.Vx
namespace Go.Vx
open Go.RowKit
def envCat:List Nat->List D->List (Nat × D)->List (Nat × D)
 | t :: ts,d :: ds,e=>(t,d) :: envCat ts ds e
 | _,_,e=>e
def envCatK:List Nat->List D->List (Nat × D)->(List (Nat × D)->Prop)->Prop
 | t :: ts,d :: ds,e,K=>envCatK ts ds e fun e=>K ((t,d) :: e)
 | _,_,e,K=>K e
theorem envCatK_eq:∀ (ts:List Nat) (ds:List D) (e:List (Nat × D)) (K:List (Nat × D)->Prop),envCatK ts ds e K=K (envCat ts ds e)
 | [],_,_,_=>by simp[envCatK,envCat]
 | _ :: _,[],_,_=>by simp[envCatK,envCat]
 | t :: ts,d :: ds,e,K=>by simp only[envCatK,envCat];exact envCatK_eq ts ds e _
def catL:List Nat->List Nat->List Nat
 | [],m=>m
 | t :: l,m=>t :: catL l m
section
variable {P : Program} {T : Tab} {s : St}
theorem keepE_some{k kb:Nat}{env:List (Nat × D)}:∀ (L:List Nat) (K:List (Nat × D)->Prop),keepE k kb env L K->∃ e,K e
 | [],K,h=>⟨_,h⟩
 | t :: ts,K,h=>by
  simp only[keepE,D.force_eq,boolP_iff] at h
  exact let ⟨e,he⟩:=keepE_some ts _ h.2;⟨_,he⟩
theorem keepK_some{L:List Nat}{k kb:Nat}{K:St->Prop}(h:keepK L k kb s K):∃ s',K s':=by
 obtain⟨env,box,row,n⟩:=s
 simp only[keepK] at h
 obtain⟨e,h⟩:=keepE_some _ _ h
 obtain⟨h,_⟩:=takeK_iff h
 rw[boolP_iff] at h
 obtain⟨h,_⟩:=takeK_iff h.2
 exact⟨_,h⟩
theorem Ok.loopU{c:Code}{Q:Exit->St->Prop}{ι:Type}(L Cs:List Nat)(k kb:Nat)(C:ι->List D)(B:ι->List (List D)->List (List D))(R:ι->Rows->Rows)(I:ι->Prop)(m:ι->Nat)(x0:ι)(h0:I x0)
    (h:keepK L k kb s fun s0=>match s0 with
     | ⟨env,box,row,n⟩=>(keepK (catL Cs L) k kb s fun s1=>s1=⟨envCat Cs (C x0) env,B x0 box,R x0 row,n⟩) /\
      ∀ x,I x->envCatK Cs (C x) env fun env'=>Ok P T c (thenQ (fun s'=>∃ x',m x' < m x/\I x'/\keepK (catL Cs L) k kb s' fun s1=>s1=⟨envCat Cs (C x') env,B x' box,R x' row,n⟩) Q) ⟨env',B x box,R x row,n⟩):Ok P T (.loop c) Q s:=by
 obtain⟨⟨env,box,row,n⟩,h1,h2⟩:=keepK_some h
 exact Ok.loopK (catL Cs L) k kb (fun x=>⟨envCat Cs (C x) env,B x box,R x row,n⟩) I m x0 h0 h1 fun x hx=>by
  have:=h2 x hx
  rwa [envCatK_eq] at this
end
theorem Ok.pub{P:Program}{T:Tab}{s:St}{c:Code}{Q:Exit->St->Prop}(r:Nat)(h:pubK r s [] fun _ s'=>Ok P T c Q s'):Ok P T c Q s:=by
 refine⟨fun w0 V0 V μ ω a w hS=>?_⟩
 obtain⟨V',ds',s',hk,_,hS',_⟩:=pubK_sound (vs:=[]) hS ⟨rfl,fun j v d h=>by simp at h⟩ h
 exact hk.run w0 V0 V' μ ω a w hS'
theorem FSpec.tt{P:Program}{T:Tab}{f:FuncId}{ds:List D}{p:Prop}(h:FSpec P T f ds (fun d _=>d = .b p))(hp:p):FSpec P T f ds (fun d _=>d = .tt):=by
 refine⟨h.call,fun V w args hV hl hR=>(h.run V w args hV hl hR).mono ?_⟩
 rintro e w' ⟨V',ω,row,v,d,rfl,rfl,hRS,hres⟩
 obtain⟨x,rfl,hx⟩:=hRS.bool
 obtain rfl:x=true:=hx.2 hp
 exact⟨V',ω,row,_,_,rfl,rfl,.imm _ _ .tt,hres⟩
theorem FSpec.ff{P:Program}{T:Tab}{f:FuncId}{ds:List D}{p:Prop}(h:FSpec P T f ds (fun d _=>d = .b p))(hp:¬ p):FSpec P T f ds (fun d _=>d = .ff):=by
 refine⟨h.call,fun V w args hV hl hR=>(h.run V w args hV hl hR).mono ?_⟩
 rintro e w' ⟨V',ω,row,v,d,rfl,rfl,hRS,hres⟩
 obtain⟨x,rfl,hx⟩:=hRS.bool
 obtain rfl:x=false:=by cases x with|false=>rfl|true=>exact absurd (hx.1 rfl) hp
 exact⟨V',ω,row,_,_,rfl,rfl,.imm _ _ .ff,hres⟩
theorem ix{α:Type}{l:List α}{f:α->List D}{K:List D->Prop}(n:Nat){a:α}(ha:l[n]? = some a)(h:K (f a)):0<=(n:Int)/\∃ row,(l.map f)[((n:Nat):Int).toNat]? = some row/\K row:=
 ⟨by omega,_,by simp[ha],h⟩
theorem rd{α:Type}{l:List α}{f:α->List D}{K:List D->Prop}{e e':Nat}{n:Nat}{a:α}(he:e=e')(ha:l[n]? = some a)(h:K (f a)):e=e'/\∃ row,(l.map f)[n]? = some row/\K row:=
 ⟨he,_,by simp[ha],h⟩
theorem st{α:Type}{l:List α}{f:α->List D}{n off:Nat}{ds:List D}{K:List (List D)->Prop}{a:α}(a':α)(ha:l[n]? = some a)(hl:off+ds.length<=(f a).length)(he:setCells (f a) off ds=f a')
    (h:K ((l.set n a').map f)):∃ rw,(l.map f)[n]? = some rw/\off+ds.length<=rw.length/\∃ xs',xs'=(l.map f).set n (setCells rw off ds)/\K xs':=
 ⟨f a,by simp[ha],hl,_,rfl,by rw[he,<- List.map_set];exact h⟩
theorem take_all{α:Type}(f:α->List D)(l:List α):(l.map f).take l.length=l.map f:=List.take_of_length_le (by simp)
theorem toNat_cast(n:Nat):((n:Nat):Int).toNat=n:=rfl
end Go.Vx
namespace Go.Vx
open Go.RowKit
theorem ss_cons{B:Nat}{s:Shp}{ss:List Shp}{r:List D}(h:TySs B (s :: ss) r):∃ d ds,r=d :: ds/\TySs B [s] [d]/\TySs B ss ds:=by
 cases r with
 | nil=>simp[TySs] at h
 | cons d ds=>simp only[TySs] at h;exact⟨d,ds,rfl,by simpa only[TySs,and_true] using h.1,h.2⟩
theorem ss_nil{B:Nat}{r:List D}(h:TySs B [] r):r=[]:=by
 cases r with
 | nil=>rfl
 | cons d ds=>simp[TySs] at h
theorem as_cons{T:Tab}{B:Nat}{t:TypeId}{ts:List TypeId}{l:List Shp}{ls:List (List Shp)}{xs:List D}(h:TyAs T B (t :: ts) (l :: ls) xs):∃ x r,xs=x :: r/\TyA T B t l x/\TyAs T B ts ls r:=by
 cases xs with
 | nil=>exact h.elim
 | cons x r=>exact⟨x,r,rfl,h.1,h.2⟩
theorem as_nil{T:Tab}{B:Nat}{xs:List D}(h:TyAs T B [] [] xs):xs=[]:=by
 cases xs with
 | nil=>rfl
 | cons x r=>exact h.elim
def isSt:Option TI->Bool|some ⟨_,_,.struct _,_⟩=>true|_=>false
theorem leaf{T:Tab}{B:Nat}{t:TypeId}{l:List Shp}{x:D}(h:TyA T B t l x)(ht:isSt (T t)=false):TySs B l [x]:=by
 unfold TyA at h
 split at h
 . rename_i h1;rw[h1] at ht;cases ht
 . exact h
theorem list_of{α:Type}{f:α->List D}{p:α->Prop}:∀ {rows:List (List D)},(∀ r ∈ rows,∃ a,r=f a/\p a)->∃ l:List α,rows=l.map f/\∀ a ∈ l,p a
 | [],_=>⟨[],rfl,by simp⟩
 | r :: rows,h=>by
  obtain⟨a,rfl,ha⟩:=h r (by simp)
  obtain⟨l,rfl,hl⟩:=list_of (rows:=rows) fun r hr=>h r (by simp[hr])
  exact⟨a :: l,rfl,by simpa using ⟨ha,hl⟩⟩
theorem lst_of{B:Nat}{α:Type}{f:α->List D}{p:α->Prop}{e:TypeId}{l:List Shp}{x:D}(h:TySs B [.slice e l] [x])(hf:∀ r,TySs B l r->∃ a,r=f a/\p a) :
    ∃ (us:List α) (room:List α),x = .lst e (us.map f) (room.map f)/\us.length+room.length<=B/\(∀ a ∈ us,p a)/\∀ a ∈ room,p a:=by
 simp only[TySs,TyS,and_true] at h
 obtain⟨rows,room,rfl,hl,hr⟩:=h
 obtain⟨us,rfl,h1⟩:=list_of (f:=f) (p:=p) (rows:=rows) fun r h=>hf r (hr r (by simp[h]))
 obtain⟨bs,rfl,h2⟩:=list_of (f:=f) (p:=p) (rows:=room) fun r h=>hf r (hr r (by simp[h]))
 exact⟨us,bs,rfl,by simpa using hl,h1,h2⟩
theorem int_of{B:Nat}{k:IntKind}{x:D}(h:TySs B [.int k] [x]):∃ n,x = .i k n/\(Lit.int k n).wf=true:=by
 simpa only[TySs,TyS,and_true] using h
theorem str_of{B:Nat}{x:D}(h:TySs B [.str] [x]):∃ l,x = .s l/\l.length<=B:=by
 simpa only[TySs,TyS,and_true] using h
theorem ints_of{B:Nat}{k:IntKind}{e:TypeId}{x:D}(h:TySs B [.slice e [.int k]] [x]):∃ (us:List Int) (room:List Int),x = .lst e (us.map fun n=>[.i k n]) (room.map fun n=>[.i k n])/\us.length+room.length<=B /\
    (∀ n ∈ us,(Lit.int k n).wf=true)/\∀ n ∈ room,(Lit.int k n).wf=true:=
 lst_of h fun r hr=>by
  obtain⟨x,_,rfl,h1,h2⟩:=ss_cons hr
  obtain rfl:=ss_nil h2
  obtain⟨n,rfl,h⟩:=int_of h1
  exact⟨n,rfl,h⟩
theorem wf64{n:Int}(h:(Lit.int .i64 n).wf=true):-9223372036854775808<=n/\n<=9223372036854775807:=by
 simpa[Lit.wf,IntKind.min,IntKind.max,IntKind.signed,IntKind.bits] using h
end Go.Vx
namespace Go.Proofs.YtaiondckookpiaaDoor
open Go
abbrev Str:=List UInt8
def meet1(a b:UInt8):Option UInt8:=if a=120 then some b else if b=120\/b=a then some a else none
def meetL:Str->Str->Option Str
 | [],[]=>some []
 | a :: c,b :: d=>match meet1 a b,meetL c d with
  | some x,some r=>some (x :: r)
  | _,_=>none
 | _,_=>none
def meetT(c d:Str):Option Str:=if c=[] then none else meetL c d
def inL:Str->Str->Prop
 | [],[]=>True
 | a :: c,b :: d=>(b=120\/b=a)/\inL c d
 | _,_=>False
def inT(c d:Str):Prop:=c ≠ []/\inL c d
theorem inL_refl:∀ c:Str,inL c c
 | []=>trivial
 | _ :: c=>⟨.inr rfl,inL_refl c⟩
theorem inL_trans:∀ {c d e:Str},inL c d->inL d e->inL c e
 | [],[],[],_,_=>trivial
 | [],[],_ :: _,_,h=>h.elim
 | [],_ :: _,_,h,_=>h.elim
 | _ :: _,[],_,h,_=>h.elim
 | _ :: _,_ :: _,[],_,h=>h.elim
 | a :: c,b :: d,x :: e,h,k=>⟨by
     rcases k.1 with k1|k1
     . exact .inl k1
     . rcases h.1 with h1|h1
       . exact .inl (by rw[k1,h1])
       . exact .inr (by rw[k1,h1]),inL_trans h.2 k.2⟩
theorem inL_antisymm:∀ {c d:Str},inL c d->inL d c->c=d
 | [],[],_,_=>rfl
 | [],_ :: _,h,_=>h.elim
 | _ :: _,[],h,_=>h.elim
 | a :: c,b :: d,h,k=>by
  rw[inL_antisymm h.2 k.2]
  rcases h.1 with h1|h1
  . rcases k.1 with k1|k1
    . rw[h1,k1]
    . rw[k1]
  . rw[h1]
theorem inL_len:∀ {c d:Str},inL c d->c.length=d.length
 | [],[],_=>rfl
 | [],_ :: _,h=>h.elim
 | _ :: _,[],h=>h.elim
 | _ :: _,_ :: _,h=>by simp[inL_len h.2]
theorem meetL_len:∀ {c d m:Str},meetL c d=some m->c.length=m.length/\d.length=m.length
 | [],[],m,h=>by cases h;exact⟨rfl,rfl⟩
 | [],_ :: _,_,h=>by cases h
 | _ :: _,[],_,h=>by cases h
 | a :: c,b :: d,m,h=>by
  unfold meetL at h
  cases h1:meet1 a b with
  | none=>rw[h1] at h;cases h
  | some x=>cases h2:meetL c d with
   | none=>rw[h1,h2] at h;cases h
   | some r=>
    rw[h1,h2] at h
    cases h
    have:=meetL_len h2
    simp[this.1,this.2]
theorem meetL_in:∀ {c d m:Str},meetL c d=some m->inL m c/\inL m d
 | [],[],m,h=>by cases h;exact⟨trivial,trivial⟩
 | [],_ :: _,_,h=>by cases h
 | _ :: _,[],_,h=>by cases h
 | a :: c,b :: d,m,h=>by
  unfold meetL at h
  cases h1:meet1 a b with
  | none=>rw[h1] at h;cases h
  | some x=>cases h2:meetL c d with
   | none=>rw[h1,h2] at h;cases h
   | some r=>
    rw[h1,h2] at h
    cases h
    have ih:=meetL_in h2
    unfold meet1 at h1
    split at h1
    . rename_i ha;cases h1;exact⟨⟨.inl ha,ih.1⟩,⟨.inr rfl,ih.2⟩⟩
    . split at h1
      . rename_i hb
        cases h1
        exact⟨⟨.inr rfl,ih.1⟩,⟨hb,ih.2⟩⟩
      . cases h1
theorem meetL_glb:∀ {e c d:Str},inL e c->inL e d->∃ m,meetL c d=some m/\inL e m
 | [],[],[],_,_=>⟨[],rfl,trivial⟩
 | [],_ :: _,_,h,_=>h.elim
 | [],[],_ :: _,_,h=>h.elim
 | _ :: _,[],_,h,_=>h.elim
 | _ :: _,_ :: _,[],_,h=>h.elim
 | x :: e,a :: c,b :: d,h,k=>by
  obtain⟨m,hm,hi⟩:=meetL_glb h.2 k.2
  unfold meetL
  rw[hm]
  by_cases ha:a=120
  . exact⟨b :: m,by simp[meet1,ha],k.1,hi⟩
  . have hax:a=x:=h.1.resolve_left ha
    have hb:b=120\/b=a:=by rw[hax];exact k.1
    exact⟨a :: m,by simp[meet1,ha,hb],.inr hax,hi⟩
theorem meetL_self{c d:Str}:meetL c d=some c ↔ inL c d:=by
 constructor
 . intro h;exact (meetL_in h).2
 . intro h
   obtain⟨m,hm,hi⟩:=meetL_glb (inL_refl c) h
   rw[hm,inL_antisymm hi (meetL_in hm).1]
theorem inT_trans{c d e:Str}(h:inT c d)(k:inT d e):inT c e:=⟨h.1,inL_trans h.2 k.2⟩
open Classical in
noncomputable def addG{α:Type}(R:α->α->Prop)(k:List α)(x:α):List α:=if ∃ y ∈ k,R x y then k else k.filter (fun y=>decide (¬ R y x))++[x]
noncomputable def grG{α:Type}(R:α->α->Prop)(l:List α):List α:=l.foldl (addG R) []
structure Anti{α:Type}(R:α->α->Prop)(l k:List α):Prop where
 sub:∀ x ∈ k,x ∈ l
 anti:k.Pairwise fun x y=>¬ R x y/\¬ R y x
 cov:∀ x ∈ l,∃ y ∈ k,R x y
open Classical in
theorem grG_anti{α:Type}{R:α->α->Prop}(ht:∀ x y z,R x y->R y z->R x z)(l:List α)(hr:∀ x ∈ l,R x x):Anti R l (grG R l):=by
 have go:∀ (l k l0:List α),(∀ x ∈ l,R x x)->Anti R l0 k->Anti R (l0++l) (l.foldl (addG R) k):=by
  intro l
  induction l with
  | nil=>intro k l0 _ h;simpa using h
  | cons x l ih=>
   intro k l0 hr h
   have hx:Anti R (l0++[x]) (addG R k x):=by
    unfold addG
    split
    . rename_i hh
      exact⟨fun y hy=>by simp[h.sub y hy],h.anti,fun y hy=>by
       rcases List.mem_append.1 hy with hy|hy
       . exact h.cov y hy
       . simp at hy;subst hy;exact hh⟩
    . rename_i hh
      refine⟨fun y hy=>?_,?_,fun y hy=>?_⟩
      . rcases List.mem_append.1 hy with hy|hy
        . simp[h.sub y (List.mem_filter.1 hy).1]
        . simp at hy;simp[hy]
      . rw[List.pairwise_append]
        refine⟨h.anti.filter _,by simp,fun a ha b hb=>?_⟩
        simp at hb
        subst hb
        obtain⟨h1,h2⟩:=List.mem_filter.1 ha
        exact⟨by simpa using h2,fun h3=>hh ⟨a,h1,h3⟩⟩
      . rcases List.mem_append.1 hy with hy|hy
        . obtain⟨z,hz,hyz⟩:=h.cov y hy
          by_cases hzx:R z x
          . exact⟨x,by simp,ht _ _ _ hyz hzx⟩
          . exact⟨z,by simp[hz,hzx],hyz⟩
        . simp at hy;subst hy;exact⟨y,by simp,hr y (by simp)⟩
   have:=ih (addG R k x) (l0++[x]) (fun y hy=>hr y (by simp[hy])) hx
   simpa[List.append_assoc] using this
 show Anti R l (l.foldl (addG R) [])
 simpa using go l [] [] hr ⟨by simp,by simp,by simp⟩
theorem Anti.mem_iff{α:Type}{R:α->α->Prop}(ht:∀ x y z,R x y->R y z->R x z)(ha:∀ x y,R x y->R y x->x=y){l k k':List α}(h:Anti R l k)(h':Anti R l k')(x:α):x ∈ k->x ∈ k':=by
 intro hx
 obtain⟨y,hy,hxy⟩:=h'.cov x (h.sub x hx)
 obtain⟨z,hz,hyz⟩:=h.cov y (h'.sub y hy)
 have hxz:x=z:=by
  apply Classical.byContradiction
  intro hne
  have hR:=ht _ _ _ hxy hyz
  obtain⟨i,hi,rfl⟩:=List.getElem_of_mem hx
  obtain⟨j,hj,rfl⟩:=List.getElem_of_mem hz
  have hij:i ≠ j:=fun e=>hne (by subst e;rfl)
  rcases Nat.lt_or_gt_of_ne hij with hlt|hgt
  . exact (List.pairwise_iff_getElem.1 h.anti i j hi hj hlt).1 hR
  . exact (List.pairwise_iff_getElem.1 h.anti j i hj hi hgt).2 hR
 subst hxz
 rw[ha _ _ hxy hyz]
 exact hy
theorem Anti.nodup{α:Type}{R:α->α->Prop}(hr:∀ x,R x x){l k:List α}(h:Anti R l k):k.Nodup:=
 h.anti.imp fun {a b} hab e=>hab.1 (by rw[e];exact hr b)
theorem Anti.perm{α:Type}{R:α->α->Prop}(hr:∀ x,R x x)(ht:∀ x y z,R x y->R y z->R x z)(ha:∀ x y,R x y->R y x->x=y){l k k':List α}(h:Anti R l k)(h':Anti R l k'):k.Perm k':=
 (List.perm_ext_iff_of_nodup (h.nodup hr) (h'.nodup hr)).2 fun x=>⟨h.mem_iff ht ha h' x,h'.mem_iff ht ha h x⟩
theorem sorted_uniq{α:Type}{L:α->α->Prop}(hirr:∀ x,¬ L x x)(htr:∀ x y z,L x y->L y z->L x z){k k':List α}(hp:k.Perm k')(h:k.Pairwise L)(h':k'.Pairwise L):k=k':=
 hp.eq_of_pairwise (le:=L) (fun _ _ _ _ hab hba=>absurd (htr _ _ _ hab hba) (hirr _)) h h'
open Classical in
noncomputable def insG{α:Type}(L:α->α->Prop)(c:α):List α->List α
 | []=>[c]
 | x :: r=>if L c x then c :: x :: r else x :: insG L c r
open Classical in
noncomputable def putG{α:Type}(R L:α->α->Prop)(k:List α)(c:α):List α:=if ∃ y ∈ k,R c y then k else insG L c (k.filter fun x=>decide (¬ R x c))
theorem insG_perm{α:Type}(L:α->α->Prop)(c:α):∀ l:List α,(insG L c l).Perm (c :: l)
 | []=>.refl _
 | x :: r=>by
  unfold insG
  split
  . exact .refl _
  . exact ((insG_perm L c r).cons x).trans (.swap c x r)
theorem insG_sorted{α:Type}{L:α->α->Prop}(ht:∀ x y z,L x y->L y z->L x z)(c:α):∀ l:List α,(∀ x ∈ l,L c x\/L x c)->l.Pairwise L->(insG L c l).Pairwise L
 | [],_,_=>by simp[insG]
 | x :: r,hc,h=>by
  unfold insG
  have h2:=List.pairwise_cons.1 h
  split
  . rename_i hcx
    exact List.pairwise_cons.2 ⟨fun y hy=>by
     rcases List.mem_cons.1 hy with rfl|hy
     . exact hcx
     . exact ht _ _ _ hcx (h2.1 y hy),h⟩
  . rename_i hcx
    have hxc:L x c:=(hc x (by simp)).resolve_left hcx
    refine List.pairwise_cons.2 ⟨fun y hy=>?_,insG_sorted ht c r (fun y hy=>hc y (by simp[hy])) h2.2⟩
    rcases List.mem_cons.1 ((insG_perm L c r).mem_iff.1 hy) with rfl|hy
    . exact hxc
    . exact h2.1 y hy
open Classical in
theorem putG_fold{α:Type}{R L:α->α->Prop}(hr:∀ x,R x x)(ht:∀ x y z,R x y->R y z->R x z)(lt:∀ x y z,L x y->L y z->L x z)(tot:∀ x y,x ≠ y->L x y\/L y x)(l:List α) :
    Anti R l (l.foldl (putG R L) [])/\(l.foldl (putG R L) []).Pairwise L:=by
 have go:∀ (l k l0:List α),Anti R l0 k->k.Pairwise L->Anti R (l0++l) (l.foldl (putG R L) k)/\(l.foldl (putG R L) k).Pairwise L:=by
  intro l
  induction l with
  | nil=>intro k l0 h h2;exact⟨by simpa using h,h2⟩
  | cons x l ih=>
   intro k l0 h h2
   have hx:Anti R (l0++[x]) (putG R L k x)/\(putG R L k x).Pairwise L:=by
    unfold putG
    split
    . rename_i hh
      exact⟨⟨fun y hy=>by simp[h.sub y hy],h.anti,fun y hy=>by
       rcases List.mem_append.1 hy with hy|hy
       . exact h.cov y hy
       . simp at hy;subst hy;exact hh⟩,h2⟩
    . rename_i hh
      have hp:=insG_perm L x (k.filter fun y=>decide (¬ R y x))
      have hsub:∀ y ∈ k.filter (fun y=>decide (¬ R y x)),y ∈ k/\¬ R y x:=fun y hy=>by
       obtain⟨h1,h2⟩:=List.mem_filter.1 hy
       exact⟨h1,by simpa using h2⟩
      refine⟨⟨fun y hy=>?_,?_,fun y hy=>?_⟩,?_⟩
      . rcases List.mem_cons.1 (hp.mem_iff.1 hy) with rfl|hy
        . simp
        . simp[h.sub y (hsub y hy).1]
      . refine (hp.pairwise_iff (fun {a b} hab=>⟨hab.2,hab.1⟩)).2 (List.pairwise_cons.2 ⟨fun y hy=>⟨fun h3=>hh ⟨y,(hsub y hy).1,h3⟩,(hsub y hy).2⟩,h.anti.filter _⟩)
      . rcases List.mem_append.1 hy with hy|hy
        . obtain⟨z,hz,hyz⟩:=h.cov y hy
          by_cases hzx:R z x
          . exact⟨x,hp.mem_iff.2 (by simp),ht _ _ _ hyz hzx⟩
          . exact⟨z,hp.mem_iff.2 (by simp[hz,hzx]),hyz⟩
        . simp at hy;subst hy;exact⟨y,hp.mem_iff.2 (by simp),hr y⟩
      . refine insG_sorted lt x _ (fun y hy=>tot x y fun e=>?_) (h2.filter _)
        subst e
        exact (hsub x hy).2 (hr x)
   have:=ih (putG R L k x) (l0++[x]) hx.1 hx.2
   simpa[List.append_assoc] using this
 simpa using go l [] [] ⟨by simp,by simp,by simp⟩ (by simp)
theorem sorted_eq_put{α:Type}{R L:α->α->Prop}(hr:∀ x,R x x)(ht:∀ x y z,R x y->R y z->R x z)(ha:∀ x y,R x y->R y x->x=y)(hirr:∀ x,¬ L x x)(lt:∀ x y z,L x y->L y z->L x z)(tot:∀ x y,x ≠ y->L x y\/L y x)
    {l k:List α}(hp:k.Perm (grG R l))(hs:k.Pairwise L):k=l.foldl (putG R L) []:=by
 have h:=putG_fold hr ht lt tot l
 exact sorted_uniq hirr lt (hp.trans ((grG_anti ht l fun x _=>hr x).perm hr ht ha h.1)) hs h.2
theorem bl_eq:∀ (x y:Str),Op.bytesLess x y=true ↔ x<y
 | [],[]=>by simp[Op.bytesLess]
 | _ :: _,[]=>by simp[Op.bytesLess]
 | [],_ :: _=>by simp[Op.bytesLess]
 | a :: x,b :: y=>by
  simp only[Op.bytesLess,Bool.or_eq_true,Bool.and_eq_true,decide_eq_true_eq,beq_iff_eq,bl_eq x y,List.cons_lt_cons_iff]
theorem bl_irrefl(x:Str):¬ Op.bytesLess x x=true:=by
 rw[bl_eq];exact List.lt_irrefl x
theorem bl_trans{x y z:Str}(h:Op.bytesLess x y=true)(k:Op.bytesLess y z=true):Op.bytesLess x z=true:=by
 rw[bl_eq] at *
 exact List.lt_trans h k
theorem bl_total{x y:Str}(h:x ≠ y):Op.bytesLess x y=true\/Op.bytesLess y x=true:=by
 rw[bl_eq,bl_eq]
 by_cases h1:x<y
 . exact .inl h1
 . right
   rcases List.le_iff_lt_or_eq.1 (List.not_lt.1 h1) with h2|h2
   . exact h2
   . exact absurd h2.symm h
theorem bl_append:∀ {x y A B:Str},x.length=y.length->(Op.bytesLess (x++A) (y++B)=true ↔ Op.bytesLess x y=true\/(x=y/\Op.bytesLess A B=true))
 | [],[],A,B,_=>by simp[Op.bytesLess]
 | [],_ :: _,_,_,h=>by simp at h
 | _ :: _,[],_,_,h=>by simp at h
 | a :: x,b :: y,A,B,h=>by
  have ih:=bl_append (x:=x) (y:=y) (A:=A) (B:=B) (by simpa using h)
  simp only[List.cons_append,Op.bytesLess,Bool.or_eq_true,Bool.and_eq_true,decide_eq_true_eq,beq_iff_eq,ih,List.cons.injEq]
  constructor
  . rintro (h1|⟨rfl,h1|⟨rfl,h1⟩⟩)
    . exact .inl (.inl h1)
    . exact .inl (.inr ⟨rfl,h1⟩)
    . exact .inr ⟨⟨rfl,rfl⟩,h1⟩
  . rintro ((h1|⟨rfl,h1⟩)|⟨⟨rfl,rfl⟩,h1⟩)
    . exact .inl h1
    . exact .inr ⟨rfl,.inl h1⟩
    . exact .inr ⟨rfl,.inr ⟨rfl,h1⟩⟩
def lexL:List Str->List Str->Prop
 | _,[]=>False
 | [],_ :: _=>True
 | x :: a,y :: b=>Op.bytesLess x y=true\/(x=y/\lexL a b)
theorem bl_flatten{n:Nat}(hn:0<n):∀ {a b:List Str},(∀ x ∈ a,x.length=n)->(∀ x ∈ b,x.length=n)->(Op.bytesLess a.flatten b.flatten=true ↔ lexL a b)
 | a,[],_,_=>by cases a<;>simp[lexL,Op.bytesLess]
 | [],y :: b,_,hb=>by
  have hy:=hb y (by simp)
  cases y with
  | nil=>simp at hy;omega
  | cons c y=>simp[lexL,Op.bytesLess]
 | x :: a,y :: b,ha,hb=>by
  rw[List.flatten_cons,List.flatten_cons,bl_append (by rw[ha x (by simp),hb y (by simp)]),bl_flatten hn (fun z hz=>ha z (by simp[hz])) (fun z hz=>hb z (by simp[hz]))]
  rfl
structure Term where
 p:Str
 less:List Str
def Term.key(t:Term):Str:=t.p++t.less.flatten
def Term.wide(n:Nat)(t:Term):Prop:=t.p.length=n/\∀ m ∈ t.less,m.length=n
def aheadT(t u:Term):Prop:=lexL (t.p :: t.less) (u.p :: u.less)
theorem key_less{n:Nat}(hn:0<n){t u:Term}(ht:t.wide n)(hu:u.wide n):Op.bytesLess t.key u.key=true ↔ aheadT t u:=by
 have:=bl_flatten hn (a:=t.p :: t.less) (b:=u.p :: u.less) (by simpa using ⟨ht.1,ht.2⟩) (by simpa using ⟨hu.1,hu.2⟩)
 simpa[Term.key,aheadT] using this
noncomputable def srt{α:Type}(L:α->α->Prop)(l:List α):List α:=l.foldl (fun acc x=>insG L x acc) []
theorem srt_perm{α:Type}(L:α->α->Prop)(l:List α):(srt L l).Perm l:=by
 have go:∀ l acc:List α,(l.foldl (fun acc x=>insG L x acc) acc).Perm (acc++l):=by
  intro l
  induction l with
  | nil=>intro acc;simp
  | cons x l ih=>
   intro acc
   refine (ih (insG L x acc)).trans ?_
   refine ((insG_perm L x acc).append_right l).trans ?_
   simpa using (List.perm_middle (a:=x) (l₁:=acc) (l₂:=l)).symm
 show (l.foldl (fun acc x=>insG L x acc) []).Perm l
 simpa using go l []
theorem srt_sorted{α:Type}{L:α->α->Prop}(ht:∀ x y z,L x y->L y z->L x z)(l:List α)(tot:l.Pairwise fun x y=>L x y\/L y x):(srt L l).Pairwise L:=by
 have go:∀ l acc:List α,(acc++l).Pairwise (fun x y=>L x y\/L y x)->acc.Pairwise L->(l.foldl (fun acc x=>insG L x acc) acc).Pairwise L:=by
  intro l
  induction l with
  | nil=>intro acc _ h;exact h
  | cons x l ih=>
   intro acc htot h
   have hp:(insG L x acc++l).Perm (acc++x :: l):=((insG_perm L x acc).append_right l).trans (List.perm_middle (a:=x) (l₁:=acc) (l₂:=l)).symm
   refine ih (insG L x acc) ((hp.pairwise_iff fun {a b} hab=>hab.symm).2 htot) (insG_sorted ht x acc (fun y hy=>?_) h)
   have:=(List.pairwise_append.1 htot).2.2 y hy x (by simp)
   exact this.symm
 exact go l [] (by simpa using tot) (by simp)
theorem srt_uniq{α:Type}{L:α->α->Prop}(hirr:∀ x,¬ L x x)(ht:∀ x y z,L x y->L y z->L x z){l k:List α}(tot:l.Pairwise fun x y=>L x y\/L y x)(hp:k.Perm l)(hs:k.Pairwise L):k=srt L l:=
 sorted_uniq hirr ht (hp.trans (srt_perm L l).symm) hs (srt_sorted ht l tot)
theorem lexL_irrefl:∀ a:List Str,¬ lexL a a
 | []=>by simp[lexL]
 | x :: a=>by
  have:=lexL_irrefl a
  simp[lexL,bl_irrefl,this]
theorem lexL_trans:∀ {a b c:List Str},lexL a b->lexL b c->lexL a c
 | a,[],c,h,_=>by cases a<;>simp[lexL] at h
 | a,_ :: _,[],_,h=>by simp[lexL] at h
 | [],_ :: _,_ :: _,_,_=>trivial
 | x :: a,y :: b,z :: c,h,k=>by
  rcases h with h|⟨rfl,h⟩
  . rcases k with k|⟨rfl,k⟩
    . exact .inl (bl_trans h k)
    . exact .inl h
  . rcases k with k|⟨rfl,k⟩
    . exact .inl k
    . exact .inr ⟨rfl,lexL_trans h k⟩
theorem lexL_total:∀ {a b:List Str},a ≠ b->lexL a b\/lexL b a
 | [],[],h=>absurd rfl h
 | [],_ :: _,_=>.inl trivial
 | _ :: _,[],_=>.inr trivial
 | x :: a,y :: b,h=>by
  by_cases hxy:x=y
  . subst hxy
    rcases lexL_total (a:=a) (b:=b) (fun e=>h (by rw[e])) with k|k
    . exact .inl (.inr ⟨rfl,k⟩)
    . exact .inr (.inr ⟨rfl,k⟩)
  . rcases bl_total hxy with k|k
    . exact .inl (.inl k)
    . exact .inr (.inl k)
theorem ahead_irrefl(t:Term):¬ aheadT t t:=lexL_irrefl _
theorem ahead_trans(t u v:Term)(h:aheadT t u)(k:aheadT u v):aheadT t v:=lexL_trans h k
theorem ahead_total{t u:Term}(h:t ≠ u):aheadT t u\/aheadT u t:=lexL_total fun e=>h (by
 obtain⟨p,l⟩:=t
 obtain⟨q,m⟩:=u
 simp at e
 rw[e.1,e.2])
def blt(x y:Str):Prop:=Op.bytesLess x y=true
def metL(p:Str)(less:List Str):List Str:=less.filterMap fun m=>meetT m p
open Classical in
/-- A cube less others,in its form. -/
noncomputable def termT(p:Str)(less:List Str):Option Term:=
 let k:=(metL p less).foldl (putG inL blt) []
 if k=[p] then none else some ⟨p,k⟩
def covT(t u:Term):Prop:=inT t.p u.p/\∀ m ∈ u.less,∀ c,meetT m t.p=some c->∃ n ∈ t.less,inT c n
structure Term.Ok(n:Nat)(t:Term):Prop where
 pos:0<n
 p:t.p.length=n
 less:∀ m ∈ t.less,inL m t.p
theorem Term.Ok.wide{n:Nat}{t:Term}(h:t.Ok n):t.wide n:=⟨h.p,fun m hm=>by rw[inL_len (h.less m hm),h.p]⟩
theorem covT_refl{n:Nat}{t:Term}(h:t.Ok n):covT t t:=by
 have hp:t.p ≠ []:=fun e=>by have:=h.p;have:=h.pos;rw[e] at *;simp at *;omega
 refine⟨⟨hp,inL_refl _⟩,fun m hm c hc=>?_⟩
 unfold meetT at hc
 split at hc
 . cases hc
 . rename_i hmn
   have:=meetL_self.2 (h.less m hm)
   rw[this] at hc
   cases hc
   exact⟨m,hm,hmn,inL_refl _⟩
theorem covT_trans(t u v:Term)(h:covT t u)(k:covT u v):covT t v:=by
 refine⟨inT_trans h.1 k.1,fun m hm c hc=>?_⟩
 unfold meetT at hc
 split at hc
 . cases hc
 . rename_i hmn
   obtain⟨hcm,hct⟩:=meetL_in hc
   obtain⟨c1,hc1,hi1⟩:=meetL_glb hcm (inL_trans hct h.1.2)
   obtain⟨n1,hn1,hin1⟩:=k.2 m hm c1 (by unfold meetT;rw[if_neg hmn];exact hc1)
   have hcn1:=inL_trans hi1 hin1.2
   obtain⟨c2,hc2,hi2⟩:=meetL_glb hcn1 hct
   have hne:n1 ≠ []:=fun e=>hin1.1 (by
    have:=inL_len hin1.2
    rw[e] at this
    exact List.eq_nil_of_length_eq_zero this)
   obtain⟨n2,hn2,hin2⟩:=h.2 n1 hn1 c2 (by unfold meetT;rw[if_neg hne];exact hc2)
   refine⟨n2,hn2,fun e=>hin2.1 ?_,inL_trans hi2 hin2.2⟩
   have:=inL_len hi2
   rw[e] at this
   exact List.eq_nil_of_length_eq_zero this.symm
noncomputable def formT(l:List Term):List Term:=srt aheadT (grG covT l)
theorem formT_eq{n:Nat}{l k:List Term}(hl:∀ t ∈ l,t.Ok n)(hp:k.Perm (grG covT l))(hs:k.Pairwise fun t u=>Op.bytesLess u.key t.key ≠ true):k=formT l:=by
 have ha:=grG_anti covT_trans l fun t ht=>covT_refl (hl t ht)
 have hok:∀ t ∈ grG covT l,t.Ok n:=fun t ht=>hl t (ha.sub t ht)
 have tot:(grG covT l).Pairwise fun x y=>x ≠ y:=ha.anti.imp_of_mem fun {a b} hma _ hab e=>hab.1 (by rw[<- e];exact covT_refl (hok a hma))
 have hne:k.Pairwise fun x y=>x ≠ y:=(hp.pairwise_iff fun {a b} hab=>hab.symm).2 tot
 refine srt_uniq ahead_irrefl ahead_trans (tot.imp ahead_total) hp ?_
 refine (hs.and hne).imp_of_mem fun {a b} hma hmb hab=>?_
 have hoa:=hok a (hp.mem_iff.1 hma)
 have hob:=hok b (hp.mem_iff.1 hmb)
 rcases ahead_total hab.2 with h|h
 . exact h
 . exact absurd ((key_less hob.pos hob.wide hoa.wide).2 h) hab.1
theorem blt_irrefl(x:Str):¬ blt x x:=bl_irrefl x
theorem blt_trans(x y z:Str)(h:blt x y)(k:blt y z):blt x z:=bl_trans h k
theorem blt_total(x y:Str)(h:x ≠ y):blt x y\/blt y x:=bl_total h
theorem strict_of{l k:List Str}(hp:k.Perm (grG inL l))(hs:k.Pairwise fun t u=>Op.bytesLess u t ≠ true):k.Pairwise blt:=by
 have ha:=grG_anti (R:=inL) (fun _ _ _=>inL_trans) l fun x _=>inL_refl x
 have hn:=(hp.nodup_iff).2 (ha.nodup inL_refl)
 refine (hs.and hn).imp fun {a b} hab=>?_
 rcases blt_total a b hab.2 with h|h
 . exact h
 . exact absurd h hab.1
theorem put_eq{l k:List Str}(hp:k.Perm (grG inL l))(hs:k.Pairwise fun t u=>Op.bytesLess u t ≠ true):k=l.foldl (putG inL blt) []:=
 sorted_eq_put inL_refl (fun _ _ _=>inL_trans) (fun _ _=>inL_antisymm) blt_irrefl blt_trans blt_total hp (strict_of hp hs)
theorem metL_in{p:Str}{less:List Str}{m:Str}(h:m ∈ metL p less):inL m p:=by
 obtain⟨a,_,h2⟩:=List.mem_filterMap.1 h
 unfold meetT at h2
 split at h2
 . cases h2
 . exact (meetL_in h2).2
theorem void_iff(p:Str)(less:List Str):p ∈ grG inL (metL p less) ↔ (metL p less).foldl (putG inL blt) []=[p]:=by
 have ha:=grG_anti (R:=inL) (fun _ _ _=>inL_trans) (metL p less) fun x _=>inL_refl x
 have hb:=putG_fold (R:=inL) (L:=blt) inL_refl (fun _ _ _=>inL_trans) blt_trans blt_total (metL p less)
 have hp:=ha.perm inL_refl (fun _ _ _=>inL_trans) (fun _ _=>inL_antisymm) hb.1
 constructor
 . intro h
   have hm:=hp.mem_iff.1 h
   generalize hk:(metL p less).foldl (putG inL blt) []=k at hb hm
   have hall:∀ x ∈ k,inL x p:=fun x hx=>metL_in (hb.1.sub x hx)
   cases k with
   | nil=>simp at hm
   | cons a k=>
    have hpw:=List.pairwise_cons.1 hb.1.anti
    rcases List.mem_cons.1 hm with rfl|hm
    . cases k with
      | nil=>rfl
      | cons b k=>exact absurd (hall b (by simp)) (hpw.1 b (by simp)).2
    . exact absurd (hall a (by simp)) (hpw.1 p hm).1
 . intro h
   exact hp.mem_iff.2 (by rw[h];simp)
theorem termT_void{p:Str}{less:List Str}(h:p ∈ grG inL (metL p less)):termT p less=none:=by
 have:=(void_iff p less).1 h
 unfold termT
 simp only
 rw[if_pos this]
theorem termT_some{p:Str}{less k:List Str}(h:p ∉ grG inL (metL p less))(hp:k.Perm (grG inL (metL p less)))(hs:k.Pairwise fun t u=>Op.bytesLess u t ≠ true):termT p less=some ⟨p,k⟩:=by
 have h1:=fun e=>h ((void_iff p less).2 e)
 unfold termT
 simp only
 rw[if_neg h1]
 congr
 exact (put_eq hp hs).symm
theorem termT_ok{p:Str}{less:List Str}{t:Term}(hp:p ≠ [])(h:termT p less=some t):t.Ok p.length/\t.p=p:=by
 unfold termT at h
 simp only at h
 split at h
 . cases h
 . cases h
   have hb:=putG_fold (R:=inL) (L:=blt) inL_refl (fun _ _ _=>inL_trans) blt_trans blt_total (metL p less)
   exact⟨⟨List.length_pos_iff.2 hp,rfl,fun m hm=>metL_in (hb.1.sub m hm)⟩,rfl⟩
theorem grG_sub{α:Type}(R:α->α->Prop)(l:List α):∀ x ∈ grG R l,x ∈ l:=by
 have go:∀ (l k:List α),∀ x ∈ l.foldl (addG R) k,x ∈ k\/x ∈ l:=by
  intro l
  induction l with
  | nil=>intro k x hx;exact .inl hx
  | cons y l ih=>
   intro k x hx
   rcases ih _ x hx with h|h
   . unfold addG at h
     split at h
     . exact .inl h
     . rcases List.mem_append.1 h with h|h
       . exact .inl (List.mem_filter.1 h).1
       . simp at h;subst h;exact .inr (by simp)
   . exact .inr (by simp[h])
 intro x hx
 rcases go l [] x hx with h|h
 . simp at h
 . exact h
theorem formT_mem{l:List Term}{t:Term}(h:t ∈ formT l):t ∈ l:=grG_sub covT l t ((srt_perm aheadT _).mem_iff.1 h)
end Go.Proofs.YtaiondckookpiaaDoor
namespace Go.Proofs.YtaiondckookpiaaDoor
open Go Go.Vx
def wof(f:Nat->Bool)(k:Nat):BitVec 64:=(BitVec.ofBoolListLE ((List.range 64).map fun i=>f (64*k+i))).setWidth 64
theorem wof_get(f:Nat->Bool)(k i:Nat)(h:i<64):(wof f k).getLsbD i=f (64*k+i):=by
 unfold wof
 rw[BitVec.getLsbD_setWidth,BitVec.getLsbD_ofBoolListLE]
 simp[h,List.getD]
theorem wof_ext{f g:Nat->Bool}{k:Nat}(h:∀ i,i<64->f (64*k+i)=g (64*k+i)):wof f k=wof g k:=
 BitVec.eq_of_getLsbD_eq fun i hi=>by rw[wof_get _ _ _ hi,wof_get _ _ _ hi];exact h i hi
theorem wof_eq{f g:Nat->Bool}{k:Nat}:wof f k=wof g k ↔ ∀ i,i<64->f (64*k+i)=g (64*k+i):=by
 refine⟨fun h i hi=>?_,wof_ext⟩
 rw[<- wof_get f k i hi,h,wof_get g k i hi]
theorem bv_id(x:BitVec 64):BitVec.ofInt IntKind.u64.bits (x.toNat:Int)=x:=by
 show BitVec.ofInt 64 (x.toNat:Int)=x
 simp
theorem wrap_id(x:BitVec 64):IntKind.u64.wrap (x.toNat:Int)=(x.toNat:Int):=by
 have:=x.isLt
 simp[IntKind.wrap,IntKind.bits,IntKind.signed]
 omega
section
variable {p : Int → Prop} {x y : BitVec 64}
theorem nAnd(h:p ((x &&& y).toNat:Int)):∃ n,n=IntKind.u64.wrap ((BitVec.ofInt IntKind.u64.bits (x.toNat:Int) &&& BitVec.ofInt IntKind.u64.bits (y.toNat:Int)).toNat:Int)/\p n:=⟨_,rfl,by
 have key:∀ (a b:BitVec 64),a=x->b=y->IntKind.u64.wrap ((a &&& b).toNat:Int)=(((x &&& y):BitVec 64).toNat:Int):=by
  rintro _ _ rfl rfl
  exact wrap_id _
 exact (congrArg p (key _ _ (bv_id x) (bv_id y))).mpr h⟩
theorem nOr(h:p ((x ||| y).toNat:Int)):∃ n,n=IntKind.u64.wrap ((BitVec.ofInt IntKind.u64.bits (x.toNat:Int) ||| BitVec.ofInt IntKind.u64.bits (y.toNat:Int)).toNat:Int)/\p n:=⟨_,rfl,by
 have key:∀ (a b:BitVec 64),a=x->b=y->IntKind.u64.wrap ((a ||| b).toNat:Int)=(((x ||| y):BitVec 64).toNat:Int):=by
  rintro _ _ rfl rfl
  exact wrap_id _
 exact (congrArg p (key _ _ (bv_id x) (bv_id y))).mpr h⟩
theorem nXor(h:p ((x ^^^ y).toNat:Int)):∃ n,n=IntKind.u64.wrap ((BitVec.ofInt IntKind.u64.bits (x.toNat:Int) ^^^ BitVec.ofInt IntKind.u64.bits (y.toNat:Int)).toNat:Int)/\p n:=⟨_,rfl,by
 have key:∀ (a b:BitVec 64),a=x->b=y->IntKind.u64.wrap ((a ^^^ b).toNat:Int)=(((x ^^^ y):BitVec 64).toNat:Int):=by
  rintro _ _ rfl rfl
  exact wrap_id _
 exact (congrArg p (key _ _ (bv_id x) (bv_id y))).mpr h⟩
theorem nAnd1(h:p ((x &&& 1#64).toNat:Int)):∃ n,n=IntKind.u64.wrap ((BitVec.ofInt IntKind.u64.bits (x.toNat:Int) &&& BitVec.ofInt IntKind.u64.bits 1).toNat:Int)/\p n:=by
 have:((1#64:BitVec 64).toNat:Int)=1:=rfl
 have h2:=nAnd (p:=p) (x:=x) (y:=1#64) h
 rwa [this] at h2
theorem nShr{r:Int}{k:Nat}(hr:r=(k:Int)/\k<64)(h:p ((x >>> k).toNat:Int)):∃ n,n=(x.toNat:Int).fdiv (2 ^ (min r.toNat IntKind.u64.bits))/\p n:=by
 refine⟨_,rfl,?_⟩
 obtain⟨rfl,hk⟩:=hr
 have e1:min ((k:Int).toNat) IntKind.u64.bits=k:=by
  show min k 64=k
  omega
 rw[e1]
 have e2:((x.toNat:Int).fdiv (2 ^ k))=((x >>> k).toNat:Int):=by
  rw[BitVec.toNat_ushiftRight,Nat.shiftRight_eq_div_pow,Int.fdiv_eq_ediv_of_nonneg _ (Int.pow_nonneg (by omega))]
  push_cast
  rfl
 rw[e2]
 exact h
theorem nShl1{r:Int}{k:Nat}(hr:r=(k:Int)/\k<64)(h:p ((1#64 <<< k).toNat:Int)):∃ n,n=IntKind.u64.wrap (1*2 ^ (min r.toNat IntKind.u64.bits))/\p n:=by
 refine⟨_,rfl,?_⟩
 obtain⟨rfl,hk⟩:=hr
 have e1:min ((k:Int).toNat) IntKind.u64.bits=k:=by
  show min k 64=k
  omega
 rw[e1]
 have hlt:2 ^ k<2 ^ 64:=Nat.pow_lt_pow_right (by omega) hk
 have e2:(1*2 ^ k:Int)=((1#64 <<< k).toNat:Int):=by
  rw[BitVec.toNat_shiftLeft,Nat.shiftLeft_eq]
  simp only[BitVec.toNat_ofNat]
  rw[show (1 % 2 ^ 64*2 ^ k) % 2 ^ 64=2 ^ k by rw[Nat.mod_eq_of_lt (a:=1) (by decide),Nat.one_mul,Nat.mod_eq_of_lt hlt]]
  push_cast
  omega
 rw[e2,wrap_id]
 exact h
end
theorem nAnd1'{p:Int->Prop}{x:BitVec 64}{c:Int}(hc:c=1)(h:p ((x &&& 1#64).toNat:Int)):∃ n,n=IntKind.u64.wrap ((BitVec.ofInt IntKind.u64.bits (x.toNat:Int) &&& BitVec.ofInt IntKind.u64.bits c).toNat:Int)/\p n:=by
 subst hc;exact nAnd1 h
theorem nShl1'{p:Int->Prop}{r c:Int}{k:Nat}(hc:c=1)(hr:r=(k:Int)/\k<64)(h:p ((1#64 <<< k).toNat:Int)):∃ n,n=IntKind.u64.wrap (c*2 ^ (min r.toNat IntKind.u64.bits))/\p n:=by
 subst hc;exact nShl1 hr h
theorem bit_at(x:BitVec 64)(k:Nat):(((x >>> k) &&& 1#64).toNat:Int)=1 ↔ x.getLsbD k=true:=by
 have h1:((x >>> k) &&& 1#64).toNat=(x.getLsbD k).toNat:=by
  rw[BitVec.toNat_and,BitVec.toNat_ushiftRight]
  simp only[BitVec.toNat_ofNat]
  rw[show 1 % 2 ^ 64=1 from rfl,Nat.and_one_is_mod,BitVec.getLsbD,Nat.testBit]
  simp
  have:=Nat.mod_two_eq_zero_or_one (x.toNat >>> k)
  rcases this with h|h<;>simp[h]
 rw[h1]
 cases x.getLsbD k<;>simp
theorem quo64{i q r:Nat}(h:i=64*q+r)(hr:r<64)(hi:i<1000):(q:Int)=IntKind.i64.wrap ((i:Int).tdiv 64):=by
 subst h
 have e:((64*q+r:Nat):Int).tdiv 64=(q:Int):=by
  rw[Int.tdiv_eq_ediv_of_nonneg (by omega)]
  omega
 rw[e,IntKind.wrap_i64]
 omega
theorem rem64{i q r:Nat}(h:i=64*q+r)(hr:r<64):(r:Int)=((i:Int).tmod 64):=by
 subst h
 rw[Int.tmod_eq_emod_of_nonneg (by omega)]
 omega
end Go.Proofs.YtaiondckookpiaaDoor
