/- The walks and the plain laws that a law of networks needs, part 3 of 7. -/
import Derived.Test.YtnlingegeangmaaGreatDoorQHB
import Derived.WideKeyRuns
import Derived.Test.YtnlingegeangmaaGreatDoorProg
import Derived.KernelRfl
import Derived.Test.YtnlingegeangmaaGreatDoorRows
import Derived.ProofKit
import Derived.Deep.Slices
import Derived.Shelf.SlSortFuncK.WholeK
import Derived.Shelf.GgSortFunc.Tiny
import Derived.Shelf.Strings.Builder1
import Derived.Shelf.Strings.Split
import Derived.Ground.GgsProg
set_option linter.unusedVariables false
set_option linter.unusedSimpArgs false
set_option linter.unusedSectionVars false
set_option maxRecDepth 100000
set_option maxHeartbeats 16000000
namespace Go.Vx
open Go.RowKit
section
variable {P : Program} {T : Tab} {H M : Objs} {s : St} {w0 w w' : World} {F : Fr} {V : Vw} {μ : List Nat} {ω : List Value} {a : Act}
theorem vopM_sound(hT:TOk P T)(hS:SimM (szOf T) w0 F V μ ω s a w H M){o:Oper}{K:D->St->Objs->Prop}(h:vopM P T H M s o K):VokM P T w0 F H a w o K:=by
 obtain⟨dst,op,type,pos,after,guard⟩:=o
 unfold vopM at h
 dsimp only at h
 split at h
 . -- makeMap
   rename_i t
   obtain⟨κ,α,_,kd,f,hty,hk⟩:=h
   have hno:noK M w.heap.size:=fun x hx=>by
    have:=(Array.getElem?_eq_some_iff.1 (hS.kept hx).1).1
    omega
   refine .value (v:=.map (some w.heap.size)) ?_ (hk _ hno) (.imm _ _ (.mv _)) (hS.new (mObj kd f [] 0) (noC_map _ _))
   simp[execOp,hty.make w]
 . -- lookup
   rename_i t x i ok
   unfold lookM at h
   split at h
   case h_2=>exact h.elim
   rename_i g hx
   obtain⟨κ,α,_,kd,f,l,c,k,hty,hg,hi,hk⟩:=h
   have hxv:=hS.sim.get x
   rw[hx] at hxv
   have hiv:=hS.sim.get i
   rw[hi] at hiv
   obtain⟨kt,et,_,hkey,_⟩:=hty.und
   have e2:=ground_val' hiv (hkey.ground k)
   have hl:=hty.lookup (hS.read hg) k ok
   cases ok with
   | true=>
    refine .value (v:=.tuple #[toV (f (lk l k)),.bool (lk l k).isSome]) ?_ hk (.tup _ _ rfl fun j v d h1 h2=>?_) hS
    . simp[execOp,hxv.mv_,e2,hl]
    . match j with
      | 0=>simp at h1 h2;subst h1 h2;exact toV_rs (hty.vg _)
      | 1=>simp at h1 h2;subst h1 h2;exact .imm _ _ (.b _ _ Iff.rfl)
      | j+2=>simp at h1
   | false=>
    refine .value (v:=toV (f (lk l k))) ?_ hk (toV_rs (hty.vg _)) hS
    simp[execOp,hxv.mv_,e2,hl]
 . -- mapUpdate
   rename_i t m k x
   unfold updM at h
   split at h
   case h_2=>exact h.elim
   rename_i g hx
   obtain⟨κ,α,_,kd,f,l,c,n,key,val,hty,hg,hi,hvl,hk⟩:=h
   have hxv:=hS.sim.get m
   rw[hx] at hxv
   have hiv:=hS.sim.get k
   rw[hi] at hiv
   have hvv:=hS.sim.get x
   rw[hvl] at hvv
   obtain⟨kt,et,_,hkey,_⟩:=hty.und
   have e2:=ground_val' hiv (hkey.ground key)
   have e3:=ground_val' hvv (hty.vg _)
   rw[setM_eq] at hk
   have hu:=hty.update (hS.kept (mOf0 hg)).1 key val
   refine .unit ?_ hk (hS.put _ (noC_map _ _) hg)
   simp[execOp,hxv.mv_,e2,e3,hu]
 . -- mapEntry
   rename_i t m k
   unfold entM at h
   split at h
   case h_2=>exact h.elim
   rename_i g hx
   obtain⟨κ,α,_,kd,f,l,c,n,key,z,hty,hg,hi,hz,hk⟩:=h
   have hxv:=hS.sim.get m
   rw[hx] at hxv
   have hiv:=hS.sim.get k
   rw[hi] at hiv
   obtain⟨kt,et,_,hkey,_⟩:=hty.und
   have e2:=ground_val' hiv (hkey.ground key)
   rw[setM_eq] at hk
   have hu:=hty.entry (hS.kept (mOf0 hg)).1 key hz
   refine .value (v:=.tuple #[toV (f (lk l key)),goInt (stp l c key)]) ?_ hk (.tup _ _ rfl fun j v d h1 h2=>?_) (hS.put _ (noC_map _ _) hg)
   . simp[execOp,hxv.mv_,e2,hu]
   . match j with
     | 0=>simp at h1 h2;subst h1 h2;exact toV_rs (hty.vg _)
     | 1=>simp at h1 h2;subst h1 h2;exact .imm _ _ (.i _ _)
     | j+2=>simp at h1
 . -- entryStore
   rename_i t m k x
   unfold entSM at h
   split at h
   case h_2=>exact h.elim
   rename_i g hx
   obtain⟨κ,α,_,kd,f,l,c,n,key,a0,val,hvg,⟨hnd,hlt⟩,hg,hi,hvl,hk⟩:=h
   have hxv:=hS.sim.get m
   rw[hx] at hxv
   have hiv:=hS.sim.get k
   rw[hi] at hiv
   have hvv:=hS.sim.get x
   rw[hvl] at hvv
   have e2:a.eval k=goInt (stp l c key):=by
    have:=ground_val' hiv rfl
    exact this
   have e3:=ground_val' hvv (hvg _)
   rw[setM_eq] at hk
   have hu:=MTy.entStore (P:=P) (t:=t) (hS.kept (mOf0 hg)).1 hnd hlt val
   refine .unit ?_ hk (hS.put _ (noC_map _ _) hg)
   simp[execOp,hxv.mv_,e2,e3,hu]
 . exact rangM_sound hS h
 . exact nextM_sound hS h
 . exact entrM_sound hS h
 . -- delete
   rename_i args argTypes
   split at h
   case h_2=>exact h.elim
   rename_i m k t t2 ha ht
   obtain⟨args⟩:=args
   obtain⟨argTypes⟩:=argTypes
   dsimp only at ha ht
   subst ha ht
   unfold delM at h
   split at h
   case h_2=>exact h.elim
   rename_i g hx
   obtain⟨κ,α,_,kd,f,l,c,n,key,hty,hg,hi,hk⟩:=h
   have hxv:=hS.sim.get m
   rw[hx] at hxv
   have hiv:=hS.sim.get k
   rw[hi] at hiv
   obtain⟨kt,et,_,hkey,_⟩:=hty.und
   have e2:=ground_val' hiv (hkey.ground key)
   rw[setM_eq] at hk
   have hd:=hty.delete (hS.kept (mOf0 hg)).1 key t2 type
   refine .value (v:=.tuple #[]) (d:=.tup []) ?_ hk (RS.tup [] #[] rfl (fun j v d h=>by simp at h)) (hS.put _ (noC_map _ _) hg)
   simp[execOp,resolve,invoke,builtin,hxv.mv_,e2,hd]
 . -- len
   rename_i args argTypes
   split at h
   case h_2=>exact h.elim
   rename_i x t ha ht
   split at h
   case h_2=>exact .of_vop hT hS h
   rename_i g hx
   obtain⟨args⟩:=args
   obtain⟨argTypes⟩:=argTypes
   dsimp only at ha ht
   subst ha ht
   obtain⟨κ,α,_,kd,f,l,c,n,hty,hg,hn,hk⟩:=h
   have hxv:=hS.sim.get x
   rw[hx] at hxv
   obtain⟨kt,et,hu,_,_⟩:=hty.und
   refine .value (v:=.int .i64 n) ?_ hk (.imm _ _ (.i _ _)) hS
   have hr:=hS.read hg
   simp[execOp,resolve,invoke,builtin,hxv.mv_,Builtin.len_,run_under hu,getObj,Sem.run,hr,mObj,Result.andThen,goInt,hn]
 . -- a call
   rename_i f args argTypes
   rcases h with h|h|h
   . exact .of_vop hT hS h
   . exact callH_sound hS h
   rw[forceL_eq] at h
   obtain⟨hcall,hcalls⟩:=inlM_sound hT hS (hS.sim.gets args.toList) h
   intro next Q hn
   unfold Oper.wp
   have hrun:(execOp a.eval ⟨dst,.call ⟨.value (.func f),args,argTypes⟩,type,pos,after,guard⟩).run P w = .ok (.enter f (args.toList.map a.eval).toArray) w:=by
    simp only[execOp,resolve,Act.eval,Deferred.ofValue,invoke,Sem.run_bind,Sem.run_pure,Result.andThen_ok]
    rw[hcall]
    congr 2
    apply Array.ext'
    simp
   rw[hrun]
   show Calls P f _ w _
   refine hcalls.mono ?_
   rintro e w'' ⟨v,d,s',V',μ',ω',M',rfl,hk,hr,hS'⟩
   exact hn d v s' V' μ' ω' M' w'' hk hr hS'
 . -- a call of a function value
   rename_i t args argTypes
   rcases h with h|h
   . exact .of_vop hT hS h
   obtain⟨f,first,cap,vs,us,hv,hs1,hs2,hr1,hr2,h⟩:=fnK_sound (hS.sim.get (.tmp t)) h
   rw[forceL_eq] at h
   have hg:=hS.sim.gets args.toList
   have hvals:Vals (szOf T) V μ ω (vs.toList++args.toList.map a.eval++us.toList) (first++s.gets args.toList++cap):=
    ⟨by have:=hg.1;simp at this ⊢;omega,cat3 (fun j v d h1 h2=>hr1 j v d (by simpa using h1) h2) hg.2 (fun j v d h1 h2=>hr2 j v d (by simpa using h1) h2) (by simpa using hs1) hg.1⟩
   obtain⟨hcall,hcalls⟩:=inlM_sound hT hS hvals h
   intro next Q hn
   unfold Oper.wp
   have hrun:(execOp a.eval ⟨dst,.call ⟨.value (.tmp t),args,argTypes⟩,type,pos,after,guard⟩).run P w = .ok (.enter f (vs.toList++args.toList.map a.eval++us.toList).toArray) w:=by
    simp only[execOp,resolve,hv,Deferred.ofValue,invoke,Sem.run_bind,Sem.run_pure,Result.andThen_ok]
    rw[hcall]
    congr 2
    apply Array.ext'
    simp
   rw[hrun]
   show Calls P f _ w _
   refine hcalls.mono ?_
   rintro e w'' ⟨v,d,s',V',μ',ω',M',rfl,hk,hr,hS'⟩
   exact hn d v s' V' μ' ω' M' w'' hk hr hS'
 . exact .of_vop hT hS h
theorem vopsM_sound(hT:TOk P T){ops:List Oper}{Q:Exit->Act->World->Prop}:∀ (rest:List Oper) (s:St) (M:Objs) (V:Vw) (μ:List Nat) (ω:List Value) (a:Act) (w:World) (K:St->Objs->Prop),SimM (szOf T) w0 F V μ ω s a w H M ->
    vopsM P T H ops rest s M K->(∀ s M V μ ω a w,K s M->SimM (szOf T) w0 F V μ ω s a w H M->Q .normal a w)->wpList P ops.toArray Q rest a w
 | [],s,M,V,μ,ω,a,w,K,hS,h,hq=>hq s M V μ ω a w h hS
 | o :: rest,s,M,V,μ,ω,a,w,K,hS,h,hq=>by
  simp only[vopsM] at h
  unfold wpList
  rcases wantK_sound hS.sim h with⟨hw,s1,h,hS1⟩|⟨hw,s1,h,hS1⟩
  . rw[if_pos hw]
    refine .inl (vopM_sound hT (hS.of hS1) h _ _ fun d v s2 V2 μ2 ω2 M2 w2 hk hr hS2=>?_)
    obtain⟨s3,h,hS3⟩:=putK_sound hS2.sim hr hk
    exact vopsM_sound hT rest s3 M2 _ _ _ _ _ K (hS2.of hS3) h hq
  . rw[if_neg (by rw[hw];simp)]
    obtain⟨s3,h,hS3⟩:=putK_sound hS1 (v:=undef) (d:=.tup []) (RS.tup [] #[] rfl (fun j v d h=>by simp at h)) h
    exact vopsM_sound hT rest s3 M _ _ _ _ _ K (hS.of hS3) h hq
theorem OkM.region(hT:TOk P T){Q:Exit->St->Objs->Prop}{id:Nat}{l:List Oper}(h:vopsM P T H l l s M (Q .normal)):OkM P T H (.region id l.toArray false) Q s M:=by
 refine⟨fun w0 F V μ ω a w hS=>?_⟩
 refine wp_region_lit ?_
 exact vopsM_sound hT l s M V μ ω a w _ hS h fun s' M' V' μ' ω' a' w' hk hS'=>⟨s',V',μ',ω',M',hk,hS'⟩
end
end Go.Vx
namespace Go.Vx
open Go.RowKit
section
variable {κ α : Type} [DecidableEq κ]
theorem mfind_at{k:κ}:∀ {l:List (κ × α × Nat)} {j i:Nat} {x:α},mfind k l j=some (i,x)->j<=i/\∃ n,l[i - j]? = some (k,x,n):=by
 intro l
 induction l with
 | nil=>intro j i x h;cases h
 | cons e l ih=>
  intro j i x h
  simp only[mfind] at h
  split at h
  . rename_i he
    cases h
    exact⟨Nat.le_refl _,e.2.2,by simp[<- he]⟩
  . obtain⟨h1,n,h2⟩:=ih h
    refine⟨by omega,n,?_⟩
    rw[show i - j=(i - (j+1))+1 by omega,List.getElem?_cons_succ]
    exact h2
theorem mfind_none{k:κ}:∀ {l:List (κ × α × Nat)} {j:Nat},mfind k l j=none ↔ ∀ e ∈ l,e.1 ≠ k:=by
 intro l
 induction l with
 | nil=>intro j;simp[mfind]
 | cons e l ih=>
  intro j
  simp only[mfind]
  split
  . rename_i he
    simp[he]
  . rename_i he
    rw[ih]
    simp[he]
theorem mfind_shift{k:κ}:∀ (l:List (κ × α × Nat)) (j i:Nat),mfind k l (j+i)=(mfind k l j).map fun x=>(x.1+i,x.2):=by
 intro l
 induction l with
 | nil=>intro j i;rfl
 | cons e l ih=>
  intro j i
  simp only[mfind]
  split
  . rfl
  . rw[<- ih (j+1) i,show j+i+1=j+1+i by omega]
def mKeys(l:List (κ × α × Nat)):Prop:=(l.map (·.1)).Nodup
theorem lk_cons(e:κ × α × Nat)(l:List (κ × α × Nat))(k:κ):lk (e :: l) k=if e.1=k then some e.2.1 else lk l k:=by
 simp only[lk,mfind]
 split
 . rfl
 . rw[show (0+1)=0+1 from rfl,mfind_shift l 0 1]
   cases mfind k l 0<;>rfl
theorem lk_nil(k:κ):lk ([]:List (κ × α × Nat)) k=none:=rfl
theorem lk_none{l:List (κ × α × Nat)}{k:κ}:lk l k=none ↔ ∀ e ∈ l,e.1 ≠ k:=by
 simp only[lk,Option.map_eq_none_iff,mfind_none]
theorem lk_mem{l:List (κ × α × Nat)}{k:κ}{a:α}(h:lk l k=some a):∃ n,(k,a,n) ∈ l:=by
 simp only[lk,Option.map_eq_some_iff] at h
 obtain⟨⟨i,x⟩,h1,rfl⟩:=h
 obtain⟨_,n,h2⟩:=mfind_at h1
 exact⟨n,mOf0 h2⟩
theorem lk_of{l:List (κ × α × Nat)}(hk:mKeys l){e:κ × α × Nat}(he:e ∈ l):lk l e.1=some e.2.1:=by
 induction l with
 | nil=>cases he
 | cons x l ih=>
  rw[lk_cons]
  obtain⟨h1,h2⟩:=List.nodup_cons.1 hk
  rcases List.mem_cons.1 he with rfl|he
  . rw[if_pos rfl]
  . rw[if_neg fun hx=>h1 (List.mem_map.2 ⟨e,he,hx.symm⟩)]
    exact ih h2 he
theorem lk_app(l l':List (κ × α × Nat))(k:κ):lk (l++l') k=(lk l k).or (lk l' k):=by
 induction l with
 | nil=>simp[lk_nil]
 | cons e l ih=>
  rw[List.cons_append,lk_cons,lk_cons,ih]
  split<;>simp
theorem mput_lk(l:List (κ × α × Nat))(c:Nat)(k:κ)(a:α)(k':κ):lk (mput l c k a).1 k'=if k'=k then some a else lk l k':=by
 unfold mput
 cases h:mfind k l 0 with
 | none=>
  dsimp only
  rw[lk_app,lk_cons,lk_nil]
  by_cases hk:k'=k
  . subst hk
    have:lk l k'=none:=by simp[lk,h]
    simp[this]
  . rw[if_neg hk,if_neg fun e=>hk e.symm]
    simp
 | some x=>
  obtain⟨i,x⟩:=x
  dsimp only
  have key:∀ (l:List (κ × α × Nat)) (j:Nat),mfind k l j=some (i,x)->lk (l.modify (i - j) fun e=>(e.1,a,e.2.2)) k'=if k'=k then some a else lk l k':=by
   intro l
   induction l with
   | nil=>intro j h;cases h
   | cons e l ih=>
    intro j h
    simp only[mfind] at h
    split at h
    . rename_i he
      simp only[Option.some.injEq,Prod.mk.injEq] at h
      rw[<- h.1,Nat.sub_self]
      simp only[List.modify_zero_cons,lk_cons,he]
      by_cases hk:k'=k
      . rw[if_pos hk.symm,if_pos hk]
      . rw[if_neg fun e=>hk e.symm,if_neg hk,if_neg fun e=>hk e.symm]
    . rename_i he
      have h1:=(mfind_at h).1
      rw[show i - j=(i - (j+1))+1 by omega,List.modify_succ_cons,lk_cons,ih (j+1) h,lk_cons]
      by_cases hk:k'=k
      . subst hk
        rw[if_neg he,if_pos rfl,if_pos rfl]
      . simp only[if_neg hk]
  simpa using key l 0 h
theorem mput_born{l:List (κ × α × Nat)}{c:Nat}(h:mWf l c)(k:κ)(a:α):mWf (mput l c k a).1 (mput l c k a).2:=by
 obtain⟨h1,h2⟩:=h
 unfold mput
 cases hf:mfind k l 0 with
 | none=>
  refine⟨?_,fun e he=>?_⟩
  . rw[List.map_append]
    refine List.nodup_append.2 ⟨h1,by simp,fun x hx y hy e=>?_⟩
    obtain⟨z,hz,rfl⟩:=List.mem_map.1 hx
    simp at hy
    have:=h2 z hz
    omega
  . rcases mAp0.1 he with he|he
    . have:=h2 e he
      dsimp only
      omega
    . simp at he
      subst he
      dsimp only
      omega
 | some x=>
  obtain⟨i,x⟩:=x
  dsimp only
  have hm:(l.modify i fun e=>(e.1,a,e.2.2)).map (fun e=>e.2.2)=l.map fun e=>e.2.2:=by
   apply List.ext_getElem?
   intro j
   simp only[gMp0,List.getElem?_modify]
   cases l[j]? with
   | none=>rfl
   | some e=>by_cases hj:i=j<;>simp[hj]
  refine⟨by rw[hm];exact h1,fun e he=>?_⟩
  have:e.2.2 ∈ (l.modify i fun e=>(e.1,a,e.2.2)).map (fun e=>e.2.2):=List.mem_map.2 ⟨e,he,rfl⟩
  rw[hm] at this
  obtain⟨z,hz,hze⟩:=List.mem_map.1 this
  rw[<- hze]
  exact h2 z hz
theorem mput_keys{l:List (κ × α × Nat)}{c:Nat}(h:mKeys l)(k:κ)(a:α):mKeys (mput l c k a).1:=by
 unfold mput mKeys at *
 cases hf:mfind k l 0 with
 | none=>
  rw[List.map_append]
  refine List.nodup_append.2 ⟨h,by simp,fun x hx y hy e=>?_⟩
  obtain⟨z,hz,rfl⟩:=List.mem_map.1 hx
  simp at hy
  exact mfind_none.1 hf z hz (e.trans hy)
 | some x=>
  obtain⟨i,x⟩:=x
  dsimp only
  have hm:(l.modify i fun e=>(e.1,a,e.2.2)).map (fun e=>e.1)=l.map fun e=>e.1:=by
   apply List.ext_getElem?
   intro j
   simp only[gMp0,List.getElem?_modify]
   cases l[j]? with
   | none=>rfl
   | some e=>by_cases hj:i=j<;>simp[hj]
  rw[hm]
  exact h
theorem mdel_lk{l:List (κ × α × Nat)}(h:mKeys l)(k k':κ):lk (mdel l k) k'=if k'=k then none else lk l k':=by
 unfold mdel
 cases hf:mfind k l 0 with
 | none=>
  dsimp only
  by_cases hk:k'=k
  . subst hk
    rw[if_pos rfl]
    simp[lk,hf]
  . rw[if_neg hk]
 | some x=>
  obtain⟨i,x⟩:=x
  dsimp only
  have key:∀ (l:List (κ × α × Nat)) (j:Nat),mKeys l->mfind k l j=some (i,x)->lk (l.eraseIdx (i - j)) k'=if k'=k then none else lk l k':=by
   intro l
   induction l with
   | nil=>intro j _ h;cases h
   | cons e l ih=>
    intro j hnd h
    obtain⟨n1,n2⟩:=List.nodup_cons.1 hnd
    simp only[mfind] at h
    split at h
    . rename_i he
      simp only[Option.some.injEq,Prod.mk.injEq] at h
      rw[<- h.1,Nat.sub_self,List.eraseIdx_cons_zero,lk_cons,he]
      by_cases hk:k'=k
      . rw[if_pos hk,lk_none]
        intro z hz e'
        exact n1 (List.mem_map.2 ⟨z,hz,e'.trans (hk.trans he.symm)⟩)
      . rw[if_neg hk,if_neg fun e=>hk e.symm]
    . rename_i he
      have h1:=(mfind_at h).1
      rw[show i - j=(i - (j+1))+1 by omega,List.eraseIdx_cons_succ,lk_cons,ih (j+1) n2 h,lk_cons]
      by_cases hk:k'=k
      . subst hk
        rw[if_neg he,if_pos rfl,if_pos rfl]
      . simp only[if_neg hk]
  simpa using key l 0 h hf
theorem mdel_keys{l:List (κ × α × Nat)}(h:mKeys l)(k:κ):mKeys (mdel l k):=by
 unfold mdel
 split
 . exact List.Nodup.sublist ((List.eraseIdx_sublist l _).map _) h
 . exact h
end
end Go.Vx
namespace Go.Vx
open Go.RowKit
section
variable {P : Program} {T : Tab} {Q : Exit → St → Prop}
theorem ri_nil{sz:TypeId->Nat}{V:Vw}(e:TypeId):RI sz V (.slice none 0 0) (.lst e [] []):=
 RI.lst e [] [] none ⟨0,0,none⟩ 0 (fun _ _=>undef) (by simp) (by unfold maxLen;omega) (by simp) (by simp) (by simp) (by simp) (by simp)
end
end Go.Vx
namespace Go.Vx
open Go.RowKit
variable {P : Program} {T : Tab} {s : St}
theorem FSpec.mono{f:FuncId}{ds:List D}{R R':D->Rows->Prop}(h:FSpec P T f ds R)(hR:∀ d rows,R d rows->R' d rows):FSpec P T f ds R':=
 ⟨h.1,fun V w args a b c=>(h.2 V w args a b c).mono fun e w' ⟨V',ω,row,v,d,h1,h2,h3⟩=>⟨V',ω,row,v,d,h1,hR _ _ h2,h3⟩⟩
end Go.Vx
namespace Go.Vx
open Go.RowKit
variable {P : Program} {T : Tab}
inductive Pk(box:List (List D)):D->D->Prop
 | i (k n):Pk box (.i k n) (.i k n)
 | s (l):Pk box (.s l) (.s l)
 | bp (i off cs) (h:box[i]? = some cs) (hg:∀ d ∈ cs.drop off,∃ k n,d = .i k n):Pk box (.bp i off) (.ep (cs.drop off))
theorem RS.i_ri{sz:TypeId->Nat}{V V':Vw}{μ:List Nat}{ω:List Value}{v:Value}{k:IntKind}{n:Int}(h:RS sz V μ ω v (.i k n)):RI sz V' v (.i k n)/\v.oneCell'=true:=by
 cases h with
 | imm _ _ h=>cases h;exact⟨.i _ _,rfl⟩
theorem effK.peek{s:St}{f:FuncId}{ds es:List D}{K:D->St->Prop}{R:D->Rows->Prop}(hl:es.length=ds.length)(hp:∀ (j:Nat) d e,ds[j]? = some d->es[j]? = some e->Pk s.box d e)(hf:FSpec P T f es R)
    (h:∀ d rows,R d rows->gRowsP rows/\boolP d.ownOrG2 (match s with
     | ⟨env,box,row,n⟩=>shiftD row.length d fun d=>catK row rows fun row=>K d ⟨env,box,row,n⟩)):effK P T s f ds K:=by
 refine⟨hf.call,fun w0 V0 V μ ω a w vs hS hvl hvR=>?_⟩
 have hri:∀ (j:Nat) v e,vs[j]? = some v->es[j]? = some e->RI (szOf T) (heapV w) v e:=by
  intro j v e h1 h2
  have hj:j<ds.length:=by rw[<- hl];exact (gSm0.1 h2).1
  have h3:=gEt0 hj
  have hr:=hvR j v _ h1 h3
  generalize ds[j]=d0 at h3 hr
  cases hp j _ e h3 h2 with
  | i k n=>exact hr.i_ri.1
  | s l=>cases hr with
   | imm _ _ hr=>cases hr;exact .s _
  | bp i off cs hb hg=>
   obtain⟨g,rfl,hμ⟩:∃ g,v = .pointer (some ⟨g,off,none⟩)/\μ[i]? = some g:=by
    cases hr with
    | imm _ _ hr=>cases hr
    | bp _ _ g h=>exact⟨g,rfl,h⟩
   obtain⟨us,t,hu,hs,ho,hR',_⟩:=hS.mem.hbox i g cs hμ hb
   have key:∀ (j:Nat) d,(cs.drop off)[j]? = some d->∃ hj:off+j<us.size,RI (szOf T) (heapV w) us[off+j] d/\us[off+j].oneCell'=true:=by
    intro j d hj
    have hj2:cs[off+j]? = some d:=by rw[List.getElem?_drop] at hj;exact hj
    have hlt:off+j<us.size:=by rw[hs];exact (gSm0.1 hj2).1
    obtain⟨k,n,rfl⟩:=hg d (mOf0 hj)
    exact⟨hlt,(hR' (off+j) us[off+j] _ (by simp[hlt]) hj2).i_ri⟩
   refine .ep _ ⟨g,off,none⟩ (fun j=>us.getD (off+j) undef) (fun j d hj=>?_) (fun j d hj=>?_)
   . obtain⟨hlt,h1,h2⟩:=key j d hj
     have hgd:us.getD (off+j) undef=us[off+j]:=by simp[Array.getD,hlt]
     rw[hgd]
     refine⟨?_,h2⟩
     have ha:(⟨g,off,none⟩:Addr).add j=⟨g,off+j,none⟩:=by cases j<;>simp[Addr.add]
     show w.cell? _=_
     rw[ha]
     simp[World.cell?,hu,hlt]
   . obtain⟨hlt,h1,h2⟩:=key j d hj
     have hgd:us.getD (off+j) undef=us[off+j]:=by simp[Array.getD,hlt]
     rw[hgd]
     exact h1
 have hcalls:=hf.run (heapV w) w vs.toArray (.heap hS.mem.vok.gl (Ext.refl w)) (by simp[hl,hvl]) (fun j v d h1 h2=>hri j v d (by simpa using h1) h2)
 refine hcalls.mono ?_
 rintro e w'' ⟨V',ω0,row0,v,d,rfl,hR,hrs,hres⟩
 obtain⟨hg,hk⟩:=h d row0 hR
 obtain⟨hd,hk⟩:=boolP_iff.1 hk
 have hres2:=hres.less hS.mem.vok hg
 have hrs2:=hrs.ownOrG2 (V':=fun p=>if p.block<w.heap.size then V p else V' p) hd
 obtain⟨env,box,row,n⟩:=s
 have hM:=hS.mem.call hres2
 have hl:row.length=ω.length:=hS.mem.rl.symm
 dsimp only at hk
 rw[hl] at hk
 obtain⟨d',hk,hr⟩:=shiftD_sound (μ:=μ) (ω':=ω++ω0) (VLe.refl _) (fun r u hu=>by rw[List.getElem?_append_right (by omega),Nat.add_sub_cancel];exact hu) hrs2 hk
 rw[catK_eq] at hk
 exact⟨v,d',_,_,μ,ω++ω0,rfl,hk,hr,⟨hS.tmps,hS.defers.ext hres2.below,fun t=>(hS.env t).mono hres2.le (.refl μ) (.append _ _),hM⟩,hres2.le,.refl _,.append _ _,fun q v hq=>by rw[hres2.below.cell (World.block_lt_of_cell? _ _ hq)];exact hq⟩
end Go.Vx
namespace Go.Vx
open Go.RowKit
section
variable {P : Program} {T : Tab} {G : FuncId → Prop} {Q : Exit → St → Prop} {s : St}
def pbD1(box:List (List D))(d:D)(K:D->Prop):Prop:=
 match d with
 | .bp i off=>match box[i]? with|some cs=>forceL (cs.drop off) fun cs=>K (.ep cs)|none=>K .u
 | .own ..=>K .u
 | .op ..=>K .u
 | .agg cs=>match immL cs with|true=>K (.agg cs)|false=>K .u
 | .tup _=>K .u
 | .fnh ..=>K .u
 | .osl ..=>K .u
 | .tie ..=>K .u
 | d=>d.force K
def pbL(box:List (List D)):List D->(List D->Prop)->Prop
 | [],K=>K []
 | d :: r,K=>pbD1 box d fun d=>pbL box r fun r=>K (d :: r)
def pbD(box:List (List D))(d:D)(K:D->Prop):Prop:=
 match d with
 | .fnh f x y=>pbL box x fun x=>pbL box y fun y=>K (.fn f x y)
 | d=>pbD1 box d K
def pbE(box:List (List D)):List (Nat × D)->(List (Nat × D)->Prop)->Prop
 | [],K=>K []
 | (t,d) :: r,K=>pbD box d fun d=>pbE box r fun r=>K ((t,d) :: r)
def immLL:List (List D)->Bool|[]=>true|c :: r=>immL c && immLL r
theorem immLL_at:∀ {l:List (List D)},immLL l=true->∀ (i:Nat) c,l[i]? = some c->immL c=true
 | [],_,i,c,h=>by simp at h
 | x :: l,hf,i,c,h=>by
  simp only[immLL,Bool.and_eq_true] at hf
  cases i with
  | zero=>simp at h;subst h;exact hf.1
  | succ i=>exact immLL_at hf.2 i c (by simpa using h)
section
variable {sz : TypeId → Nat} {w0 w : World} {V0 : Fr} {V V' : Vw} {μ : List Nat} {ω : List Value} {box : List (List D)} {row : Rows} {a : Act}
theorem RS.fnh_{v:Value}{f:FuncId}{x y:List D}(h:RS sz V μ ω v (.fnh f x y)):∃ vs us:Array Value,v = .func (.func f) vs us/\vs.size=x.length/\us.size=y.length/\(∀ (j:Nat) v d,vs[j]? = some v->x[j]? = some d->RS sz V μ ω v d) /\
    ∀ (j:Nat) v d,us[j]? = some v->y[j]? = some d->RS sz V μ ω v d:=by
 cases h with
 | imm _ _ h=>cases h
 | fnh f x y vs us h1 h2 hR1 hR2=>exact⟨vs,us,rfl,h1,h2,hR1,hR2⟩
theorem pbD1_sound(hM:Mem sz w0 V0 V μ ω box row w)(hi:immLL box=true)(hV:VLe V V')(hp:∀ (i g:Nat) (off:Nat) v,μ[i]? = some g->w.cell? ⟨g,off,none⟩=some v->V' ⟨g,off,none⟩=some v){d:D}{K:D->Prop}(h:pbD1 box d K) :
    ∃ d',K d'/\∀ v,RS sz V μ ω v d->RI sz V' v d':=by
 unfold pbD1 at h
 split at h
 . rename_i i off
   split at h
   . rename_i cs hcs
     rw[forceL_eq] at h
     refine⟨_,h,fun v hv=>?_⟩
     obtain⟨g,hg,rfl⟩:=hv.bp_
     obtain⟨vs,t,hh,hs,ho,hR,_⟩:=hM.hbox i g cs hg hcs
     refine .ep _ _ (fun j=>vs.getD (off+j) undef) (fun j d hd=>?_) fun j d hd=>?_
     . rw[List.getElem?_drop] at hd
       have hlt:off+j<vs.size:=by rw[hs];exact (gSm0.1 hd).1
       have hvj:vs[off+j]? = some vs[off+j]:=Array.getElem?_eq_getElem hlt
       have hadd:(⟨g,off,none⟩:Addr).add j=⟨g,off+j,none⟩:=by unfold Addr.add;split<;>simp_all
       rw[hadd]
       have hcell:w.cell? ⟨g,off+j,none⟩=some vs[off+j]:=by rw[cell_of_row w g (off+j) vs t (0,0) hh,hvj]
       refine⟨?_,?_⟩
       . rw[hp i g _ _ hg hcell]
         simp[Array.getD,hlt]
       . rw[show vs.getD (off+j) undef=vs[off+j] by simp[Array.getD,hlt]]
         exact ho _ (by simp)
     . rw[List.getElem?_drop] at hd
       have hlt:off+j<vs.size:=by rw[hs];exact (gSm0.1 hd).1
       rw[show vs.getD (off+j) undef=vs[off+j] by simp[Array.getD,hlt]]
       exact (imm1_ri (hR _ _ d (Array.getElem?_eq_getElem hlt) hd) (immL_at (immLL_at hi i cs hcs) _ d hd)).mono hV
   . exact⟨_,h,fun v _=>.u v⟩
 . exact⟨_,h,fun v _=>.u v⟩
 . exact⟨_,h,fun v _=>.u v⟩
 . split at h
   . rename_i cs hc
     exact⟨_,h,fun v hv=>(immD_ri hv hc).mono hV⟩
   . exact⟨_,h,fun v _=>.u v⟩
 . exact⟨_,h,fun v _=>.u v⟩
 . exact⟨_,h,fun v _=>.u v⟩
 . exact⟨_,h,fun v _=>.u v⟩
 . exact⟨_,h,fun v _=>.u v⟩
 . rename_i h1 h2 h3 h4 h5 h6 h7 h8
   rw[D.force_eq] at h
   refine⟨d,h,fun v hv=>(imm1_ri hv ?_).mono hV⟩
   cases d<;>first|rfl|(exfalso;first|exact h1 _ _ rfl|exact h2 _ _ rfl|exact h3 _ _ _ _ rfl|exact h4 _ rfl|exact h5 _ rfl|exact h6 _ _ _ rfl|exact h7 _ _ _ _ rfl|exact h8 _ _ _ _ rfl)
theorem pbL_sound(hM:Mem sz w0 V0 V μ ω box row w)(hi:immLL box=true)(hV:VLe V V')(hp:∀ (i g:Nat) (off:Nat) v,μ[i]? = some g->w.cell? ⟨g,off,none⟩=some v->V' ⟨g,off,none⟩=some v):∀ {l:List D} {K:List D->Prop},pbL box l K ->
    ∃ l',K l'/\l'.length=l.length/\∀ (j:Nat) d d' v,l[j]? = some d->l'[j]? = some d'->RS sz V μ ω v d->RI sz V' v d'
 | [],K,h=>⟨[],h,rfl,fun j d d' v h1=>by simp at h1⟩
 | d :: l,K,h=>by
  simp only[pbL] at h
  obtain⟨d',h,hd⟩:=pbD1_sound hM hi hV hp h
  obtain⟨l',h,hl,hr⟩:=pbL_sound hM hi hV hp h
  refine⟨d' :: l',h,by simp[hl],fun j e e' v h1 h2 hv=>?_⟩
  cases j with
  | zero=>simp at h1 h2;subst h1 h2;exact hd v hv
  | succ j=>exact hr j e e' v (by simpa using h1) (by simpa using h2) hv
theorem pbD_sound(hM:Mem sz w0 V0 V μ ω box row w)(hi:immLL box=true)(hV:VLe V V')(hp:∀ (i g:Nat) (off:Nat) v,μ[i]? = some g->w.cell? ⟨g,off,none⟩=some v->V' ⟨g,off,none⟩=some v){d:D}{K:D->Prop}(h:pbD box d K) :
    ∃ d',K d'/\∀ v,RS sz V μ ω v d->RI sz V' v d':=by
 unfold pbD at h
 split at h
 . obtain⟨x',h,hx,hxr⟩:=pbL_sound hM hi hV hp h
   obtain⟨y',h,hy,hyr⟩:=pbL_sound hM hi hV hp h
   refine⟨_,h,fun v hv=>?_⟩
   obtain⟨vs,us,rfl,h1,h2,hR1,hR2⟩:=hv.fnh_
   refine .fn _ _ _ vs us (by rw[h1,hx]) (by rw[h2,hy]) (fun j v d' a b=>?_) fun j v d' a b=>?_
   . obtain⟨hlt,_⟩:=Array.getElem?_eq_some_iff.1 a
     have:=gEt0 (show j<_ by rw[<- h1];exact hlt)
     exact hxr j _ d' v this b (hR1 j v _ a this)
   . obtain⟨hlt,_⟩:=Array.getElem?_eq_some_iff.1 a
     have:=gEt0 (show j<_ by rw[<- h2];exact hlt)
     exact hyr j _ d' v this b (hR2 j v _ a this)
 . exact pbD1_sound hM hi hV hp h
theorem pbE_sound{n:Nat}(hM:Mem sz w0 V0 V μ ω box row w)(hi:immLL box=true)(hV:VLe V V')(hp:∀ (i g:Nat) (off:Nat) v,μ[i]? = some g->w.cell? ⟨g,off,none⟩=some v->V' ⟨g,off,none⟩=some v):∀ {env:List (Nat × D)} {K:List (Nat × D)->Prop},pbE box env K ->
    ∃ env',K env'/\∀ t v,RS sz V μ ω v (look env t)->RI sz V' v (look env' t)
 | [],K,h=>⟨[],h,fun t v _=>.u v⟩
 | (k,d) :: env,K,h=>by
  simp only[pbE] at h
  obtain⟨d',h,hd⟩:=pbD_sound hM hi hV hp h
  obtain⟨env',h,he⟩:=pbE_sound (n:=n) hM hi hV hp h
  refine⟨(k,d') :: env',h,fun t v hv=>?_⟩
  unfold look at hv ⊢
  cases hb:Nat.beq k t with
  | true=>rw[hb] at hv;exact hd v hv
  | false=>rw[hb] at hv;exact he t v hv
end
end
end Go.Vx
namespace Go.Vx
open Go.RowKit
section
variable {P : Program} {T : Tab} {H M : Objs} {Q : Exit → St → Objs → Prop} {c : Code} {s : St}
theorem OkM.ghost(t:Nat)(e:TypeId){env:List (Nat × D)}{box:List (List D)}{row:Rows}{n:Nat}(ht:look env t = .nilS)
    (h:snocK row (some (e,[])) fun row'=>natLit row.length fun r=>OkM P T H c Q ⟨(t,.own r 0) :: env,box,row',n⟩ M):OkM P T H c Q ⟨env,box,row,n⟩ M:=by
 refine⟨fun w0 F V μ ω a w hSM=>?_⟩
 have hS:=hSM.sim
 simp only[snocK_eq,natLit_eq] at h
 have hM:=hS.mem.newRow (w':=w) (Ext.refl w) (v:=.slice none 0 0) (e:=e) (xs:=[]) (vals:=[]) ⟨by simp,.inl ⟨rfl,rfl⟩⟩ ⟨by simp,by simp,by simp⟩ (by simp[Value.ownBlock])
 have hv:=hS.env t
 dsimp only at hv
 rw[ht] at hv
 refine h.run w0 F V μ (ω++[.slice none 0 0]) a w (hSM.of ⟨hS.tmps,hS.defers,fun x=>?_,hM⟩)
 show RS _ _ _ _ _ (look ((t,.own row.length 0) :: env) x)
 unfold look
 split
 . rename_i hb
   rw[<- beq_nat_true hb,hv.nilS_]
   have hl:row.length=ω.length:=hS.mem.rl.symm
   refine .own _ 0 none 0 0 ?_ (Nat.le_refl _)
   rw[hl,List.getElem?_append_right (Nat.le_refl _)]
   simp
 . exact (hS.env x).mono (.refl V) (.refl μ) (.append _ _)
theorem OkM.ghostB(i j:Nat)(e:TypeId){env:List (Nat × D)}{box:List (List D)}{cs:List D}{row:Rows}{n:Nat}(hi:box[i]? = some cs)(hj:cs[j]? = some .nilS)
    (h:snocK row (some (e,[])) fun row'=>natLit row.length fun r=>setK cs j (.own r 0) fun cs'=>setK box i cs' fun box'=>OkM P T H c Q ⟨env,box',row',n⟩ M):OkM P T H c Q ⟨env,box,row,n⟩ M:=by
 refine⟨fun w0 F V μ ω a w hSM=>?_⟩
 have hS:=hSM.sim
 simp only[snocK_eq,natLit_eq] at h
 obtain⟨hjl,h⟩:=setK_iff _ _ _ _ h
 obtain⟨hil,h⟩:=setK_iff _ _ _ _ h
 have hM:=hS.mem.newRow (w':=w) (Ext.refl w) (v:=.slice none 0 0) (e:=e) (xs:=[]) (vals:=[]) ⟨by simp,.inl ⟨rfl,rfl⟩⟩ ⟨by simp,by simp,by simp⟩ (by simp[Value.ownBlock])
 have hl:row.length=ω.length:=hS.mem.rl.symm
 have hown:RS (szOf T) V μ (ω++[.slice none 0 0]) (.slice none 0 0) (.own row.length 0):=by
  refine .own _ 0 none 0 0 ?_ (Nat.le_refl _)
  rw[hl,List.getElem?_append_right (Nat.le_refl _)]
  simp
 refine h.run w0 F V μ (ω++[.slice none 0 0]) a w (hSM.of ⟨hS.tmps,hS.defers,fun x=>(hS.env x).mono (.refl V) (.refl μ) (.append _ _),?_⟩)
 refine⟨hM.below,hM.vok,hM.vle,hM.vold,by simpa using hM.bl,?_,hM.rl,hM.hrow,hM.uniq,hM.new,hM.vmut,hM.away⟩
 intro q g cs2 h1 h2
 by_cases hq:q=i
 . subst hq
   rw[List.getElem?_set_self hil] at h2
   cases h2
   obtain⟨us,t',a1,b,c',d,ty⟩:=hM.hbox q g cs h1 hi
   refine⟨us,t',a1,by simpa using b,c',fun k v d' e1 e2=>?_,bTy_set ty j rfl⟩
   by_cases hk:k=j
   . subst hk
     rw[List.getElem?_set_self hjl] at e2
     cases e2
     have:=d k v _ e1 hj
     rw[this.nilS_]
     exact hown
   . rw[List.getElem?_set_ne (Ne.symm hk)] at e2
     exact d k v d' e1 e2
 . rw[List.getElem?_set_ne (Ne.symm hq)] at h2
   exact hM.hbox q g cs2 h1 h2
theorem OkM.pubB{env:List (Nat × D)}{box:List (List D)}{row:Rows}{n:Nat}(hi:immLL box=true)(h:pbE box env fun env'=>OkM P T H c Q ⟨env',[],[],n⟩ M):OkM P T H c Q ⟨env,box,row,n⟩ M:=by
 refine⟨fun w0 F V μ ω a w hSM=>?_⟩
 have hS:=hSM.sim
 have hM:=hS.mem
 dsimp only at hM
 classical
 obtain⟨V',hV'⟩:∃ V':Vw,V'=(fun p=>if ∃ i:Nat,μ[i]? = some p.block then w.cell? p else V p:Vw):=⟨(fun p=>if ∃ i:Nat,μ[i]? = some p.block then w.cell? p else V p:Vw),rfl⟩
 have hle:VLe V V':=fun p v hp=>by
  rw[hV']
  dsimp only
  split
  . exact hM.vok.2 p v hp
  . exact hp
 have hok:VOk V' w:=⟨⟨fun p v hp=>hle p v (hM.vok.1.1 p v hp),hM.vok.1.2⟩,fun p v hp=>by
  rw[hV'] at hp
  dsimp only at hp
  split at hp
  . exact hp
  . exact hM.vok.2 p v hp⟩
 obtain⟨env',hk,he⟩:=pbE_sound (n:=n) hM hi hle (fun i g off v h1 h2=>by rw[hV'];dsimp only;rw[if_pos ⟨i,h1⟩];exact h2) h
 refine hk.run w0 F V' [] [] a w (hSM.of ⟨hS.tmps,hS.defers,fun t=>.imm _ _ (he t _ (hS.env t)),?_⟩)
 refine⟨hM.below,hok,fun p v hp=>hle p v (hM.vle p v hp),fun p hp=>?_,rfl,by simp,rfl,by simp,fun l l' g h1=>?_,fun l g h1=>?_,fun p u l _ h1=>?_,fun x hx=>let ⟨a,b,c,d,e⟩:=hM.away x hx;⟨a,b,fun l h1=>by
     cases l with
     | inl i=>simp[Own] at h1
     | inr r=>obtain⟨v,x,h1,_⟩:=h1;simp at h1,fun p u hp hb=>by
     rw[hV'] at hp
     dsimp only at hp
     split at hp
     . rename_i hh
       obtain⟨i,hi⟩:=hh
       exact c (.inl i) (hb ▸ hi)
     . exact d p u hp hb,e⟩⟩
 . rw[<- hM.vold p hp,hV']
   dsimp only
   rw[if_neg]
   rintro⟨i,hi⟩
   have:=(hM.new (.inl i) p.block hi).1
   omega
 all_goals
  cases l with
  | inl i=>simp[Own] at h1
  | inr r=>obtain⟨v,x,h1,_⟩:=h1;simp at h1
end
end Go.Vx
namespace Go.Vx
open Go.RowKit
def dopM(P:Program)(T:Tab)(H M:Objs)(s:St)(o:Oper)(K:D->St->Objs->Prop):Prop:=
 match o.op with
 | .lookup t x i ok=>lookM P H M t (s.get x) (s.get i) ok fun d=>K d s M
 | .mapUpdate t m k x=>updM P M t (s.get m) (s.get k) (s.get x) fun M=>K (.tup []) s M
 | .call { callee:=.value (.func f),args,argTypes }=>dop P T s o (fun d s=>K d s M)\/callH P T H M s f argTypes.toList (s.gets args.toList) K
 | _=>dop P T s o fun d s=>K d s M
def dopsTM(P:Program)(T:Tab)(H:Objs)(ops:List Oper)(A:Waits):Pl->Bool->List (Nat × Src)->St->Objs->(St->Objs->Prop)->Prop
 | .nil,f,_,s,M,K=>match f with|true=>True|false=>K s M
 | .q i r,_,ps,s,M,K=>match ops[i]? with
  | none=>False
  | some o=>wantK ops s o.guard
   (fun s=>qop P T s o fun d s'=>putK s' o.dst d fun s'=>dopsTM P T H ops A r false ((i,srcQ s o) :: ps) s' M K)
   (fun s=>putK s o.dst (.tup []) fun s=>dopsTM P T H ops A r false ((i,.reg) :: ps) s M K)
 | .l i r,_,ps,s,M,K=>match ops[i]? with
  | none=>False
  | some o=>wantK ops s o.guard
   (fun s=>clearK (befW A) i s (effOf s o) ps <| dopM P T H M s o fun d s M=>putK s o.dst d fun s=>dopsTM P T H ops A r false (filterP (befW A) i ps) s M K)
   (fun s=>putK s o.dst (.tup []) fun s=>dopsTM P T H ops A r false (filterP (befW A) i ps) s M K)
 | .alt i a r,_,ps,s,M,K=>(match ops[i]? with
  | none=>False
  | some o=>wantK ops s o.guard
   (fun s=>clearK (befW A) i s (effOf s o) ps <| dopM P T H M s o fun d s M=>putK s o.dst d fun s=>dopsTM P T H ops A a false (filterP (befW A) i ps) s M K)
   (fun s=>putK s o.dst (.tup []) fun s=>dopsTM P T H ops A a false (filterP (befW A) i ps) s M K))/\dopsTM P T H ops A r true ps s M K
section
variable {w0 w w' : World} {F : Fr} {V : Vw} {μ : List Nat} {ω : List Value} {s : St} {a : Act} {P : Program} {T : Tab} {H M : Objs}
theorem putObj_cell{g:Nat}{o o':Obj}(hg:w.heap[g]? = some o)(hn:noC o){q:Addr}{v:Value}(hc:w.cell? q=some v):(w.putObj g o').cell? q=some v:=by
 refine (World.cell?_of_block (World.putObj_heap_other fun e=>?_)).trans hc
 obtain⟨o2,ho2,hc2⟩:=cells_of_cell hc
 rw[e,hg] at ho2
 cases ho2
 cases o<;>simp_all[Obj.isCells]
 exact hn _ _ _ rfl
def VokSM(P:Program)(T:Tab)(w0:World)(F:Fr)(H:Objs)(E:Src)(V:Vw)(μ:List Nat)(ω:List Value)(a:Act)(w:World)(o:Oper)(K:D->St->Objs->Prop):Prop:=
 ∀ (next:Act->World->Prop) (Q:Exit->Act->World->Prop),
  (∀ d v s V' μ' ω' M' w',K d s M'->RS (szOf T) V' μ' ω' v d->SimM (szOf T) w0 F V' μ' ω' s a w' H M'->Step E V μ ω w V' μ' ω' w'->next (a.put o.dst v) w')->o.wp P a w next Q
theorem callH_soundS(hS:SimM (szOf T) w0 F V μ ω s a w H M){dst:Option Nat}{type:TypeId}{pos:String}{after:Array Edge}{guard:Option (Nat × Bool)}{f:FuncId}{args:Array Operand}{argTypes:Array TypeId}{K:D->St->Objs->Prop}
    (h:callH P T H M s f argTypes.toList (s.gets args.toList) K):VokSM P T w0 F H .none V μ ω a w ⟨dst,.call ⟨.value (.func f),args,argTypes⟩,type,pos,after,guard⟩ K:=by
 obtain⟨V1,ds1,s1,h,hv1,hS1,hle1⟩:=pubsK_sound 8 hS.sim (hS.sim.gets _) h
 obtain⟨es,⟨R,hf,h⟩,hes,hri⟩:=exposN_sound argTypes.toList ds1 _ _ hv1 h
 obtain⟨env,box,row,n⟩:=s1
 intro next Q hn
 have hcalls:=hf.run V1 w (args.map a.eval) hS1.mem.vok (fun x hx=>hS.read hx) (by have:=hv1.1;simp at this ⊢;omega) (fun j v d h1 h2=>hri j v d (by simpa using h1) h2)
 unfold Oper.wp
 have hrun:(execOp a.eval ⟨dst,.call ⟨.value (.func f),args,argTypes⟩,type,pos,after,guard⟩).run P w = .ok (.enter f (args.map a.eval)) w:=by
  simp only[execOp,resolve,Act.eval,Deferred.ofValue,invoke,Sem.run_bind,Sem.run_pure,Result.andThen_ok]
  rw[show (#[]++args.map a.eval)++#[]=args.map a.eval by simp,hf.call]
 rw[hrun]
 show Calls P f (args.map a.eval) w _
 refine hcalls.mono ?_
 rintro e w'' ⟨V',ω0,row0,v,d,M',rfl,hR,hrs,hres,hM',hnd⟩
 have hMm:=hS1.mem.call hres
 have hk:=h d row0 M' hR
 have hl:row.length=ω.length:=hS1.mem.rl.symm
 dsimp only at hk
 rw[hl] at hk
 obtain⟨d',hk,hr⟩:=shiftD_sound (μ:=μ) (V':=V') (ω':=ω++ω0) (VLe.refl V') (fun r u hu=>by rw[List.getElem?_append_right (by omega),Nat.add_sub_cancel];exact hu) hrs hk
 rw[catK_eq,appM_eq] at hk
 have hx:Ext w w'':=hres.below
 obtain⟨ms,d1,d2,d3⟩:=hS1.defers.marks
 have hlt:∀ x ∈ M++F.kp,x.1<w.heap.size:=fun x hx=>(Array.getElem?_eq_some_iff.1 (hS.sim.defers.kept x hx).1).1
 have hbase:=hS.sim.mem.below.size
 refine hn d' v _ V' μ (ω++ω0) (M'++M) w'' hk hr ⟨⟨hS1.tmps,⟨⟨ms,d1,d2,fun D hD=>?_⟩,fun x hx'=>?_⟩,fun t=>(hS1.env t).mono hres.le (.refl μ) (.append _ _),hMm.fr rfl⟩,?_,hS.old⟩ (.ext (fun p u hp=>hres.le p u (hle1 p u hp)) (.refl _) (.append _ _) hx)
 . obtain⟨f1,f2,f3⟩:=d3 D hD
   refine⟨hx.heap f1,f2,fun x hx'=>?_⟩
   have hx2:x ∈ M'++M++F.kp:=hx'
   rw[List.append_assoc] at hx2
   rcases mAp0.1 hx2 with hx2|hx2
   . have h1:=(hM' x hx2).2.2
     have h2:=(Array.getElem?_eq_some_iff.1 f1).1
     omega
   . exact f3 x hx2
 . have hx2:x ∈ M'++M++F.kp:=hx'
   rw[List.append_assoc] at hx2
   rcases mAp0.1 hx2 with hx2|hx2
   . obtain⟨h1,h2,h3⟩:=hM' x hx2
     exact⟨h1,h2,Nat.le_trans hbase h3⟩
   . obtain⟨h1,h2,h3⟩:=hS.sim.defers.kept x hx2
     exact⟨hx.heap h1,h2,h3⟩
 . rw[List.append_assoc,List.map_append]
   refine List.nodup_append.2 ⟨hnd,hS.nodup,fun x hx y hy e=>?_⟩
   obtain⟨z,hz,rfl⟩:=List.mem_map.1 hx
   obtain⟨z2,hz2,rfl⟩:=List.mem_map.1 hy
   have h1:=(hM' z hz).2.2
   have h2:=hlt z2 hz2
   omega
theorem dopM_sound(hT:TOk P T)(hS:SimM (szOf T) w0 F V μ ω s a w H M){o:Oper}{K:D->St->Objs->Prop}(h:dopM P T H M s o K):VokSM P T w0 F H (effOf s o) V μ ω a w o K:=by
 obtain⟨dst,op,type,pos,after,guard⟩:=o
 have plain:dop P T s ⟨dst,op,type,pos,after,guard⟩ (fun d s=>K d s M)->VokSM P T w0 F H (effOf s ⟨dst,op,type,pos,after,guard⟩) V μ ω a w ⟨dst,op,type,pos,after,guard⟩ K:=fun h next Q hn=>
  dop_sound hT hS.sim h next Q fun d v s' V' μ' ω' w' hk hr hS' hst=>hn d v s' V' μ' ω' M w' hk hr (hS.of hS') hst
 cases op
 case lookup t x i ok=>
  intro next Q hn
  unfold dopM lookM at h
  dsimp only at h
  split at h
  case h_2=>exact h.elim
  rename_i g hx
  obtain⟨κ,α,_,kd,f,l,c,k,hty,hg,hi,hk⟩:=h
  have hxv:=hS.sim.get x
  rw[hx] at hxv
  have hiv:=hS.sim.get i
  rw[hi] at hiv
  obtain⟨kt,et,_,hkey,_⟩:=hty.und
  have e2:=ground_val' hiv (hkey.ground k)
  have hl:=hty.lookup (hS.read hg) k ok
  have hst:Step .none V μ ω w V μ ω w:=.ext (fun _ _ h=>h) (.refl _) (.refl _) (Ext.refl w)
  unfold Oper.wp
  cases ok with
  | true=>
   have hrun:(execOp a.eval ⟨dst,.lookup t x i true,type,pos,after,guard⟩).run P w = .ok (.value (.tuple #[toV (f (lk l k)),.bool (lk l k).isSome])) w:=by
    simp[execOp,hxv.mv_,e2,hl]
   rw[hrun]
   refine hn _ _ s V μ ω M w hk (.tup _ _ rfl fun j v d h1 h2=>?_) hS hst
   match j with
   | 0=>simp at h1 h2;subst h1 h2;exact toV_rs (hty.vg _)
   | 1=>simp at h1 h2;subst h1 h2;exact .imm _ _ (.b _ _ Iff.rfl)
   | j+2=>simp at h1
  | false=>
   have hrun:(execOp a.eval ⟨dst,.lookup t x i false,type,pos,after,guard⟩).run P w = .ok (.value (toV (f (lk l k)))) w:=by
    simp[execOp,hxv.mv_,e2,hl]
   rw[hrun]
   exact hn _ _ s V μ ω M w hk (toV_rs (hty.vg _)) hS hst
 case mapUpdate t m k x=>
  intro next Q hn
  unfold dopM updM at h
  dsimp only at h
  split at h
  case h_2=>exact h.elim
  rename_i g hx
  obtain⟨κ,α,_,kd,f,l,c,n,key,val,hty,hg,hi,hvl,hk⟩:=h
  have hxv:=hS.sim.get m
  rw[hx] at hxv
  have hiv:=hS.sim.get k
  rw[hi] at hiv
  have hvv:=hS.sim.get x
  rw[hvl] at hvv
  obtain⟨kt,et,_,hkey,_⟩:=hty.und
  have e2:=ground_val' hiv (hkey.ground key)
  have e3:=ground_val' hvv (hty.vg _)
  rw[setM_eq] at hk
  have hkg:=hS.kept (mOf0 hg)
  have hu:=hty.update hkg.1 key val
  unfold Oper.wp
  have hrun:(execOp a.eval ⟨dst,.mapUpdate t m k x,type,pos,after,guard⟩).run P w = .ok .skip (w.putObj g (mObj kd f (mput l c key val).1 (mput l c key val).2)):=by
   simp[execOp,hxv.mv_,e2,e3,hu]
  rw[hrun]
  exact hn (.tup []) undef s V μ ω _ _ hk (RS.tup [] #[] rfl (fun j v d h=>by simp at h)) (hS.put _ (noC_map _ _) hg)
   ⟨fun _ _ h=>h,.refl _,fun _ _ _ _ h=>h,fun q v hc _=>putObj_cell hkg.1 hkg.2.1 hc⟩
 case call c=>
  obtain⟨callee,args,argTypes⟩:=c
  cases callee with
  | invoke r m=>exact plain h
  | builtin b=>exact plain h
  | value f=>
   cases f<;>first|exact plain h|skip
   rcases h with h|h
   . exact plain h
   . exact callH_soundS hS h
 all_goals exact plain h
theorem dopsTM_sound(hT:TOk P T){ops:List Oper}{A:Waits}(hns:Region.noSelect ops.toArray=true)(hA:waitsB ops.toArray A=true){Q:Exit->Act->World->Prop}(hQ:∀ c a w,¬ Q (.panic c) a w) :
    ∀ (p:Pl) (f:Bool) (n:Nat) (listed:Array Bool) (ps:Pends) (sps:List (Nat × Src)) (s:St) (V:Vw) (μ:List Nat) (ω:List Value) (a:Act) (w:World) (M:Objs) (K:St->Objs->Prop),
     planT ops.toArray p f n listed=true->Closed ops.toArray listed->SimM (szOf T) w0 F V μ ω s a w H M->All2 (PendOK V μ ω w) ps sps->dopsTM P T H ops A p f sps s M K ->
     (∀ s M V μ ω a w,K s M->SimM (szOf T) w0 F V μ ω s a w H M->Q .normal a w) ->
     match f with
     | false=>wpAnyP P ops.toArray (befW A) Q p.depth ps listed a w
     | true=>∀ j ∈ p.heads,wpOp P ops.toArray Q j (fun a' w'=>(∀ x ∈ ps,befW A x.1 j=false->x.2 w')/\wpAnyP P ops.toArray (befW A) Q n (ps.filter fun x=>!befW A x.1 j) (listed.setIfInBounds j true) a' w') a w
 | .nil,f,n,listed,ps,sps,s,V,μ,ω,a,w,M,K,hB,hcl,hS,hps,h,hq=>by
  cases f with
  | true=>intro j hj;cases hj
  | false=>exact⟨by simpa[planT] using hB,hq _ _ _ _ _ _ _ h hS⟩
 | .q i r,f,n,listed,ps,sps,s,V,μ,ω,a,w,M,K,hB,hcl,hS,hps,h,hq=>by
  cases f with
  | true=>intro j hj;cases hj
  | false=>
  simp only[planT,Bool.not_false,Bool.true_and,Bool.and_eq_true] at hB
  obtain⟨⟨⟨hr,hf⟩,hq1⟩,hB⟩:=hB
  simp only[dopsTM] at h
  cases ho:ops[i]? with
  | none=>rw[ho] at h;exact h.elim
  | some o=>
   rw[ho] at h
   dsimp only at h
   have ho':ops.toArray[i]? = some o:=by simpa using ho
   rw[ho'] at hq1
   have hri:i ∈ Region.ready .any ops.toArray listed:=by simpa using hr
   have hall:∀ x ∈ ps,x.2 w:=fun x hx=>let ⟨y,hy⟩:=hps.left x hx;hy.mono_
   rcases wantK_sound (o:=o) hS.sim h with⟨hw,s1,h,hS1⟩|⟨hw,s1,h,hS1⟩
   . obtain⟨d,v,s2,h,hr2,hS2,p,n,hsrc,hq2⟩:=qop_sound hT hS1 h
     obtain⟨s3,h,hS3⟩:=putK_sound hS2 hr2 h
     replace hS3:=hS.of hS3
     refine wpAnyP_first (C:=KeepN p n w) (v:=v) (fun i j=>befW_spec hA i j) ho' (Region.noSelect_spec hns) (fun c a w hc=>absurd hc (hQ _ _ _)) r.depth ps listed a w hcl (Region.free_spec ho' hf) hri
      (.inl ⟨hw,fun w' hk=>quiet_value (by simpa using hq1) (hq2 w' ?_)⟩) (fun _ _ _ h=>h) hall ?_
     . unfold QR
       split
       . exact hk
       . rename_i heq;simp[isQ,heq] at hq1
       . rename_i heq;simp[isQ,heq] at hq1
       . trivial
     . exact dopsTM_sound hT hns hA hQ r false 0 _ _ _ s3 V μ ω _ w M K hB (hcl.set hri) hS3 (.cons ⟨rfl,p,n,w,rfl,hsrc,fun _ _ _ h=>h⟩ hps) h hq
   . obtain⟨s3,h,hS3⟩:=putK_sound hS1 (v:=undef) (d:=.tup []) (RS.tup [] #[] rfl (fun j v d h=>by simp at h)) h
     replace hS3:=hS.of hS3
     refine wpAnyP_first (C:=KeepN ⟨0,0,none⟩ 0 w) (v:=undef) (fun i j=>befW_spec hA i j) ho' (Region.noSelect_spec hns) (fun c a w hc=>absurd hc (hQ _ _ _)) r.depth ps listed a w hcl (Region.free_spec ho' hf) hri
      (.inr ⟨hw,rfl⟩) (fun _ _ _ h=>h) hall ?_
     exact dopsTM_sound hT hns hA hQ r false 0 _ _ _ s3 V μ ω _ w M K hB (hcl.set hri) hS3 (.cons ⟨rfl,⟨0,0,none⟩,0,w,rfl,SrcP.zero _,fun _ _ _ h=>h⟩ hps) h hq
 | .l i r,f,n,listed,ps,sps,s,V,μ,ω,a,w,M,K,hB,hcl,hS,hps,h,hq=>by
  cases f with
  | true=>intro j hj;cases hj
  | false=>
  simp only[planT,Bool.not_false,Bool.true_and,Bool.and_eq_true,beq_iff_eq] at hB
  obtain⟨hr,hB⟩:=hB
  simp only[dopsTM] at h
  cases ho:ops[i]? with
  | none=>rw[ho] at h;exact h.elim
  | some o=>
   rw[ho] at h
   dsimp only at h
   have ho':ops.toArray[i]? = some o:=by simpa using ho
   have hri:i ∈ Region.ready .any ops.toArray listed:=by rw[hr];simp
   refine⟨fun h0=>(by rw[hr] at h0;cases h0),fun j hj=>?_⟩
   rw[hr] at hj
   have hji:j=i:=by simpa using hj
   subst hji
   unfold wpOp
   rw[ho']
   dsimp only
   rcases wantK_sound (o:=o) hS.sim h with⟨hw,s1,h,hS1⟩|⟨hw,s1,h,hS1⟩
   . rw[if_pos hw]
     obtain⟨h,hst⟩:=clearK_step hS1.mem hps h
     refine .inl (dopM_sound hT (hS.of hS1) h _ _ fun d v s2 V2 μ2 ω2 M2 w2 hk hr2 hS2 hstep=>?_)
     obtain⟨h1,h2⟩:=hst _ _ _ _ hstep
     obtain⟨s3,h,hS3⟩:=putK_sound hS2.sim hr2 hk
     replace hS3:=hS2.of hS3
     exact⟨h1,dopsTM_sound hT hns hA hQ r false 0 _ _ _ s3 _ _ _ _ w2 M2 K hB (hcl.set hri) hS3 h2 h hq⟩
   . rw[if_neg (by rw[hw];simp)]
     obtain⟨s3,h,hS3⟩:=putK_sound hS1 (v:=undef) (d:=.tup []) (RS.tup [] #[] rfl (fun j v d h=>by simp at h)) h
     replace hS3:=hS.of hS3
     exact⟨fun x hx _=>let ⟨y,hy⟩:=hps.left x hx;hy.mono_,dopsTM_sound hT hns hA hQ r false 0 _ _ _ s3 _ _ _ _ w M K hB (hcl.set hri) hS3 (hps.filter fun _ _ h=>h.1) h hq⟩
 | .alt i b r,f,n,listed,ps,sps,s,V,μ,ω,a,w,M,K,hB,hcl,hS,hps,h,hq=>by
  simp only[planT,Bool.and_eq_true] at hB
  obtain⟨⟨⟨hf,hri⟩,hBa⟩,hBr⟩:=hB
  have hri:i ∈ Region.ready .any ops.toArray listed:=by simpa using hri
  simp only[dopsTM] at h
  obtain⟨h,hrest⟩:=h
  have hone:wpOp P ops.toArray Q i (fun a' w'=>(∀ x ∈ ps,befW A x.1 i=false->x.2 w')/\wpAnyP P ops.toArray (befW A) Q b.depth (ps.filter fun x=>!befW A x.1 i) (listed.setIfInBounds i true) a' w') a w:=by
   cases ho:ops[i]? with
   | none=>rw[ho] at h;exact h.elim
   | some o=>
    rw[ho] at h
    dsimp only at h
    have ho':ops.toArray[i]? = some o:=by simpa using ho
    unfold wpOp
    rw[ho']
    dsimp only
    rcases wantK_sound (o:=o) hS.sim h with⟨hw,s1,h,hS1⟩|⟨hw,s1,h,hS1⟩
    . rw[if_pos hw]
      obtain⟨h,hst⟩:=clearK_step hS1.mem hps h
      refine .inl (dopM_sound hT (hS.of hS1) h _ _ fun d v s2 V2 μ2 ω2 M2 w2 hk hr2 hS2 hstep=>?_)
      obtain⟨h1,h2⟩:=hst _ _ _ _ hstep
      obtain⟨s3,h,hS3⟩:=putK_sound hS2.sim hr2 hk
      replace hS3:=hS2.of hS3
      exact⟨h1,dopsTM_sound hT hns hA hQ b false 0 _ _ _ s3 _ _ _ _ w2 M2 K hBa (hcl.set hri) hS3 h2 h hq⟩
    . rw[if_neg (by rw[hw];simp)]
      obtain⟨s3,h,hS3⟩:=putK_sound hS1 (v:=undef) (d:=.tup []) (RS.tup [] #[] rfl (fun j v d h=>by simp at h)) h
      replace hS3:=hS.of hS3
      exact⟨fun x hx _=>let ⟨y,hy⟩:=hps.left x hx;hy.mono_,dopsTM_sound hT hns hA hQ b false 0 _ _ _ s3 _ _ _ _ w M K hBa (hcl.set hri) hS3 (hps.filter fun _ _ h=>h.1) h hq⟩
  have hmore:=dopsTM_sound hT hns hA hQ r true b.depth listed ps sps s V μ ω a w M K hBr hcl hS hps hrest hq
  dsimp only at hmore
  cases f with
  | true=>
   intro j hj
   have hn:b.depth=n:=Nat.eq_of_beq_eq_true hf
   subst hn
   rcases List.mem_cons.1 hj with rfl|hj
   . exact hone
   . exact hmore j hj
  | false=>
   have hr:Region.ready .any ops.toArray listed=i :: r.heads:=by simpa using hf
   refine⟨fun h0=>(by rw[hr] at h0;cases h0),fun j hj=>?_⟩
   rw[hr] at hj
   rcases List.mem_cons.1 hj with rfl|hj
   . exact hone
   . exact hmore j hj
theorem OkM.region_tree(hT:TOk P T)(hm:P.follows .mixedOrders=true){s:St}{M:Objs}{Q:Exit->St->Objs->Prop}{id:Nat}{l:List Oper}(A:Waits)(p:Pl)(hB:planTok l.toArray A p=true)(h:dopsTM P T H l A p false [] s M (Q .normal)) :
    OkM P T H (.region id l.toArray true) Q s M:=by
 refine⟨fun w0 F V μ ω a w hS=>?_⟩
 simp only[planTok,Bool.and_eq_true,beq_iff_eq] at hB
 obtain⟨⟨⟨hns,hA⟩,hlen⟩,hB⟩:=hB
 have hd:Ext w { w with drawn:=w.drawn+1 }:=(Below.refl w.heap.size w).drew
 refine wp_mono (Q:=fun e a' w'=>e = .normal/\∃ s' V' μ' ω' M',Q .normal s' M'/\SimM (szOf T) w0 F V' μ' ω' s' a' w' H M') (wp_region_any hm ?_) ?_
 . refine wpAny_of_P (bef:=befW A) _ [] _ _ _ ?_
   have hz:∀ m j:Nat,(Array.replicate m false).getD j false=false:=fun m j=>by
    rcases Nat.lt_or_ge j m with h|h<;>simp[h]
   have hw:=dopsTM_sound hT hns hA (Q:=fun e a' w'=>e = .normal/\∃ s' V' μ' ω' M',Q .normal s' M'/\SimM (szOf T) w0 F V' μ' ω' s' a' w' H M') (fun c a w h=>by cases h.1) p false 0 _ [] [] s V μ ω a _ M _ hB
    (fun j o _ hl=>by rw[hz] at hl;cases hl) (hS.ext hd) .nil h fun s' M' V' μ' ω' a' w' hk hS'=>⟨rfl,s',V',μ',ω',M',hk,hS'⟩
   rw[hlen] at hw
   exact hw
 . rintro e a' w' ⟨rfl,s',V',μ',ω',M',hk,hS'⟩
   exact⟨s',V',μ',ω',M',hk,hS'⟩
end
end Go.Vx
namespace Go.Vx
open Go.RowKit Go.MapKept
def kP(k:Int × Int):D:=.agg [.i .i64 k.1,.i .i64 k.2]
theorem keyP{P:Program}{kt:TypeId}{a b:Field}(hu:P.underlying kt=some (.struct #[a,b]))(ha:a.offset=0)(hb:b.offset=1)
    (ta:P.underlying a.type=some (.int .i64))(tb:P.underlying b.type=some (.int .i64))(he:EqT P kt [.i .i64,.i .i64]):KeyOk P kt kP:=by
 have pa:P.plainKey a.type=true:=by unfold Program.plainKey;rw[ta]
 have pb:P.plainKey b.type=true:=by unfold Program.plainKey;rw[tb]
 have hp:∀ (k:Int × Int) (j:Nat) v d,(#[Value.int .i64 k.1,Value.int .i64 k.2]:Array Value)[j]? = some v → [D.i .i64 k.1,D.i .i64 k.2][j]? = some d → plainR d v:=by
  intro k j v d h1 h2
  match j with
  | 0=>simp at h1 h2;subst h1 h2;rfl
  | 1=>simp at h1 h2;subst h1 h2;rfl
  | j+2=>simp at h1
 have hv:∀ k:Int × Int,toV (kP k) = .agg #[.int .i64 k.1,.int .i64 k.2]:=fun k=>rfl
 refine⟨fun e k w=>?_,fun f l k w=>?_,fun k w=>?_,fun _=>rfl⟩
 . rw[hv]
   have h1:=run_part_plain w pa (xs:=#[Value.int .i64 k.1,Value.int .i64 k.2]) (off:=a.offset) (v:=.int .i64 k.1) (by rw[ha];rfl)
   have h2:=run_part_plain w pb (xs:=#[Value.int .i64 k.1,Value.int .i64 k.2]) (off:=b.offset) (v:=.int .i64 k.2) (by rw[hb];rfl)
   suffices hh:∀ n:Nat,(Instr.checkKey e (n+2) kt (.agg #[.int .i64 k.1,.int .i64 k.2])).run P w = .ok () w from hh 9998
   intro n
   have c1:(Instr.checkKey e (n+1) a.type (.int .i64 k.1)).run P w = .ok () w:=run_checkKey (d:=.int .i64) (k:=.int .i64 k.1) ta rfl e n
   have c2:(Instr.checkKey e (n+1) b.type (.int .i64 k.2)).run P w = .ok () w:=run_checkKey (d:=.int .i64) (k:=.int .i64 k.2) tb rfl e n
   unfold Instr.checkKey
   simp only[Sem.run_bind,run_underlying hu,Result.andThen_ok]
   by_cases na:a.name = "_" <;> by_cases nb:b.name = "_" <;> simp[na,nb,Sem.run_bind,h1,h2,c1,c2]
 . rw[hv,run_findKey_eq w (by rw[hu])]
   suffices h:∀ i,(Instr.findAsking kt (.agg #[.int .i64 k.1,.int .i64 k.2]) (l.map (mEnt kP f)) i).run P w = .ok ((mfind k l i).map fun x=>(x.1,toV (f (some x.2)))) w from h 0
   induction l with
   | nil=>intro i;simp[Instr.findAsking,mfind]
   | cons e l ih=>
    intro i
    obtain⟨k',b',n⟩:=e
    obtain⟨c,hc,hcc⟩:=he [.i .i64 k.1,.i .i64 k.2] [.i .i64 k'.1,.i .i64 k'.2] #[.int .i64 k.1,.int .i64 k.2] #[.int .i64 k'.1,.int .i64 k'.2] w rfl rfl rfl rfl (hp k) (hp k')
    simp only[List.map_cons,Instr.findAsking,Sem.run_bind,mEnt,hv,hc,Result.andThen_ok,mfind]
    have hk:c=true ↔ k'=k:=by
     rw[hcc]
     simp only[eqDs,eqD]
     constructor
     . intro h;exact Prod.ext (by simp_all) (by simp_all)
     . rintro rfl;simp
    by_cases h:k'=k
    . rw[hk.2 h,if_pos h];simp
    . rw[show c=false by cases c with|false=>rfl|true=>exact absurd (hk.1 rfl) h,if_neg h]
      exact ih (i+1)
 . rw[hv]
   have hs:∀ n,Instr.sameBits (n+2) (.agg #[.int .i64 k.1,.int .i64 k.2]) (.agg #[.int .i64 k.1,.int .i64 k.2])=true:=fun n=>by simp[Instr.sameBits]
   unfold Instr.keyThatStays
   rw[if_pos (hs 9998)]
   rfl
end Go.Vx
namespace Go.Vx
open Go.RowKit
abbrev Blks:=List (Nat × Obj)
def Fr.has(F:Fr)(M:Blks):Fr:={ F with kc:=M++F.kc }
structure SimH(sz:TypeId->Nat)(w0:World)(F:Fr)(V:Vw)(μ:List Nat)(ω:List Value)(s:St)(a:Act)(w:World)(M:Blks):Prop where
 sim:Sim sz w0 (F.has M) V μ ω s a w
 nodup:((M++F.kc).map (·.1)).Nodup
def GoH(T:Tab)(s:St)(M:Blks)(K:St->Blks->Prop):Prop:=
 ∀ (w0:World) (F:Fr) (V:Vw) (μ:List Nat) (ω:List Value) (a:Act) (w:World),SimH (szOf T) w0 F V μ ω s a w M->∃ s' V' μ' ω' M',K s' M'/\SimH (szOf T) w0 F V' μ' ω' s' a w M'
section
variable {M : Blks} {s : St}
theorem SimH.sub{sz:TypeId->Nat}{w0 w:World}{F:Fr}{V:Vw}{μ:List Nat}{ω:List Value}{a:Act}{M':Blks}(h:SimH sz w0 F V μ ω s a w M)(hs:M'.Sublist M):SimH sz w0 F V μ ω s a w M':=by
 have hm:∀ x ∈ M'++F.kc,x ∈ M++F.kc:=fun x hx=>by
  rcases mAp0.1 hx with hx|hx
  . exact List.mem_append_left _ (hs.subset hx)
  . exact List.mem_append_right _ hx
 exact⟨⟨h.sim.tmps,⟨h.sim.defers.marks,h.sim.defers.kept⟩,h.sim.env,h.sim.mem.fr rfl hm⟩,h.nodup.sublist ((hs.append (List.Sublist.refl _)).map _)⟩
end
end Go.Vx
namespace Go.Vx
open Go.RowKit
def BlkIs(sz:TypeId->Nat)(e:TypeId)(n c:Nat)(xs:List (List D))(o:Obj):Prop:=
 ∃ (cur:Array Value) (vals:List Value),o = .cells cur e (0,0)/\n=xs.length/\n<=c/\c<=maxLen/\cur.size=c*sz e/\cur.toList.take (n*sz e)=vals/\vals.length=n*sz e/\RowR sz (fun _=>none) e vals xs
theorem RowR.mono{sz:TypeId->Nat}{V V':Vw}{e:TypeId}{vals:List Value}{xs:List (List D)}(h:RowR sz V e vals xs)(hV:VLe V V'):RowR sz V' e vals xs:=
 ⟨h.one,h.len,fun i rw_ j d a b=>let ⟨u,x,y⟩:=h.rel i rw_ j d a b;⟨u,x,y.mono hV⟩⟩
theorem RowR.ground{sz:TypeId->Nat}{V V':Vw}{e:TypeId}{vals:List Value}{xs:List (List D)}(h:RowR sz V e vals xs)(hg:∀ x ∈ xs,grounds x=true):RowR sz V' e vals xs:=
 ⟨h.one,h.len,fun i rw_ j d a b=>let ⟨u,x,y⟩:=h.rel i rw_ j d a b;⟨u,x,y.ground (grounds_at (hg rw_ (mOf0 a)) j d b)⟩⟩
section
variable {P : Program} {T : Tab} {M : Blks} {K : St → Blks → Prop}
theorem GoH.perm{s:St}{M':Blks}(hp:M.Perm M')(h:K s M'):GoH T s M K:=by
 refine fun w0 F V μ ω a w hS=>⟨s,V,μ,ω,M',h,?_⟩
 have hm:∀ x ∈ M'++F.kc,x ∈ M++F.kc:=fun x hx=>((hp.append_right F.kc).mem_iff).2 hx
 exact⟨⟨hS.sim.tmps,⟨hS.sim.defers.marks,hS.sim.defers.kept⟩,hS.sim.env,hS.sim.mem.fr rfl hm⟩,((hp.append_right F.kc).map _).nodup_iff.1 hS.nodup⟩
theorem GoH.close(hT:TOk P T){env:List (Nat × D)}{box:List (List D)}{row:Rows}{nn:Nat}{t0 r g n cap:Nat}{e:TypeId}{ti:TI}{xs:List (List D)}(hti:T e=some ti)(ht:look env t0 = .tie r g n cap)
    (hr:row[r]? = some (some (e,xs)))(hg:∀ x ∈ xs,grounds x=true)(h:∀ o,BlkIs (szOf T) e n cap xs o->K ⟨env,box,row.set r none,nn⟩ ((g,o) :: M)):GoH T ⟨env,box,row,nn⟩ M K:=by
 intro w0 F V μ ω a w hS
 have hv:=hS.sim.env t0
 dsimp only at hv
 rw[ht] at hv
 have hω:=hv.tie_
 have hM:=hS.sim.mem
 dsimp only at hM
 obtain⟨A2,c2,vx,e1,hc,hmx,hA,hA2,hown,hR⟩:=hM.rowShape (hT _ _ hti).small hω hr
 injection e1 with e1 e2 e3
 subst e1 e3
 have hrr:r<row.length:=(gSm0.1 hr).1
 rcases hown.2 with⟨h1,_⟩|⟨g2,cap2,cur,h1,hb,hh,q1,q2,q3,q4⟩
 . cases h1
 cases h1
 have hOwn:Own μ ω row (.inr r) g:=⟨_,_,hω,hr,rfl⟩
 have own:∀ l b,Own μ ω (row.set r none) l b->Own μ ω row l b/\l ≠ .inr r:=by
  intro l b hl
  cases l with
  | inl i=>exact⟨hl,by simp⟩
  | inr q=>
   obtain⟨u,y,k1,k2,k3⟩:=hl
   by_cases hq:q=r
   . subst hq
     rw[List.getElem?_set_self hrr] at k2
     cases k2
   . rw[List.getElem?_set_ne (Ne.symm hq)] at k2
     exact⟨⟨u,y,k1,k2,k3⟩,by simpa using hq⟩
 refine⟨_,V,μ,ω,_,h (.cells cur e (0,0)) ⟨cur,vx,rfl,e2,q1,q2,q3,q4,hown.1,hR.ground hg⟩,⟨⟨hS.sim.tmps,⟨hS.sim.defers.marks,hS.sim.defers.kept⟩,hS.sim.env,?_⟩,?_⟩⟩
 . refine⟨hM.below,hM.vok,hM.vle,hM.vold,hM.bl,hM.hbox,by simp[hM.rl],?_,fun l l' b h1 h2=>hM.uniq l l' b (own l b h1).1 (own l' b h2).1,fun l b h1=>hM.new l b (own l b h1).1,fun p u l hp h1=>hM.vmut p u l hp (own l _ h1).1,fun x hx=>?_⟩
   . intro q u e' ys k1 k2
     by_cases hq:q=r
     . subst hq
       rw[List.getElem?_set_self hrr] at k2
       cases k2
     . rw[List.getElem?_set_ne (Ne.symm hq)] at k2
       exact hM.hrow q u e' ys k1 k2
   . have hx:x ∈ (g,Obj.cells cur e (0,0)) :: (M++F.kc):=hx
     rcases List.mem_cons.1 hx with rfl|hx
     . refine⟨hh,hb,fun l hl=>?_,fun p u hp hpb=>hM.vmut p u (.inr r) hp (hpb ▸ hOwn),fun hn=>hn _ _ _ rfl⟩
       obtain⟨k1,k2⟩:=own l _ hl
       exact k2 (hM.uniq l (.inr r) g k1 hOwn)
     . obtain⟨a1,b1,c1,d1⟩:=hM.away x hx
       exact⟨a1,b1,fun l hl=>c1 l (own l _ hl).1,d1⟩
 . show (((g,Obj.cells cur e (0,0)) :: (M++F.kc)).map (·.1)).Nodup
   rw[List.map_cons,List.nodup_cons]
   refine⟨fun hmem=>?_,hS.nodup⟩
   obtain⟨x,hx,hxg⟩:=List.mem_map.1 hmem
   exact (hM.away x hx).2.2.1 (.inr r) (by rw[hxg];exact hOwn)
theorem GoH.open{env:List (Nat × D)}{box:List (List D)}{row:Rows}{nn:Nat}{g n cap:Nat}(t1:Nat){e:TypeId}{xs:List (List D)}{o:Obj}(hb:BlkIs (szOf T) e n cap xs o)
    (h:natLit row.length fun q=>snocK row (some (e,xs)) fun row'=>K ⟨(t1,.tie q g n cap) :: env,box,row',nn⟩ M):GoH T ⟨env,box,row,nn⟩ ((g,o) :: M) K:=by
 simp only[natLit_eq,snocK_eq] at h
 intro w0 F V μ ω a w hS
 have hM:=hS.sim.mem
 dsimp only at hM
 obtain⟨cur,vals,rfl,hn,q1,q2,q3,q4,q5,hR⟩:=hb
 obtain⟨a1,b1,c1,d1,_⟩:=hM.away (g,.cells cur e (0,0)) (by show _ ∈ _ :: (M++F.kc);simp)
 dsimp only at a1 b1 c1 d1
 have hnd:((g,Obj.cells cur e (0,0)) :: (M++F.kc)).map (·.1) |>.Nodup:=hS.nodup
 rw[List.map_cons,List.nodup_cons] at hnd
 have hl:row.length=ω.length:=hM.rl.symm
 have hpre:Pre ω (ω++[.slice (some ⟨g,0,none⟩) n cap]):=.append _ _
 have hlt:g<w.heap.size:=(Array.getElem?_eq_some_iff.1 a1).1
 refine⟨_,V,μ,ω++[.slice (some ⟨g,0,none⟩) n cap],_,h,⟨⟨hS.sim.tmps,⟨hS.sim.defers.marks,hS.sim.defers.kept⟩,fun t=>?_,?_⟩,hnd.2⟩⟩
 . show RS _ _ _ _ _ (look ((t1,_) :: env) t)
   unfold look
   split
   . exact .tie _ _ _ _ _ (by rw[hl,List.getElem?_append_right (Nat.le_refl _),Nat.sub_self];rfl)
   . exact (hS.sim.env t).mono (.refl V) (.refl μ) hpre
 . refine⟨hM.below,hM.vok,hM.vle,hM.vold,hM.bl,fun i b cs k1 k2=>?_,by simp[hM.rl],fun r u e' ys k1 k2=>?_,fun l l' b h1 h2=>?_,fun l b h1=>?_,fun p u l hp h1=>?_,fun x hx=>?_⟩
   . obtain⟨us,t',x1,x2,x3,x4,x5⟩:=hM.hbox i b cs k1 k2
     exact⟨us,t',x1,x2,x3,fun j v d' e f=>(x4 j v d' e f).mono (.refl V) (.refl μ) hpre,x5⟩
   . rcases get_append_cases k2 with k2|⟨rfl,k5⟩
     . have hi:r<ω.length:=by rw[hM.rl];exact (gSm0.1 k2).1
       rw[List.getElem?_append_left hi] at k1
       exact hM.hrow r u e' ys k1 k2
     . rw[hl,List.getElem?_append_right (Nat.le_refl _),Nat.sub_self] at k1
       simp at k1
       subst k1
       cases k5
       have hR2:=hR.mono (V':=V) (fun _ _ h=>by cases h)
       exact⟨vals,⟨by rw[<- hn];exact q5,.inr ⟨g,cap,cur,e,(0,0),by rw[hn],b1,a1,by rw[<- hn];exact q1,q2,q3,by rw[<- hn];exact q4,.inl ⟨rfl,rfl⟩⟩⟩,hR2.one,hR2.len,hR2.rel⟩
   . rcases Own.row_new rfl rfl hM.rl h1 with h3|⟨e1,e2⟩<;>rcases Own.row_new rfl rfl hM.rl h2 with h4|⟨e3,e4⟩
     . exact hM.uniq l l' b h3 h4
     . simp only[Value.ownBlock,Option.some.injEq] at e4;subst e4;exact absurd h3 (c1 l)
     . simp only[Value.ownBlock,Option.some.injEq] at e2;subst e2;exact absurd h4 (c1 l')
     . rw[e1,e3]
   . rcases Own.row_new rfl rfl hM.rl h1 with h1|⟨rfl,e2⟩
     . exact hM.new l b h1
     . simp only[Value.ownBlock,Option.some.injEq] at e2;subst e2;exact⟨b1,hlt⟩
   . rcases Own.row_new rfl rfl hM.rl h1 with h1|⟨rfl,e2⟩
     . exact hM.vmut p u l hp h1
     . simp only[Value.ownBlock,Option.some.injEq] at e2;exact d1 p u hp e2.symm
   . have hx':x ∈ M++F.kc:=hx
     obtain⟨a2,b2,c2,d2⟩:=hM.away x (List.mem_cons_of_mem _ hx')
     refine⟨a2,b2,fun l hl2=>?_,d2⟩
     rcases Own.row_new rfl rfl hM.rl hl2 with h1|⟨rfl,e2⟩
     . exact c2 l h1
     . simp only[Value.ownBlock,Option.some.injEq] at e2
       exact hnd.1 (List.mem_map.2 ⟨x,hx',e2.symm⟩)
end
end Go.Vx
namespace Go.Vx
open Go.RowKit
section
variable {w0 w : World} {V0 : Fr} {V : Vw} {μ : List Nat} {ω : List Value} {box : List (List D)} {row : Rows} {P : Program} {T : Tab} {Q : Exit → St → Prop}
theorem Ok.tab{s:St}{c:Code}(T':Tab)(hT:szOf T'=szOf T)(h:Ok P T' c Q s):Ok P T c Q s:=⟨by rw[<- hT];exact h.run⟩
end
end Go.Vx
namespace Go.Vx
open Go.RowKit
structure SimB(sz:TypeId->Nat)(w0:World)(F:Fr)(V:Vw)(μ:List Nat)(ω:List Value)(s:St)(a:Act)(w:World)(H M:Objs)(B:Blks):Prop where
 m:SimM sz w0 (F.has B) V μ ω s a w H M
 nd:((B++F.kc).map (·.1)).Nodup
structure OkB(P:Program)(T:Tab)(H:Objs)(c:Code)(Q:Exit->St->Objs->Blks->Prop)(s:St)(M:Objs)(B:Blks):Prop where
 run:∀ (w0:World) (F:Fr) (V:Vw) (μ:List Nat) (ω:List Value) (a:Act) (w:World),SimB (szOf T) w0 F V μ ω s a w H M B ->
  c.wp P (fun e a' w'=>∃ s' V' μ' ω' M' B',Q e s' M' B'/\SimB (szOf T) w0 F V' μ' ω' s' a' w' H M' B') a w
section
variable {P : Program} {T : Tab} {H M : Objs} {B : Blks} {s : St} {Q : Exit → St → Objs → Blks → Prop}
theorem OkB.of_okM{c:Code}(h:OkM P T H c (fun e s' M'=>Q e s' M' B) s M):OkB P T H c Q s M B:=by
 refine⟨fun w0 F V μ ω a w hS=>wp_mono (h.run w0 (F.has B) V μ ω a w hS.m) ?_⟩
 rintro e a' w' ⟨s',V',μ',ω',M',hk,hS'⟩
 exact⟨s',V',μ',ω',M',B,hk,hS',hS.nd⟩
theorem SimB.of{sz:TypeId->Nat}{w0 w w':World}{F:Fr}{V V':Vw}{μ μ':List Nat}{ω ω':List Value}{s s':St}{a a':Act}(h:SimB sz w0 F V μ ω s a w H M B)(h':Sim sz w0 ((F.has B).with M) V' μ' ω' s' a' w'):SimB sz w0 F V' μ' ω' s' a' w' H M B:=
 ⟨h.m.of h',h.nd⟩
theorem SimB.sub{sz:TypeId->Nat}{w0 w:World}{F:Fr}{V:Vw}{μ:List Nat}{ω:List Value}{a:Act}{M':Objs}{B':Blks}(h:SimB sz w0 F V μ ω s a w H M B)(hs:M'.Sublist M)(hb:B'.Sublist B):SimB sz w0 F V μ ω s a w H M' B':=by
 have h1:=h.m.sub hs
 have h2:SimH sz w0 (F.with M') V μ ω s a w B':=SimH.sub (M:=B) ⟨h1.sim,h.nd⟩ hb
 exact⟨⟨h2.sim,h1.nodup,h1.old⟩,h2.nodup⟩
theorem OkB.go{c:Code}(h:GoH T s B fun s' B'=>OkB P T H c Q s' M B'):OkB P T H c Q s M B:=by
 refine⟨fun w0 F V μ ω a w hS=>?_⟩
 obtain⟨s',V',μ',ω',B',hk,hS'⟩:=h w0 (F.with M) V μ ω a w ⟨hS.m.sim,hS.nd⟩
 exact hk.run w0 F V' μ' ω' a w ⟨⟨hS'.sim,hS.m.nodup,hS.m.old⟩,hS'.nodup⟩
theorem OkB.perm{c:Code}{B':Blks}(hp:B.Perm B')(h:OkB P T H c Q s M B'):OkB P T H c Q s M B:=.go (.perm hp h)
def thenB(N:St->Objs->Blks->Prop)(Q:Exit->St->Objs->Blks->Prop):Exit->St->Objs->Blks->Prop
 | .normal,s,M,B=>N s M B
 | e,s,M,B=>Q e s M B
theorem OkB.seq{x y:Code}(h:OkB P T H x (thenB (OkB P T H y Q) Q) s M B):OkB P T H (.seq x y) Q s M B:=by
 refine⟨fun w0 F V μ ω a w hS=>wp_seq (wp_mono (h.run w0 F V μ ω a w hS) ?_)⟩
 rintro e a' w' ⟨s',V',μ',ω',M',B',hk,hS'⟩
 cases e with
 | normal=>exact OkB.run hk w0 F V' μ' ω' a' w' hS'
 | _=>exact⟨s',V',μ',ω',M',B',hk,hS'⟩
theorem OkB.skip(h:Q .normal s M B):OkB P T H .skip Q s M B:=⟨fun _ _ V μ ω _ _ hS=>wp_skip ⟨s,V,μ,ω,M,B,h,hS⟩⟩
theorem OkB.ret(h:Q .ret s M B):OkB P T H .ret Q s M B:=⟨fun _ _ V μ ω _ _ hS=>wp_ret ⟨s,V,μ,ω,M,B,h,hS⟩⟩
theorem OkB.exit{id:Nat}(h:Q (.exit id) s M B):OkB P T H (.exit id) Q s M B:=⟨fun _ _ V μ ω _ _ hS=>wp_exit ⟨s,V,μ,ω,M,B,h,hS⟩⟩
def blockB(id:Nat)(Q:Exit->St->Objs->Blks->Prop):Exit->St->Objs->Blks->Prop
 | .exit id',s,M,B=>match Nat.beq id' id with|true=>Q .normal s M B|false=>Q (.exit id') s M B
 | e,s,M,B=>Q e s M B
theorem OkB.block{id:Nat}{c:Code}(h:OkB P T H c (blockB id Q) s M B):OkB P T H (.block id c) Q s M B:=by
 refine⟨fun w0 F V μ ω a w hS=>?_⟩
 refine wp_block (wp_mono (h.run w0 F V μ ω a w hS) ?_)
 rintro e a' w' ⟨s',V',μ',ω',M',B',hk,hS'⟩
 cases e with
 | exit id'=>
  simp only[blockB] at hk
  simp only[Exit.inBlock]
  split at hk
  . rename_i hb
    rw[if_pos (beq_nat_true hb)]
    exact⟨s',V',μ',ω',M',B',hk,hS'⟩
  . rename_i hb
    rw[if_neg (by rintro rfl;rw[Nat.beq_refl] at hb;cases hb)]
    exact⟨s',V',μ',ω',M',B',hk,hS'⟩
 | _=>exact⟨s',V',μ',ω',M',B',hk,hS'⟩
theorem OkB.cond{c:Operand}{x y:Code}(h:condK s c (fun s=>OkB P T H x Q s M B) (fun s=>OkB P T H y Q s M B)):OkB P T H (.cond c x y) Q s M B:=by
 refine⟨fun w0 F V μ ω a w hS=>?_⟩
 have hc:=hS.m.sim.get c
 unfold condK at h
 split at h
 . rename_i hd;rw[hd] at hc;exact wp_cond_true hc.tt_ (h.run w0 F V μ ω a w hS)
 . rename_i hd;rw[hd] at hc;exact wp_cond_false hc.ff_ (h.run w0 F V μ ω a w hS)
 . rename_i p hd
   rw[hd] at hc
   obtain⟨b,hb,hbp⟩:=hc.bool
   cases b with
   | true=>exact wp_cond_true hb ((h.1 (hbp.1 rfl)).run w0 F V μ ω a w (hS.of (hS.m.sim.know c (by rw[hb];exact .imm _ _ .tt))))
   | false=>exact wp_cond_false hb ((h.2 (fun hp=>by simpa using hbp.2 hp)).run w0 F V μ ω a w (hS.of (hS.m.sim.know c (by rw[hb];exact .imm _ _ .ff))))
 . exact h.elim
theorem OkB.loopK{c:Code}{ι:Type}(L:List Nat)(k kb:Nat)(mk:ι->St)(mo:ι->Objs)(bo:ι->Blks)(I:ι->Prop)(m:ι->Nat)(x0:ι)(h0:I x0)(hm:(mo x0).Sublist M)(hb:(bo x0).Sublist B)(hs:keepK L k kb s (·=mk x0))
    (round:∀ x,I x->OkB P T H c (thenB (fun s' M' B'=>∃ x',m x' < m x/\I x'/\(mo x').Sublist M'/\(bo x').Sublist B'/\keepK L k kb s' (·=mk x')) Q) (mk x) (mo x) (bo x)):OkB P T H (.loop c) Q s M B:=by
 refine⟨fun w0 F V μ ω a w hS=>?_⟩
 replace hS:=hS.sub hm hb
 obtain⟨s',μ',ω',rfl,hS'⟩:=keepK_sound hS.m.sim hs
 refine wp_loop_at (fun n a w=>∃ x V μ ω,m x=n/\I x/\SimB (szOf T) w0 F V μ ω (mk x) a w H (mo x) (bo x)) ?_ ⟨x0,V,μ',ω',rfl,h0,hS.of hS'⟩
 rintro n a w ⟨x,V,μ,ω,rfl,hI,hS⟩
 refine wp_mono ((round x hI).run w0 F V μ ω a w hS) ?_
 rintro e a' w' ⟨s',V',μ',ω',M',B',hk,hS'⟩
 cases e with
 | normal=>
  obtain⟨x',hlt,hI',hsb,hsc,hk⟩:=hk
  replace hS':=hS'.sub hsb hsc
  obtain⟨s2,μ2,ω2,rfl,hS2⟩:=keepK_sound hS'.m.sim hk
  exact⟨m x',hlt,x',V',μ2,ω2,rfl,hI',hS'.of hS2⟩
 | _=>exact⟨s',V',μ',ω',M',B',hk,hS'⟩
theorem OkB.loopU{c:Code}{ι:Type}(L Cs:List Nat)(k kb:Nat)(C:ι->List D)(B':ι->List (List D)->List (List D))(R:ι->Rows->Rows)(mo:ι->Objs)(bo:ι->Blks)(I:ι->Prop)(m:ι->Nat)(x0:ι)(h0:I x0)(hm:(mo x0).Sublist M)(hb:(bo x0).Sublist B)
    (h:keepK L k kb s fun s0=>match s0 with
     | ⟨env,box,row,n⟩=>(keepK (catL Cs L) k kb s fun s1=>s1=⟨envCat Cs (C x0) env,B' x0 box,R x0 row,n⟩) /\
      ∀ x,I x->envCatK Cs (C x) env fun env'=>OkB P T H c (thenB (fun s' M' BB=>∃ x',m x' < m x/\I x'/\(mo x').Sublist M'/\(bo x').Sublist BB/\keepK (catL Cs L) k kb s' fun s1=>s1=⟨envCat Cs (C x') env,B' x' box,R x' row,n⟩) Q) ⟨env',B' x box,R x row,n⟩ (mo x) (bo x)):OkB P T H (.loop c) Q s M B:=by
 obtain⟨⟨env,box,row,n⟩,h1,h2⟩:=keepK_some h
 exact OkB.loopK (catL Cs L) k kb (fun x=>⟨envCat Cs (C x) env,B' x box,R x row,n⟩) mo bo I m x0 h0 hm hb h1 fun x hx=>by
  have:=h2 x hx
  rwa [envCatK_eq] at this
theorem OkB.joinK{c:Code}{ι:Type}(L:List Nat)(k kb:Nat)(mk:ι->St)(mo:ι->Objs)(bo:ι->Blks)(I:Exit->ι->Prop)
    (h1:OkB P T H c (fun e s' M' B'=>∃ x,I e x/\(mo x).Sublist M'/\(bo x).Sublist B'/\keepK L k kb s' (·=mk x)) s M B)(h2:∀ e x,I e x->Q e (mk x) (mo x) (bo x)):OkB P T H c Q s M B:=by
 refine⟨fun w0 F V μ ω a w hS=>wp_mono (h1.run w0 F V μ ω a w hS) ?_⟩
 rintro e a' w' ⟨s',V',μ',ω',M',B',⟨x,hI,hsb,hsc,hk⟩,hS'⟩
 replace hS':=hS'.sub hsb hsc
 obtain⟨s2,μ2,ω2,rfl,hS2⟩:=keepK_sound hS'.m.sim hk
 exact⟨_,V',μ2,ω2,_,_,h2 e x hI,hS'.of hS2⟩
theorem OkB.joinU{c:Code}{ι:Type}(L Cs:List Nat)(k kb:Nat)(C:ι->List D)(B':ι->List (List D)->List (List D))(R:ι->Rows->Rows)(mo:ι->Objs)(bo:ι->Blks)(I:Exit->ι->Prop)
    (h:keepK L k kb s fun s0=>match s0 with
     | ⟨env,box,row,n⟩=>(OkB P T H c (fun e s' M' BB=>∃ x,I e x/\(mo x).Sublist M'/\(bo x).Sublist BB/\keepK (catL Cs L) k kb s' fun s1=>s1=⟨envCat Cs (C x) env,B' x box,R x row,n⟩) s M B) /\
      ∀ e x,I e x->envCatK Cs (C x) env fun env'=>Q e ⟨env',B' x box,R x row,n⟩ (mo x) (bo x)):OkB P T H c Q s M B:=by
 obtain⟨⟨env,box,row,n⟩,h1,h2⟩:=keepK_some h
 exact OkB.joinK (catL Cs L) k kb (fun x=>⟨envCat Cs (C x) env,B' x box,R x row,n⟩) mo bo I h1 fun e x hx=>by
  have:=h2 e x hx
  rwa [envCatK_eq] at this
theorem OkB.sub{c:Code}{M':Objs}{B':Blks}(hs:M'.Sublist M)(hb:B'.Sublist B)(h:OkB P T H c Q s M' B'):OkB P T H c Q s M B:=⟨fun w0 F V μ ω a w hS=>h.run w0 F V μ ω a w (hS.sub hs hb)⟩
end
structure FSpecB(P:Program)(T:Tab)(f:FuncId)(ds:List D)(R:D->Objs->Blks->Prop):Prop where
 call:∀ args w,(callFunc f args).run P w = .ok (.enter f args) w
 run:∀ (V:Vw) (w:World) (args:Array Value),VOk V w->args.size=ds.length->(∀ (j:Nat) v d,args[j]? = some v->ds[j]? = some d->RI (szOf T) V v d) ->
  Calls P f args w fun e w'=>∃ V' v d M B,e = .returned v/\R d M B/\RS (szOf T) V' [] [] v d/\Res (szOf T) V V' [] [] w w'/\((∀ x ∈ M,w'.heap[x.1]? = some x.2/\noC x.2/\w.heap.size<=x.1)/\(M.map (·.1)).Nodup) /\
   (∀ x ∈ B,w'.heap[x.1]? = some x.2/\w.heap.size<=x.1/\(∀ p u,V' p=some u->p.block ≠ x.1)/\¬ noC x.2)/\(B.map (·.1)).Nodup
def retB(T:Tab)(fn:Func)(R:D->Prop)(s:St):Prop:=
 resK T s fn.results.toList fun ds=>pubsK 8 s ds fun ds _=>exposN T fn.resultTypes.toList ds fun es=>R (oneD es)
def endB(T:Tab)(fn:Func)(R:D->Objs->Blks->Prop):Exit->St->Objs->Blks->Prop
 | .normal,s,M,B=>retB T fn (fun d=>R d M B) s
 | .ret,s,M,B=>retB T fn (fun d=>R d M B) s
 | _,_,_,_=>False
theorem FSpecB.of_ok{P:Program}{T:Tab}(hT:TOk P T){f:FuncId}{fn:Func}{c:Code}(hf:P.funcs[f]? = some fn)(hb:fn.body=some c)(hcall:∀ args w,(callFunc f args).run P w = .ok (.enter f args) w){ds:List D}{R:D->Objs->Blks->Prop}(hn:ds.length<=fn.ntmps)
    (h:OkB P T [] c (endB T fn R) ⟨envOf 0 ds,[],[],fn.ntmps⟩ [] []):FSpecB P T f ds R:=by
 refine⟨hcall,fun V w args hV hl hR=>calls_of_wpM hf hb ?_⟩
 refine wp_mono (h.run w ⟨V,fun _=>undef,[],[],[]⟩ V [] [] _ w ⟨⟨start_sim hn hV hl hR,List.nodup_nil,by simp⟩,List.nodup_nil⟩) ?_
 rintro e a' w' ⟨s',V',μ',ω',M',B',hq,hS'⟩
 have fin:retB T fn (fun d=>R d M' B') s'->LeavesInM Fence.wide 0 P fn a'.tmps (fun e w'=>∃ V' v d M B,e = .returned v/\R d M B/\RS (szOf T) V' [] [] v d/\Res (szOf T) V V' [] [] w w'/\((∀ x ∈ M,w'.heap[x.1]? = some x.2/\noC x.2/\w.heap.size<=x.1)/\(M.map (·.1)).Nodup) /\
     (∀ x ∈ B,w'.heap[x.1]? = some x.2/\w.heap.size<=x.1/\(∀ p u,V' p=some u->p.block ≠ x.1)/\¬ noC x.2)/\(B.map (·.1)).Nodup) a'.defers .returning w':=by
  intro hr
  obtain⟨ms',e1,e2,e3,hS2⟩:=hS'.m.sim.shut
  rw[e1]
  have e4:ms'.map mkD++[]=ms'.map mkD:=List.append_nil _
  show LeavesInM _ _ _ _ _ _ (ms'.map mkD++[]) _ _
  rw[e4]
  refine leavesM (by simp) ms' w' e2 e3 ?_
  obtain⟨vs,ds',hk,hv,hrun⟩:=resK_sound hT hS2 _ _ hr
  refine⟨if h:vs.toArray.size=1 then vs.toArray[0] else .tuple vs.toArray,?_,?_⟩
  . rw[results_eq,Array.mapM_eq_mapM_toList]
    dsimp only at hrun
    simp only[Sem.run_bind,Sem.run_map,hrun,Result.andThen_ok,Sem.run_pure]
  . obtain⟨V1,ds1,s1,hk,hv1,hS1,_⟩:=pubsK_sound 8 hS2 hv hk
    obtain⟨es,hk,hes,hri⟩:=exposN_sound _ _ _ _ hv1 hk
    refine⟨V1,_,_,M',B',rfl,hk,oneD_rel ⟨by rw[hv1.1,hes],fun j v d h1 h2=>.imm _ _ (hri j v d h1 h2)⟩,Res.of_mem hS1.mem (Pick.start _ _),⟨fun x hx=>hS2.defers.kept x (List.mem_append_left _ hx),by have h:=hS'.m.nodup;have e:(M'++([]:Objs))=M':=List.append_nil _;rw[<- e];exact h⟩,
     fun x hx=>?_,by have h:=hS'.nd;have e:(B'++([]:Blks))=B':=List.append_nil _;rw[<- e];exact h⟩
    obtain⟨a1,b1,_,d1,e1⟩:=hS1.mem.away x (List.mem_append_left _ hx)
    exact⟨a1,b1,d1,e1⟩
 cases e<;>simp only[endB] at hq
 . exact fin hq
 . exact fin hq
def callB(P:Program)(T:Tab)(M:Objs)(B:Blks)(s:St)(f:FuncId)(ts:List TypeId)(ds:List D)(K:D->St->Objs->Blks->Prop):Prop:=
 pubsK 8 s ds fun ds s=>exposN T ts ds fun ds=>∃ R,FSpecB P T f ds R/\∀ d M' B',R d M' B'->K d s (M'++M) (B'++B)
section
variable {P : Program} {T : Tab} {H M : Objs} {B : Blks} {s : St} {w0 w : World} {F : Fr} {V : Vw} {μ : List Nat} {ω : List Value} {a : Act}
theorem callB_sound(hS:SimB (szOf T) w0 F V μ ω s a w H M B){dst:Option Nat}{type:TypeId}{pos:String}{after:Array Edge}{guard:Option (Nat × Bool)}{f:FuncId}{args:Array Operand}{argTypes:Array TypeId}{K:D->St->Objs->Blks->Prop}
    (h:callB P T M B s f argTypes.toList (s.gets args.toList) K)(next:Act->World->Prop)(Q:Exit->Act->World->Prop)
    (hn:∀ d v s V' μ' ω' M' B' w',K d s M' B'->RS (szOf T) V' μ' ω' v d->SimB (szOf T) w0 F V' μ' ω' s a w' H M' B'->next (a.put dst v) w'):Oper.wp P ⟨dst,.call ⟨.value (.func f),args,argTypes⟩,type,pos,after,guard⟩ a w next Q:=by
 obtain⟨V1,ds1,s1,h,hv1,hS1,_⟩:=pubsK_sound 8 hS.m.sim (hS.m.sim.gets _) h
 obtain⟨es,⟨R,hf,h⟩,hes,hri⟩:=exposN_sound argTypes.toList ds1 _ _ hv1 h
 obtain⟨env,box,row,n⟩:=s1
 have hcalls:=hf.run V1 w (args.map a.eval) hS1.mem.vok (by have:=hv1.1;simp at this ⊢;omega) (fun j v d h1 h2=>hri j v d (by simpa using h1) h2)
 unfold Oper.wp
 have hrun:(execOp a.eval ⟨dst,.call ⟨.value (.func f),args,argTypes⟩,type,pos,after,guard⟩).run P w = .ok (.enter f (args.map a.eval)) w:=by
  simp only[execOp,resolve,Act.eval,Deferred.ofValue,invoke,Sem.run_bind,Sem.run_pure,Result.andThen_ok]
  rw[show (#[]++args.map a.eval)++#[]=args.map a.eval by simp,hf.call]
 rw[hrun]
 show Calls P f (args.map a.eval) w _
 refine hcalls.mono ?_
 rintro e w'' ⟨V',v,d,M',B',rfl,hR,hrs,hres,⟨hM',hnd⟩,hB',hnb⟩
 have hMm:=hS1.mem.call hres
 simp only[List.append_nil] at hMm
 have hk:=h d M' B' hR
 have hx:Ext w w'':=hres.below
 obtain⟨ms,d1,d2,d3⟩:=hS1.defers.marks
 have hlt:∀ x ∈ M++F.kp,x.1<w.heap.size:=fun x hx=>(Array.getElem?_eq_some_iff.1 (hS.m.sim.defers.kept x hx).1).1
 have hlb:∀ x ∈ B++F.kc,x.1<w.heap.size:=fun x hx=>(Array.getElem?_eq_some_iff.1 (hS.m.sim.mem.away x hx).1).1
 have hbase:=hS.m.sim.mem.below.size
 refine hn d v _ V' μ ω (M'++M) (B'++B) w'' hk (hrs.mono (VLe.refl V') (fun i u hu=>by simp at hu) (fun i u hu=>by simp at hu)) ⟨⟨⟨hS1.tmps,⟨⟨ms,d1,d2,fun D hD=>?_⟩,fun x hx'=>?_⟩,fun t=>(hS1.env t).mono hres.le (.refl μ) (.refl ω),?_⟩,?_,hS.m.old⟩,?_⟩
 . obtain⟨f1,f2,f3⟩:=d3 D hD
   refine⟨hx.heap f1,f2,fun x hx'=>?_⟩
   have hx2:x ∈ M'++M++F.kp:=hx'
   rw[List.append_assoc] at hx2
   rcases mAp0.1 hx2 with hx2|hx2
   . have h1:=(hM' x hx2).2.2
     have h2:=(Array.getElem?_eq_some_iff.1 f1).1
     omega
   . exact f3 x hx2
 . have hx2:x ∈ M'++M++F.kp:=hx'
   rw[List.append_assoc] at hx2
   rcases mAp0.1 hx2 with hx2|hx2
   . obtain⟨h1,h2,h3⟩:=hM' x hx2
     exact⟨h1,h2,Nat.le_trans hbase h3⟩
   . obtain⟨h1,h2,h3⟩:=hS.m.sim.defers.kept x hx2
     exact⟨hx.heap h1,h2,h3⟩
 . refine { hMm with away:=fun x hx'=>?_ }
   have hx2:x ∈ B'++B++F.kc:=hx'
   rw[List.append_assoc] at hx2
   rcases mAp0.1 hx2 with hx2|hx2
   . obtain⟨h1,h2,h3,h4⟩:=hB' x hx2
     refine⟨h1,Nat.le_trans hbase h2,fun l hl=>?_,h3,h4⟩
     have:=(hS1.mem.new l _ hl).2
     omega
   . exact hMm.away x hx2
 . rw[List.append_assoc,List.map_append]
   refine List.nodup_append.2 ⟨hnd,hS.m.nodup,fun x hx y hy e=>?_⟩
   obtain⟨z,hz,rfl⟩:=List.mem_map.1 hx
   obtain⟨z2,hz2,rfl⟩:=List.mem_map.1 hy
   have h1:=(hM' z hz).2.2
   have h2:=hlt z2 hz2
   omega
 . rw[List.append_assoc,List.map_append]
   refine List.nodup_append.2 ⟨hnb,hS.nd,fun x hx y hy e=>?_⟩
   obtain⟨z,hz,rfl⟩:=List.mem_map.1 hx
   obtain⟨z2,hz2,rfl⟩:=List.mem_map.1 hy
   have h1:=(hB' z hz).2.1
   have h2:=hlb z2 hz2
   omega
end
section
variable {P : Program} {T : Tab}
theorem effK.expo{s:St}{f:FuncId}{ts:List TypeId}{ds:List D}{K:D->St->Prop}(hc:∀ args w,(callFunc f args).run P w = .ok (.enter f args) w)(h:exposeK P T s f ts ds K):effK P T s f ds K:=by
 refine⟨hc,fun w0 V0 V μ ω a w vs hS hvl hvR=>?_⟩
 obtain⟨es,⟨R,hf,h⟩,hes,hri⟩:=expos_sound hS.mem ts ds vs _ hvl hvR h
 have hcalls:=hf.run (heapV w) w vs.toArray (.heap hS.mem.vok.gl (Ext.refl w)) (by simp[hes,hvl]) (fun j v d h1 h2=>hri j v d (by simpa using h1) h2)
 refine hcalls.mono ?_
 rintro e w'' ⟨V',ω0,row0,v,d,rfl,hR,hrs,hres⟩
 obtain⟨hg,hk⟩:=h d row0 hR
 obtain⟨hd,hk⟩:=boolP_iff.1 hk
 have hres2:=hres.less hS.mem.vok hg
 have hrs2:=hrs.ownOrG2 (V':=fun p=>if p.block<w.heap.size then V p else V' p) hd
 obtain⟨env,box,row,n⟩:=s
 have hM:=hS.mem.call hres2
 have hl:row.length=ω.length:=hS.mem.rl.symm
 dsimp only at hk
 rw[hl] at hk
 obtain⟨d',hk,hr⟩:=shiftD_sound (μ:=μ) (ω':=ω++ω0) (VLe.refl _) (fun r u hu=>by rw[List.getElem?_append_right (by omega),Nat.add_sub_cancel];exact hu) hrs2 hk
 rw[catK_eq] at hk
 exact⟨v,d',_,_,μ,ω++ω0,rfl,hk,hr,⟨hS.tmps,hS.defers.ext hres2.below,fun t=>(hS.env t).mono hres2.le (.refl μ) (.append _ _),hM⟩,hres2.le,.refl _,.append _ _,fun q v hq=>by rw[hres2.below.cell (World.block_lt_of_cell? _ _ hq)];exact hq⟩
theorem effK.untieN{s:St}{f:FuncId}{r g n N c:Nat}{ds ds':List D}{K:D->St->Prop}(i t0:Nat)(hi:ds[i]? = some (.rsl g n c))(hd:ds'=ds.set i (.own r n))(ht:look s.env t0 = .tie r g N c)(hn:n<=N)(h:effK P T s f ds' K):effK P T s f ds K:=by
 subst hd
 refine⟨h.call,fun w0 V0 V μ ω a w vs hS hvl hvR=>h.run w0 V0 V μ ω a w vs hS (by simpa using hvl) fun j v d h1 h2=>?_⟩
 by_cases hj:i=j
 . subst hj
   rw[List.getElem?_set_self (gSm0.1 hi).1] at h2
   cases h2
   have hv:=hvR i v _ h1 hi
   have h0:=hS.env t0
   rw[ht] at h0
   rw[hv.rsl_]
   exact .own r n _ N c h0.tie_ hn
 . rw[List.getElem?_set_ne hj] at h2
   exact hvR j v d h1 h2
end
section
variable {P : Program} {T : Tab}
theorem effK.unnil{s:St}{f:FuncId}{ds ds':List D}{K:D->St->Prop}(i:Nat)(e:TypeId)(hi:ds[i]? = some .rnl)(hd:ds'=ds.set i (.lst e [] []))(h:effK P T s f ds' K):effK P T s f ds K:=by
 subst hd
 refine⟨h.call,fun w0 V0 V μ ω a w vs hS hvl hvR=>h.run w0 V0 V μ ω a w vs hS (by simpa using hvl) fun j v d h1 h2=>?_⟩
 by_cases hj:i=j
 . subst hj
   rw[List.getElem?_set_self (gSm0.1 hi).1] at h2
   cases h2
   have hv:=hvR i v _ h1 hi
   rw[hv.rnl_]
   exact .imm _ _ (ri_nil e)
 . rw[List.getElem?_set_ne hj] at h2
   exact hvR j v d h1 h2
end
def inlQB(T:Tab)(fn:Func)(n:Nat)(K:D->St->Objs->Blks->Prop):Exit->St->Objs->Blks->Prop
 | .normal,s,M,B=>inlE T fn n (fun d s=>K d s M B) s
 | .ret,s,M,B=>inlE T fn n (fun d s=>K d s M B) s
 | _,_,_,_=>False
def inlB(P:Program)(T:Tab)(H M:Objs)(B:Blks)(s:St)(f:FuncId)(ds:List D)(K:D->St->Objs->Blks->Prop):Prop:=
 ∃ fn c,P.funcs[f]? = some fn/\fn.body=some c/\(∀ args w,(callFunc f args).run P w = .ok (.enter f args) w) /\
  leB ds.length fn.ntmps (match s with|⟨env,box,row,n⟩=>shE fn.ntmps env fun env=>catK (envOf 0 ds) env fun env=>OkB P T H c (inlQB T fn n K) ⟨env,box,row,fn.ntmps⟩ M B)
section
variable {P : Program} {T : Tab} {H M : Objs} {B : Blks} {s : St} {w0 w : World} {F : Fr} {V : Vw} {μ : List Nat} {ω : List Value} {a : Act}
theorem inlB_sound(hT:TOk P T)(hS:SimB (szOf T) w0 F V μ ω s a w H M B){f:FuncId}{ds:List D}{vs:List Value}{K:D->St->Objs->Blks->Prop}(hv:Vals (szOf T) V μ ω vs ds)(h:inlB P T H M B s f ds K) :
    (∀ args w,(callFunc f args).run P w = .ok (.enter f args) w)/\Calls P f vs.toArray w fun e w'=>∃ v d s' V' μ' ω' M' B',e = .returned v/\K d s' M' B'/\RS (szOf T) V' μ' ω' v d/\SimB (szOf T) w0 F V' μ' ω' s' a w' H M' B':=by
 obtain⟨fn,c,hf,hb,hcall,h⟩:=h
 refine⟨hcall,calls_of_wpM hf hb ?_⟩
 obtain⟨hn,h⟩:=leB_iff.1 h
 obtain⟨env,box,row,n⟩:=s
 simp only[shE_eq,catK_eq] at h
 obtain⟨ms,d1,d2,d3⟩:=hS.m.sim.defers.marks
 have hkept:∀ x ∈ M++(F.kp++keptOf ms),w.heap[x.1]? = some x.2/\noC x.2/\w0.heap.size<=x.1:=by
  intro x hx
  rw[<- List.append_assoc] at hx
  rcases mAp0.1 hx with hx|hx
  . exact hS.m.sim.defers.kept x hx
  . obtain⟨D,hD,rfl⟩:=List.mem_map.1 hx
    exact⟨(d3 D hD).1,(fun _ _ _ e=>by cases e),(d3 D hD).2.1⟩
 have hnd:((M++(F.kp++keptOf ms)).map (·.1)).Nodup:=by
  rw[<- List.append_assoc,List.map_append,keptOf_keys]
  refine List.nodup_append.2 ⟨hS.m.nodup,d2,fun x hx y hy e=>?_⟩
  obtain⟨z,hz,rfl⟩:=List.mem_map.1 hx
  exact (d3 y hy).2.2 z hz e
 have hS':SimB (szOf T) w0 ⟨F.V,fun t=>slotV (F.has B) n a (t - fn.ntmps),[],F.kp++keptOf ms,F.kc⟩ V μ ω ⟨envOf 0 ds++env.map (fun x=>(x.1+fn.ntmps,x.2)),box,row,fn.ntmps⟩
     { tmps:=vs.toArray++Array.replicate (fn.ntmps - vs.toArray.size) undef,defers:=[] } w H M B:=by
  refine⟨⟨⟨by have:=hv.1;simp;omega,⟨⟨[],rfl,List.nodup_nil,by simp⟩,hkept⟩,fun t=>?_,hS.m.sim.mem.fr rfl⟩,hnd,hS.m.old⟩,hS.nd⟩
  show RS _ _ _ _ (slotV _ fn.ntmps _ t) (look (envOf 0 ds++env.map (fun x=>(x.1+fn.ntmps,x.2))) t)
  unfold slotV
  split
  . rename_i htn
    show RS _ _ _ _ ((vs.toArray++Array.replicate (fn.ntmps - vs.toArray.size) undef).getD t undef) _
    by_cases ht:t<ds.length
    . rw[look_append_in _ _ _ (envOf_has ds 0 t (by omega) (by omega)),look_envOf,if_pos (Nat.zero_le _),Nat.sub_zero]
      have hta:t<vs.length:=by rw[hv.1];exact ht
      have hd:=gEt0 ht
      have ha:=gEt0 hta
      have:=hv.2 t _ _ ha hd
      have e1:(vs.toArray++Array.replicate (fn.ntmps - vs.toArray.size) undef).getD t undef=vs[t]:=by
       have hv1:=hv.1
       simp[Array.getD,hta]
       omega
      rw[e1]
      simp only[List.getD,hd,Option.getD_some]
      exact this
    . rw[look_append _ _ _ (fun x hx=>by have:=envOf_mem ds 0 x hx;omega),look_shift_lt _ _ _ htn]
      exact .imm _ _ (.u _)
  . rename_i htn
    rw[look_append _ _ _ (fun x hx=>by have:=envOf_mem ds 0 x hx;omega)]
    have e2:t=(t - fn.ntmps)+fn.ntmps:=by omega
    rw[e2,look_shift,<- e2]
    exact hS.m.sim.env (t - fn.ntmps)
 refine wp_mono (h.run w0 _ V μ ω _ w hS') ?_
 rintro e a' w' ⟨s',V',μ',ω',M',B',hq,hS2⟩
 have fin:inlE T fn n (fun d s=>K d s M' B') s'->LeavesInM Fence.wide 0 P fn a'.tmps (fun e w'=>∃ v d s' V' μ' ω' M' B',e = .returned v/\K d s' M' B'/\RS (szOf T) V' μ' ω' v d/\SimB (szOf T) w0 F V' μ' ω' s' a w' H M' B') a'.defers .returning w':=by
  intro hr
  obtain⟨ms',e1,e2,e3,hS3⟩:=hS2.m.sim.shut
  rw[e1]
  have e4:ms'.map mkD++[]=ms'.map mkD:=List.append_nil _
  show LeavesInM _ _ _ _ _ _ (ms'.map mkD++[]) _ _
  rw[e4]
  refine leavesM (by simp) ms' w' e2 e3 ?_
  obtain⟨env',box',row',m⟩:=s'
  obtain⟨hm,hr⟩:=eqN_iff hr
  obtain⟨us,ds',hk,hv',hrun⟩:=resK_sound hT hS3 _ _ hr
  refine⟨if h:us.toArray.size=1 then us.toArray[0] else .tuple us.toArray,?_,?_⟩
  . rw[results_eq,Array.mapM_eq_mapM_toList]
    dsimp only at hrun
    simp only[Sem.run_bind,Sem.run_map,hrun,Result.andThen_ok,Sem.run_pure]
  . rw[unE_eq] at hk
    have hkp:∀ x ∈ M'++(F.kp++keptOf ms),(shut ms' w').heap[x.1]? = some x.2/\noC x.2/\w0.heap.size<=x.1:=hS3.defers.kept
    have hnd2:((M'++(F.kp++keptOf ms)).map (·.1)).Nodup:=hS2.m.nodup
    rw[<- List.append_assoc,List.map_append,keptOf_keys] at hnd2
    obtain⟨n1,n2,n3⟩:=List.nodup_append.1 hnd2
    refine⟨_,_,_,V',μ',ω',M',B',rfl,hk,oneD_rel hv',⟨⟨hS.m.sim.tmps,⟨⟨ms,d1,d2,fun D hD=>?_⟩,fun x hx=>hkp x (by rw[<- List.append_assoc];exact List.mem_append_left _ hx)⟩,fun t=>?_,hS3.mem.fr rfl⟩,n1,hS.m.old⟩,hS2.nd⟩
    . obtain⟨k1,k2,k3⟩:=hkp (D,.deferred (some [])) (List.mem_append_right _ (List.mem_append_right _ (List.mem_map.2 ⟨D,hD,rfl⟩)))
      exact⟨k1,k3,fun x hx e=>n3 x.1 (List.mem_map.2 ⟨x,hx,rfl⟩) D hD e⟩
    have:=hS3.env (t+fn.ntmps)
    unfold slotV at this
    rw[if_neg (by show ¬ t+fn.ntmps<m;omega)] at this
    show RS _ _ _ _ (slotV F n a t) (look (unEF fn.ntmps env') t)
    rw[look_unEF]
    have e3:t+fn.ntmps - fn.ntmps=t:=by omega
    have this2:RS (szOf T) V' μ' ω' (slotV F n a (t+fn.ntmps - fn.ntmps)) (look env' (t+fn.ntmps)):=this
    rw[e3] at this2
    exact this2
 cases e<;>simp only[inlQB] at hq
 . exact fin hq
 . exact fin hq
def vopB(P:Program)(T:Tab)(H M:Objs)(B:Blks)(s:St)(o:Oper)(K:D->St->Objs->Blks->Prop):Prop:=
 match o.op with
 | .call { callee:=.value (.func f),args,argTypes }=>vopM P T H M s o (fun d s M=>K d s M B)\/callB P T M B s f argTypes.toList (s.gets args.toList) K\/(forceL (s.gets args.toList) fun ds=>inlB P T H M B s f ds K)
 | .call { callee:=.value (.tmp t),args,argTypes:=_ }=>vopM P T H M s o (fun d s M=>K d s M B)\/fnK (s.get (.tmp t)) fun f first cap=>forceL (first++s.gets args.toList++cap) fun ds=>effK P T s f ds fun d s=>K d s M B
 | _=>vopM P T H M s o fun d s M=>K d s M B
def vopsB(P:Program)(T:Tab)(H:Objs)(ops:List Oper):List Oper->St->Objs->Blks->(St->Objs->Blks->Prop)->Prop
 | [],s,M,B,K=>K s M B
 | o :: rest,s,M,B,K=>wantK ops s o.guard
     (fun s=>vopB P T H M B s o fun d s M B=>putK s o.dst d fun s=>vopsB P T H ops rest s M B K)
     (fun s=>putK s o.dst (.tup []) fun s=>vopsB P T H ops rest s M B K)
theorem vopB_sound(hT:TOk P T)(hS:SimB (szOf T) w0 F V μ ω s a w H M B){o:Oper}{K:D->St->Objs->Blks->Prop}(h:vopB P T H M B s o K)(next:Act->World->Prop)(Q:Exit->Act->World->Prop)
    (hn:∀ d v s V' μ' ω' M' B' w',K d s M' B'->RS (szOf T) V' μ' ω' v d->SimB (szOf T) w0 F V' μ' ω' s a w' H M' B'->next (a.put o.dst v) w'):o.wp P a w next Q:=by
 have plain:vopM P T H M s o (fun d s M=>K d s M B)->o.wp P a w next Q:=fun h=>
  vopM_sound hT hS.m h next Q fun d v s V' μ' ω' M' w' hk hr hS'=>hn d v s V' μ' ω' M' B w' hk hr ⟨hS',hS.nd⟩
 unfold vopB at h
 split at h
 . rename_i f args argTypes heq
   rcases h with h|h|h
   . exact plain h
   . obtain⟨dst,op,type,pos,after,guard⟩:=o
     dsimp only at heq
     subst heq
     exact callB_sound hS h next Q hn
   . obtain⟨dst,op,type,pos,after,guard⟩:=o
     dsimp only at heq
     subst heq
     rw[forceL_eq] at h
     have hg:=hS.m.sim.gets args.toList
     obtain⟨hcall,hcalls⟩:=inlB_sound hT hS hg h
     unfold Oper.wp
     have hrun:(execOp a.eval ⟨dst,.call ⟨.value (.func f),args,argTypes⟩,type,pos,after,guard⟩).run P w = .ok (.enter f (args.toList.map a.eval).toArray) w:=by
      simp only[execOp,resolve,Act.eval,Deferred.ofValue,invoke,Sem.run_bind,Sem.run_pure,Result.andThen_ok]
      rw[hcall]
      congr 2
      apply Array.ext'
      simp
     rw[hrun]
     show Calls P f _ w _
     refine hcalls.mono ?_
     rintro e w'' ⟨v,d,s',V',μ',ω',M',B',rfl,hk,hr,hS'⟩
     exact hn d v s' V' μ' ω' M' B' w'' hk hr hS'
 . rename_i t args argTypes heq
   rcases h with h|h
   . exact plain h
   obtain⟨dst,op,type,pos,after,guard⟩:=o
   dsimp only at heq
   subst heq
   obtain⟨f,first,cap,vs,us,hv,hs1,hs2,hr1,hr2,h⟩:=fnK_sound (hS.m.sim.get (.tmp t)) h
   rw[forceL_eq] at h
   have hg:=hS.m.sim.gets args.toList
   have hl:(vs.toList++args.toList.map a.eval++us.toList).length=(first++s.gets args.toList++cap).length:=by have:=hg.1;simp at this ⊢;omega
   have hcalls:=h.run w0 _ V μ ω a w _ hS.m.sim hl (cat3 (fun j v d h1 h2=>hr1 j v d (by simpa using h1) h2) hg.2 (fun j v d h1 h2=>hr2 j v d (by simpa using h1) h2) (by simpa using hs1) hg.1)
   unfold Oper.wp
   have hrun:(execOp a.eval ⟨dst,.call ⟨.value (.tmp t),args,argTypes⟩,type,pos,after,guard⟩).run P w = .ok (.enter f (vs.toList++args.toList.map a.eval++us.toList).toArray) w:=by
    simp only[execOp,resolve,hv,Deferred.ofValue,invoke,Sem.run_bind,Sem.run_pure,Result.andThen_ok]
    rw[h.call]
    congr 2
    apply Array.ext'
    simp
   rw[hrun]
   show Calls P f _ w _
   refine hcalls.mono ?_
   rintro e w'' ⟨v,d,s',V',μ',ω',rfl,hk,hr,hS',_⟩
   exact hn d v s' V' μ' ω' M B w'' hk hr (hS.of hS')
 . exact plain h
theorem vopsB_sound(hT:TOk P T){ops:List Oper}{Q:Exit->Act->World->Prop}:∀ (rest:List Oper) (s:St) (M:Objs) (B:Blks) (V:Vw) (μ:List Nat) (ω:List Value) (a:Act) (w:World) (K:St->Objs->Blks->Prop),SimB (szOf T) w0 F V μ ω s a w H M B ->
    vopsB P T H ops rest s M B K->(∀ s M B V μ ω a w,K s M B->SimB (szOf T) w0 F V μ ω s a w H M B->Q .normal a w)->wpList P ops.toArray Q rest a w
 | [],s,M,B,V,μ,ω,a,w,K,hS,h,hq=>hq s M B V μ ω a w h hS
 | o :: rest,s,M,B,V,μ,ω,a,w,K,hS,h,hq=>by
  simp only[vopsB] at h
  unfold wpList
  rcases wantK_sound hS.m.sim h with⟨hw,s1,h,hS1⟩|⟨hw,s1,h,hS1⟩
  . rw[if_pos hw]
    refine .inl (vopB_sound hT (hS.of hS1) h _ _ fun d v s2 V2 μ2 ω2 M2 B2 w2 hk hr hS2=>?_)
    obtain⟨s3,h,hS3⟩:=putK_sound hS2.m.sim hr hk
    exact vopsB_sound hT rest s3 M2 B2 _ _ _ _ _ K (hS2.of hS3) h hq
  . rw[if_neg (by rw[hw];simp)]
    obtain⟨s3,h,hS3⟩:=putK_sound hS1 (v:=undef) (d:=.tup []) (RS.tup [] #[] rfl (fun j v d h=>by simp at h)) h
    exact vopsB_sound hT rest s3 M B _ _ _ _ _ K (hS.of hS3) h hq
theorem OkB.region(hT:TOk P T){Q:Exit->St->Objs->Blks->Prop}{id:Nat}{l:List Oper}(h:vopsB P T H l l s M B (Q .normal)):OkB P T H (.region id l.toArray false) Q s M B:=by
 refine⟨fun w0 F V μ ω a w hS=>?_⟩
 refine wp_region_lit ?_
 exact vopsB_sound hT l s M B V μ ω a w _ hS h fun s' M' B' V' μ' ω' a' w' hk hS'=>⟨s',V',μ',ω',M',B',hk,hS'⟩
theorem FSpec.of_okB(hT:TOk P T){f:FuncId}{fn:Func}{c:Code}(hf:P.funcs[f]? = some fn)(hb:fn.body=some c)(hcall:∀ args w,(callFunc f args).run P w = .ok (.enter f args) w){ds:List D}{R:D->Rows->Prop}(hn:ds.length<=fn.ntmps)
    (h:OkB P T [] c (fun e s _ _=>endQ T fn R e s) ⟨envOf 0 ds,[],[],fn.ntmps⟩ [] []):FSpec P T f ds R:=
 .of_run hT hf hb hcall hn fun w V a hS=>wp_mono (h.run w ⟨V,fun _=>undef,[],[],[]⟩ V [] [] a w ⟨⟨hS,List.nodup_nil,by simp⟩,List.nodup_nil⟩) fun _ _ _ ⟨s',V',μ',ω',M',B',hq,hS'⟩=>
  have h2:=hS'.sub (List.nil_sublist M') (List.nil_sublist B')
  ⟨s',V',μ',ω',hq,h2.m.sim.tmps,⟨h2.m.sim.defers.marks,h2.m.sim.defers.kept⟩,h2.m.sim.env,h2.m.sim.mem.fr rfl fun x hx=>by cases hx⟩
end
end Go.Vx
namespace Go.Proofs.YtnlingegeangmaaGreatDoor
open Go Go.Vx
def T:Tab:=fun t=>match t with
 | 3=>some ⟨1,8,.int .i64,[.i .i64 0]⟩
 | 4=>some ⟨1,1,.bool,[.ff]⟩
 | 5=>some ⟨1,1,.int .u8,[.i .u8 0]⟩
 | 9=>some ⟨1,16,.str,[.s []]⟩
 | 20=>some ⟨1,16,.other,[.nilI]⟩
 | 22=>some ⟨1,24,.slice 93,[.nilS]⟩
 | 23=>some ⟨1,24,.slice 47,[.nilS]⟩
 | 24=>some ⟨1,24,.slice 41,[.nilS]⟩
 | 25=>some ⟨1,24,.slice 89,[.nilS]⟩
 | 27=>some ⟨7,136,.struct [(0,9),(1,22),(2,9),(3,4),(4,23),(5,24),(6,25)],[.s [],.nilS,.s [],.ff,.nilS,.nilS,.nilS]⟩
 | 31=>some ⟨1,24,.slice 55,[.nilS]⟩
 | 32=>some ⟨1,8,.int .i64,[.i .i64 0]⟩
 | 41=>some ⟨3,40,.struct [(0,9),(1,9),(2,3)],[.s [],.s [],.i .i64 0]⟩
 | 42=>some ⟨1,24,.slice 9,[.nilS]⟩
 | 43=>some ⟨1,24,.slice 84,[.nilS]⟩
 | 44=>some ⟨1,24,.slice 87,[.nilS]⟩
 | 45=>some ⟨1,24,.slice 49,[.nilS]⟩
 | 47=>some ⟨7,160,.struct [(0,9),(1,42),(2,42),(3,43),(4,44),(5,45),(6,45)],[.s [],.nilS,.nilS,.nilS,.nilS,.nilS,.nilS]⟩
 | 49=>some ⟨3,32,.struct [(0,3),(1,3),(2,9)],[.i .i64 0,.i .i64 0,.s []]⟩
 | 55=>some ⟨1,24,.slice 57,[.nilS]⟩
 | 57=>some ⟨4,32,.struct [(0,3),(1,3),(2,3),(3,3)],[.i .i64 0,.i .i64 0,.i .i64 0,.i .i64 0]⟩
 | 63=>some ⟨1,8,.ptr 68,[.nilP]⟩
 | 64=>some ⟨1,24,.slice 72,[.nilS]⟩
 | 65=>some ⟨1,24,.slice 76,[.nilS]⟩
 | 66=>some ⟨1,24,.slice 136,[.nilS]⟩
 | 68=>some ⟨3,72,.struct [(0,64),(1,65),(2,66)],[.nilS,.nilS,.nilS]⟩
 | 72=>some ⟨4,80,.struct [(0,55),(1,55),(2,55),(3,3)],[.nilS,.nilS,.nilS,.i .i64 0]⟩
 | 74=>some ⟨1,24,.slice 3,[.nilS]⟩
 | 76=>some ⟨4,80,.struct [(0,74),(1,74),(2,74),(3,3)],[.nilS,.nilS,.nilS,.i .i64 0]⟩
 | 82=>some ⟨1,24,.slice 174,[.nilS]⟩
 | 84=>some ⟨3,48,.struct [(0,9),(1,4),(2,82)],[.s [],.ff,.nilS]⟩
 | 85=>some ⟨1,24,.slice 234,[.nilS]⟩
 | 87=>some ⟨5,104,.struct [(0,3),(1,42),(2,82),(3,85),(4,42)],[.i .i64 0,.nilS,.nilS,.nilS,.nilS]⟩
 | 89=>some ⟨3,64,.struct [(0,9),(1,42),(2,82)],[.s [],.nilS,.nilS]⟩
 | 91=>some ⟨1,8,.other,[.nilF]⟩
 | 93=>some ⟨2,24,.struct [(0,9),(1,3)],[.s [],.i .i64 0]⟩
 | 99=>some ⟨1,24,.slice 147,[.nilS]⟩
 | 102=>some ⟨1,24,.slice 122,[.nilS]⟩
 | 122=>some ⟨4,32,.struct [(0,3),(1,3),(2,3),(3,3)],[.i .i64 0,.i .i64 0,.i .i64 0,.i .i64 0]⟩
 | 123=>some ⟨1,24,.slice 4,[.nilS]⟩
 | 127=>some ⟨1,24,.slice 130,[.nilS]⟩
 | 130=>some ⟨5,40,.struct [(0,57),(4,3)],[.i .i64 0,.i .i64 0,.i .i64 0,.i .i64 0,.i .i64 0]⟩
 | 136=>some ⟨3,56,.struct [(0,31),(1,31),(2,3)],[.nilS,.nilS,.i .i64 0]⟩
 | 142=>some ⟨1,24,.slice 91,[.nilS]⟩
 | 145=>some ⟨1,8,.other,[.u]⟩
 | 147=>some ⟨4,40,.struct [(0,9),(1,3),(2,4),(3,3)],[.s [],.i .i64 0,.ff,.i .i64 0]⟩
 | 150=>some ⟨1,8,.other,[.u]⟩
 | 151=>some ⟨1,24,.slice 155,[.nilS]⟩
 | 155=>some ⟨2,16,.struct [(0,3),(1,3)],[.i .i64 0,.i .i64 0]⟩
 | 172=>some ⟨7,72,.struct [(0,9),(1,3),(2,3),(3,3),(4,3),(5,3),(6,9)],[.s [],.i .i64 0,.i .i64 0,.i .i64 0,.i .i64 0,.i .i64 0,.s []]⟩
 | 174=>some ⟨8,80,.struct [(0,3),(1,172)],[.i .i64 0,.s [],.i .i64 0,.i .i64 0,.i .i64 0,.i .i64 0,.i .i64 0,.s []]⟩
 | 178=>some ⟨1,24,.slice 3,[.nilS]⟩
 | 179=>some ⟨1,8,.other,[.nilF]⟩
 | 180=>some ⟨1,24,.slice 185,[.nilS]⟩
 | 182=>some ⟨2,32,.struct [(0,180),(1,179)],[.nilS,.nilF]⟩
 | 185=>some ⟨2,16,.struct [(0,3),(1,3)],[.i .i64 0,.i .i64 0]⟩
 | 187=>some ⟨1,8,.other,[.nilF]⟩
 | 189=>some ⟨0,0,.struct [],[]⟩
 | 191=>some ⟨2,32,.struct [(0,127),(1,187)],[.nilS,.nilF]⟩
 | 199=>some ⟨3,32,.struct [(0,3),(1,3),(2,9)],[.i .i64 0,.i .i64 0,.s []]⟩
 | 200=>some ⟨1,24,.slice 199,[.nilS]⟩
 | 203=>some ⟨1,8,.ptr 27,[.nilP]⟩
 | 205=>some ⟨9,176,.struct [(0,203),(1,47),(8,145)],[.nilP,.s [],.nilS,.nilS,.nilS,.nilS,.nilS,.nilS,.u]⟩
 | 207=>some ⟨1,24,.slice 211,[.nilS]⟩
 | 211=>some ⟨2,16,.struct [(0,3),(1,4)],[.i .i64 0,.ff]⟩
 | 214=>some ⟨1,8,.other,[.u]⟩
 | 217=>some ⟨1,8,.other,[.nilF]⟩
 | 234=>some ⟨2,24,.struct [(0,9),(1,3)],[.s [],.i .i64 0]⟩
 | 235=>some ⟨1,8,.ptr 182,[.nilP]⟩
 | 236=>some ⟨1,8,.ptr 191,[.nilP]⟩
 | 241=>some ⟨1,16,.other,[.nilI]⟩
 | 257=>some ⟨26,416,.array 26 9,[.s [],.s [],.s [],.s [],.s [],.s [],.s [],.s [],.s [],.s [],.s [],.s [],.s [],.s [],.s [],.s [],.s [],.s [],.s [],.s [],.s [],.s [],.s [],.s [],.s [],.s []]⟩
 | 259=>some ⟨3,32,.struct [(0,9),(1,3),(2,3)],[.s [],.i .i64 0,.i .i64 0]⟩
 | 285=>some ⟨1,8,.int .u64,[.i .u64 0]⟩
 | 293=>some ⟨1,24,.slice 259,[.nilS]⟩
 | 302=>some ⟨1,24,.slice 5,[.nilS]⟩
 | 309=>some ⟨1,24,.slice 241,[.nilS]⟩
 | 311=>some ⟨1,1,.struct [(0,4)],[.ff]⟩
 | 313=>some ⟨7,72,.struct [(0,172)],[.s [],.i .i64 0,.i .i64 0,.i .i64 0,.i .i64 0,.i .i64 0,.s []]⟩
 | 315=>some ⟨1,16,.struct [(0,241)],[.nilI]⟩
 | 317=>some ⟨2,32,.struct [(0,241),(1,241)],[.nilI,.nilI]⟩
 | 319=>some ⟨2,32,.struct [(0,317)],[.nilI,.nilI]⟩
 | 320=>some ⟨2,32,.struct [(0,317)],[.nilI,.nilI]⟩
 | 351=>some ⟨4,4,.struct [(0,4),(1,4),(2,4),(3,4)],[.ff,.ff,.ff,.ff]⟩
 | 352=>some ⟨20,20,.array 5 351,[.ff,.ff,.ff,.ff,.ff,.ff,.ff,.ff,.ff,.ff,.ff,.ff,.ff,.ff,.ff,.ff,.ff,.ff,.ff,.ff]⟩
 | 375=>some ⟨4,32,.array 4 285,[.i .u64 0,.i .u64 0,.i .u64 0,.i .u64 0]⟩
 | 377=>some ⟨9,72,.struct [(0,3),(1,375),(5,375)],[.i .i64 0,.i .u64 0,.i .u64 0,.i .u64 0,.i .u64 0,.i .u64 0,.i .u64 0,.i .u64 0,.i .u64 0]⟩
 | 380=>some ⟨1,24,.slice 377,[.nilS]⟩
 | 395=>some ⟨1,8,.ptr 375,[.nilP]⟩
 | _=>none
theorem good3:Vx.Good Tryz.prog 3 ⟨1,8,.int .i64,[.i .i64 0]⟩:=
 ⟨⟨Tryz.t3,.int .i64 0,by kernel_rfl,rfl,rfl,rfl,rfl,rfl,by simp[Value.cells,Value.oneCell']⟩,Tryz.underlying3,fun w=>Tryz.isAgg3 w,by decide⟩
theorem good4:Vx.Good Tryz.prog 4 ⟨1,1,.bool,[.ff]⟩:=
 ⟨⟨Tryz.t4,.bool false,by kernel_rfl,rfl,rfl,rfl,rfl,rfl,by simp[Value.cells,Value.oneCell']⟩,Tryz.underlying4,fun w=>Tryz.isAgg4 w,by decide⟩
theorem good5:Vx.Good Tryz.prog 5 ⟨1,1,.int .u8,[.i .u8 0]⟩:=
 ⟨⟨Tryz.t5,.int .u8 0,by kernel_rfl,rfl,rfl,rfl,rfl,rfl,by simp[Value.cells,Value.oneCell']⟩,Tryz.underlying5,fun w=>Tryz.isAgg5 w,by decide⟩
theorem good9:Vx.Good Tryz.prog 9 ⟨1,16,.str,[.s []]⟩:=
 ⟨⟨Tryz.t9,.string ⟨#[]⟩,by kernel_rfl,rfl,rfl,rfl,rfl,rfl,by simp[Value.cells,Value.oneCell']⟩,Tryz.underlying9,fun w=>Tryz.isAgg9 w,by decide⟩
theorem good20:Vx.Good Tryz.prog 20 ⟨1,16,.other,[.nilI]⟩:=
 ⟨⟨Tryz.t20,.nilIface,by kernel_rfl,rfl,rfl,rfl,rfl,rfl,by simp[Value.cells,Value.oneCell']⟩,trivial,fun w=>Tryz.isAgg20 w,by decide⟩
theorem good22:Vx.Good Tryz.prog 22 ⟨1,24,.slice 93,[.nilS]⟩:=
 ⟨⟨Tryz.t22,.slice none 0 0,by kernel_rfl,rfl,rfl,rfl,rfl,rfl,by simp[Value.cells,Value.oneCell']⟩,Tryz.underlying22,fun w=>Tryz.isAgg22 w,by decide⟩
theorem good23:Vx.Good Tryz.prog 23 ⟨1,24,.slice 47,[.nilS]⟩:=
 ⟨⟨Tryz.t23,.slice none 0 0,by kernel_rfl,rfl,rfl,rfl,rfl,rfl,by simp[Value.cells,Value.oneCell']⟩,Tryz.underlying23,fun w=>Tryz.isAgg23 w,by decide⟩
theorem good24:Vx.Good Tryz.prog 24 ⟨1,24,.slice 41,[.nilS]⟩:=
 ⟨⟨Tryz.t24,.slice none 0 0,by kernel_rfl,rfl,rfl,rfl,rfl,rfl,by simp[Value.cells,Value.oneCell']⟩,Tryz.underlying24,fun w=>Tryz.isAgg24 w,by decide⟩
theorem good25:Vx.Good Tryz.prog 25 ⟨1,24,.slice 89,[.nilS]⟩:=
 ⟨⟨Tryz.t25,.slice none 0 0,by kernel_rfl,rfl,rfl,rfl,rfl,rfl,by simp[Value.cells,Value.oneCell']⟩,Tryz.underlying25,fun w=>Tryz.isAgg25 w,by decide⟩
theorem good27:Vx.Good Tryz.prog 27 ⟨7,136,.struct [(0,9),(1,22),(2,9),(3,4),(4,23),(5,24),(6,25)],[.s [],.nilS,.s [],.ff,.nilS,.nilS,.nilS]⟩:=
 ⟨⟨Tryz.t27,.agg #[.string ⟨#[]⟩,.slice none 0 0,.string ⟨#[]⟩,.bool false,.slice none 0 0,.slice none 0 0,.slice none 0 0],by kernel_rfl,rfl,rfl,rfl,rfl,rfl,by simp[Value.cells,Value.oneCell']⟩,⟨_,Tryz.underlying27,rfl⟩,fun w=>Tryz.isAgg27 w,by decide⟩
theorem good31:Vx.Good Tryz.prog 31 ⟨1,24,.slice 55,[.nilS]⟩:=
 ⟨⟨Tryz.t31,.slice none 0 0,by kernel_rfl,rfl,rfl,rfl,rfl,rfl,by simp[Value.cells,Value.oneCell']⟩,Tryz.underlying31,fun w=>Tryz.isAgg31 w,by decide⟩
theorem good32:Vx.Good Tryz.prog 32 ⟨1,8,.int .i64,[.i .i64 0]⟩:=
 ⟨⟨Tryz.t32,.int .i64 0,by kernel_rfl,rfl,rfl,rfl,rfl,rfl,by simp[Value.cells,Value.oneCell']⟩,Tryz.underlying32,fun w=>Tryz.isAgg32 w,by decide⟩
theorem good41:Vx.Good Tryz.prog 41 ⟨3,40,.struct [(0,9),(1,9),(2,3)],[.s [],.s [],.i .i64 0]⟩:=
 ⟨⟨Tryz.t41,.agg #[.string ⟨#[]⟩,.string ⟨#[]⟩,.int .i64 0],by kernel_rfl,rfl,rfl,rfl,rfl,rfl,by simp[Value.cells,Value.oneCell']⟩,⟨_,Tryz.underlying41,rfl⟩,fun w=>Tryz.isAgg41 w,by decide⟩
theorem good42:Vx.Good Tryz.prog 42 ⟨1,24,.slice 9,[.nilS]⟩:=
 ⟨⟨Tryz.t42,.slice none 0 0,by kernel_rfl,rfl,rfl,rfl,rfl,rfl,by simp[Value.cells,Value.oneCell']⟩,Tryz.underlying42,fun w=>Tryz.isAgg42 w,by decide⟩
theorem good43:Vx.Good Tryz.prog 43 ⟨1,24,.slice 84,[.nilS]⟩:=
 ⟨⟨Tryz.t43,.slice none 0 0,by kernel_rfl,rfl,rfl,rfl,rfl,rfl,by simp[Value.cells,Value.oneCell']⟩,Tryz.underlying43,fun w=>Tryz.isAgg43 w,by decide⟩
theorem good44:Vx.Good Tryz.prog 44 ⟨1,24,.slice 87,[.nilS]⟩:=
 ⟨⟨Tryz.t44,.slice none 0 0,by kernel_rfl,rfl,rfl,rfl,rfl,rfl,by simp[Value.cells,Value.oneCell']⟩,Tryz.underlying44,fun w=>Tryz.isAgg44 w,by decide⟩
theorem good45:Vx.Good Tryz.prog 45 ⟨1,24,.slice 49,[.nilS]⟩:=
 ⟨⟨Tryz.t45,.slice none 0 0,by kernel_rfl,rfl,rfl,rfl,rfl,rfl,by simp[Value.cells,Value.oneCell']⟩,Tryz.underlying45,fun w=>Tryz.isAgg45 w,by decide⟩
theorem good47:Vx.Good Tryz.prog 47 ⟨7,160,.struct [(0,9),(1,42),(2,42),(3,43),(4,44),(5,45),(6,45)],[.s [],.nilS,.nilS,.nilS,.nilS,.nilS,.nilS]⟩:=
 ⟨⟨Tryz.t47,.agg #[.string ⟨#[]⟩,.slice none 0 0,.slice none 0 0,.slice none 0 0,.slice none 0 0,.slice none 0 0,.slice none 0 0],by kernel_rfl,rfl,rfl,rfl,rfl,rfl,by simp[Value.cells,Value.oneCell']⟩,⟨_,Tryz.underlying47,rfl⟩,fun w=>Tryz.isAgg47 w,by decide⟩
theorem good49:Vx.Good Tryz.prog 49 ⟨3,32,.struct [(0,3),(1,3),(2,9)],[.i .i64 0,.i .i64 0,.s []]⟩:=
 ⟨⟨Tryz.t49,.agg #[.int .i64 0,.int .i64 0,.string ⟨#[]⟩],by kernel_rfl,rfl,rfl,rfl,rfl,rfl,by simp[Value.cells,Value.oneCell']⟩,⟨_,Tryz.underlying49,rfl⟩,fun w=>Tryz.isAgg49 w,by decide⟩
theorem good55:Vx.Good Tryz.prog 55 ⟨1,24,.slice 57,[.nilS]⟩:=
 ⟨⟨Tryz.t55,.slice none 0 0,by kernel_rfl,rfl,rfl,rfl,rfl,rfl,by simp[Value.cells,Value.oneCell']⟩,Tryz.underlying55,fun w=>Tryz.isAgg55 w,by decide⟩
theorem good57:Vx.Good Tryz.prog 57 ⟨4,32,.struct [(0,3),(1,3),(2,3),(3,3)],[.i .i64 0,.i .i64 0,.i .i64 0,.i .i64 0]⟩:=
 ⟨⟨Tryz.t57,.agg #[.int .i64 0,.int .i64 0,.int .i64 0,.int .i64 0],by kernel_rfl,rfl,rfl,rfl,rfl,rfl,by simp[Value.cells,Value.oneCell']⟩,⟨_,Tryz.underlying57,rfl⟩,fun w=>Tryz.isAgg57 w,by decide⟩
theorem good63:Vx.Good Tryz.prog 63 ⟨1,8,.ptr 68,[.nilP]⟩:=
 ⟨⟨Tryz.t63,.pointer none,by kernel_rfl,rfl,rfl,rfl,rfl,rfl,by simp[Value.cells,Value.oneCell']⟩,Tryz.underlying63,fun w=>Tryz.isAgg63 w,by decide⟩
theorem good64:Vx.Good Tryz.prog 64 ⟨1,24,.slice 72,[.nilS]⟩:=
 ⟨⟨Tryz.t64,.slice none 0 0,by kernel_rfl,rfl,rfl,rfl,rfl,rfl,by simp[Value.cells,Value.oneCell']⟩,Tryz.underlying64,fun w=>Tryz.isAgg64 w,by decide⟩
theorem good65:Vx.Good Tryz.prog 65 ⟨1,24,.slice 76,[.nilS]⟩:=
 ⟨⟨Tryz.t65,.slice none 0 0,by kernel_rfl,rfl,rfl,rfl,rfl,rfl,by simp[Value.cells,Value.oneCell']⟩,Tryz.underlying65,fun w=>Tryz.isAgg65 w,by decide⟩
theorem good66:Vx.Good Tryz.prog 66 ⟨1,24,.slice 136,[.nilS]⟩:=
 ⟨⟨Tryz.t66,.slice none 0 0,by kernel_rfl,rfl,rfl,rfl,rfl,rfl,by simp[Value.cells,Value.oneCell']⟩,Tryz.underlying66,fun w=>Tryz.isAgg66 w,by decide⟩
theorem good68:Vx.Good Tryz.prog 68 ⟨3,72,.struct [(0,64),(1,65),(2,66)],[.nilS,.nilS,.nilS]⟩:=
 ⟨⟨Tryz.t68,.agg #[.slice none 0 0,.slice none 0 0,.slice none 0 0],by kernel_rfl,rfl,rfl,rfl,rfl,rfl,by simp[Value.cells,Value.oneCell']⟩,⟨_,Tryz.underlying68,rfl⟩,fun w=>Tryz.isAgg68 w,by decide⟩
theorem good72:Vx.Good Tryz.prog 72 ⟨4,80,.struct [(0,55),(1,55),(2,55),(3,3)],[.nilS,.nilS,.nilS,.i .i64 0]⟩:=
 ⟨⟨Tryz.t72,.agg #[.slice none 0 0,.slice none 0 0,.slice none 0 0,.int .i64 0],by kernel_rfl,rfl,rfl,rfl,rfl,rfl,by simp[Value.cells,Value.oneCell']⟩,⟨_,Tryz.underlying72,rfl⟩,fun w=>Tryz.isAgg72 w,by decide⟩
theorem good74:Vx.Good Tryz.prog 74 ⟨1,24,.slice 3,[.nilS]⟩:=
 ⟨⟨Tryz.t74,.slice none 0 0,by kernel_rfl,rfl,rfl,rfl,rfl,rfl,by simp[Value.cells,Value.oneCell']⟩,Tryz.underlying74,fun w=>Tryz.isAgg74 w,by decide⟩
theorem good76:Vx.Good Tryz.prog 76 ⟨4,80,.struct [(0,74),(1,74),(2,74),(3,3)],[.nilS,.nilS,.nilS,.i .i64 0]⟩:=
 ⟨⟨Tryz.t76,.agg #[.slice none 0 0,.slice none 0 0,.slice none 0 0,.int .i64 0],by kernel_rfl,rfl,rfl,rfl,rfl,rfl,by simp[Value.cells,Value.oneCell']⟩,⟨_,Tryz.underlying76,rfl⟩,fun w=>Tryz.isAgg76 w,by decide⟩
theorem good82:Vx.Good Tryz.prog 82 ⟨1,24,.slice 174,[.nilS]⟩:=
 ⟨⟨Tryz.t82,.slice none 0 0,by kernel_rfl,rfl,rfl,rfl,rfl,rfl,by simp[Value.cells,Value.oneCell']⟩,Tryz.underlying82,fun w=>Tryz.isAgg82 w,by decide⟩
theorem good84:Vx.Good Tryz.prog 84 ⟨3,48,.struct [(0,9),(1,4),(2,82)],[.s [],.ff,.nilS]⟩:=
 ⟨⟨Tryz.t84,.agg #[.string ⟨#[]⟩,.bool false,.slice none 0 0],by kernel_rfl,rfl,rfl,rfl,rfl,rfl,by simp[Value.cells,Value.oneCell']⟩,⟨_,Tryz.underlying84,rfl⟩,fun w=>Tryz.isAgg84 w,by decide⟩
theorem good85:Vx.Good Tryz.prog 85 ⟨1,24,.slice 234,[.nilS]⟩:=
 ⟨⟨Tryz.t85,.slice none 0 0,by kernel_rfl,rfl,rfl,rfl,rfl,rfl,by simp[Value.cells,Value.oneCell']⟩,Tryz.underlying85,fun w=>Tryz.isAgg85 w,by decide⟩
theorem good87:Vx.Good Tryz.prog 87 ⟨5,104,.struct [(0,3),(1,42),(2,82),(3,85),(4,42)],[.i .i64 0,.nilS,.nilS,.nilS,.nilS]⟩:=
 ⟨⟨Tryz.t87,.agg #[.int .i64 0,.slice none 0 0,.slice none 0 0,.slice none 0 0,.slice none 0 0],by kernel_rfl,rfl,rfl,rfl,rfl,rfl,by simp[Value.cells,Value.oneCell']⟩,⟨_,Tryz.underlying87,rfl⟩,fun w=>Tryz.isAgg87 w,by decide⟩
theorem good89:Vx.Good Tryz.prog 89 ⟨3,64,.struct [(0,9),(1,42),(2,82)],[.s [],.nilS,.nilS]⟩:=
 ⟨⟨Tryz.t89,.agg #[.string ⟨#[]⟩,.slice none 0 0,.slice none 0 0],by kernel_rfl,rfl,rfl,rfl,rfl,rfl,by simp[Value.cells,Value.oneCell']⟩,⟨_,Tryz.underlying89,rfl⟩,fun w=>Tryz.isAgg89 w,by decide⟩
theorem good91:Vx.Good Tryz.prog 91 ⟨1,8,.other,[.nilF]⟩:=
 ⟨⟨Tryz.t91,.nilFunc,by kernel_rfl,rfl,rfl,rfl,rfl,rfl,by simp[Value.cells,Value.oneCell']⟩,trivial,fun w=>Tryz.isAgg91 w,by decide⟩
theorem good93:Vx.Good Tryz.prog 93 ⟨2,24,.struct [(0,9),(1,3)],[.s [],.i .i64 0]⟩:=
 ⟨⟨Tryz.t93,.agg #[.string ⟨#[]⟩,.int .i64 0],by kernel_rfl,rfl,rfl,rfl,rfl,rfl,by simp[Value.cells,Value.oneCell']⟩,⟨_,Tryz.underlying93,rfl⟩,fun w=>Tryz.isAgg93 w,by decide⟩
theorem good99:Vx.Good Tryz.prog 99 ⟨1,24,.slice 147,[.nilS]⟩:=
 ⟨⟨Tryz.t99,.slice none 0 0,by kernel_rfl,rfl,rfl,rfl,rfl,rfl,by simp[Value.cells,Value.oneCell']⟩,Tryz.underlying99,fun w=>Tryz.isAgg99 w,by decide⟩
theorem good102:Vx.Good Tryz.prog 102 ⟨1,24,.slice 122,[.nilS]⟩:=
 ⟨⟨Tryz.t102,.slice none 0 0,by kernel_rfl,rfl,rfl,rfl,rfl,rfl,by simp[Value.cells,Value.oneCell']⟩,Tryz.underlying102,fun w=>Tryz.isAgg102 w,by decide⟩
theorem good122:Vx.Good Tryz.prog 122 ⟨4,32,.struct [(0,3),(1,3),(2,3),(3,3)],[.i .i64 0,.i .i64 0,.i .i64 0,.i .i64 0]⟩:=
 ⟨⟨Tryz.t122,.agg #[.int .i64 0,.int .i64 0,.int .i64 0,.int .i64 0],by kernel_rfl,rfl,rfl,rfl,rfl,rfl,by simp[Value.cells,Value.oneCell']⟩,⟨_,Tryz.underlying122,rfl⟩,fun w=>Tryz.isAgg122 w,by decide⟩
theorem good123:Vx.Good Tryz.prog 123 ⟨1,24,.slice 4,[.nilS]⟩:=
 ⟨⟨Tryz.t123,.slice none 0 0,by kernel_rfl,rfl,rfl,rfl,rfl,rfl,by simp[Value.cells,Value.oneCell']⟩,Tryz.underlying123,fun w=>Tryz.isAgg123 w,by decide⟩
theorem good127:Vx.Good Tryz.prog 127 ⟨1,24,.slice 130,[.nilS]⟩:=
 ⟨⟨Tryz.t127,.slice none 0 0,by kernel_rfl,rfl,rfl,rfl,rfl,rfl,by simp[Value.cells,Value.oneCell']⟩,Tryz.underlying127,fun w=>Tryz.isAgg127 w,by decide⟩
theorem good130:Vx.Good Tryz.prog 130 ⟨5,40,.struct [(0,57),(4,3)],[.i .i64 0,.i .i64 0,.i .i64 0,.i .i64 0,.i .i64 0]⟩:=
 ⟨⟨Tryz.t130,.agg #[.int .i64 0,.int .i64 0,.int .i64 0,.int .i64 0,.int .i64 0],by kernel_rfl,rfl,rfl,rfl,rfl,rfl,by simp[Value.cells,Value.oneCell']⟩,⟨_,Tryz.underlying130,rfl⟩,fun w=>Tryz.isAgg130 w,by decide⟩
theorem good136:Vx.Good Tryz.prog 136 ⟨3,56,.struct [(0,31),(1,31),(2,3)],[.nilS,.nilS,.i .i64 0]⟩:=
 ⟨⟨Tryz.t136,.agg #[.slice none 0 0,.slice none 0 0,.int .i64 0],by kernel_rfl,rfl,rfl,rfl,rfl,rfl,by simp[Value.cells,Value.oneCell']⟩,⟨_,Tryz.underlying136,rfl⟩,fun w=>Tryz.isAgg136 w,by decide⟩
theorem good142:Vx.Good Tryz.prog 142 ⟨1,24,.slice 91,[.nilS]⟩:=
 ⟨⟨Tryz.t142,.slice none 0 0,by kernel_rfl,rfl,rfl,rfl,rfl,rfl,by simp[Value.cells,Value.oneCell']⟩,Tryz.underlying142,fun w=>Tryz.isAgg142 w,by decide⟩
theorem good145:Vx.Good Tryz.prog 145 ⟨1,8,.other,[.u]⟩:=
 ⟨⟨Tryz.t145,.map none,by kernel_rfl,rfl,rfl,rfl,rfl,rfl,by simp[Value.cells,Value.oneCell']⟩,trivial,fun w=>Tryz.isAgg145 w,by decide⟩
theorem good147:Vx.Good Tryz.prog 147 ⟨4,40,.struct [(0,9),(1,3),(2,4),(3,3)],[.s [],.i .i64 0,.ff,.i .i64 0]⟩:=
 ⟨⟨Tryz.t147,.agg #[.string ⟨#[]⟩,.int .i64 0,.bool false,.int .i64 0],by kernel_rfl,rfl,rfl,rfl,rfl,rfl,by simp[Value.cells,Value.oneCell']⟩,⟨_,Tryz.underlying147,rfl⟩,fun w=>Tryz.isAgg147 w,by decide⟩
theorem good150:Vx.Good Tryz.prog 150 ⟨1,8,.other,[.u]⟩:=
 ⟨⟨Tryz.t150,.map none,by kernel_rfl,rfl,rfl,rfl,rfl,rfl,by simp[Value.cells,Value.oneCell']⟩,trivial,fun w=>Tryz.isAgg150 w,by decide⟩
theorem good151:Vx.Good Tryz.prog 151 ⟨1,24,.slice 155,[.nilS]⟩:=
 ⟨⟨Tryz.t151,.slice none 0 0,by kernel_rfl,rfl,rfl,rfl,rfl,rfl,by simp[Value.cells,Value.oneCell']⟩,Tryz.underlying151,fun w=>Tryz.isAgg151 w,by decide⟩
theorem good155:Vx.Good Tryz.prog 155 ⟨2,16,.struct [(0,3),(1,3)],[.i .i64 0,.i .i64 0]⟩:=
 ⟨⟨Tryz.t155,.agg #[.int .i64 0,.int .i64 0],by kernel_rfl,rfl,rfl,rfl,rfl,rfl,by simp[Value.cells,Value.oneCell']⟩,⟨_,Tryz.underlying155,rfl⟩,fun w=>Tryz.isAgg155 w,by decide⟩
theorem good172:Vx.Good Tryz.prog 172 ⟨7,72,.struct [(0,9),(1,3),(2,3),(3,3),(4,3),(5,3),(6,9)],[.s [],.i .i64 0,.i .i64 0,.i .i64 0,.i .i64 0,.i .i64 0,.s []]⟩:=
 ⟨⟨Tryz.t172,.agg #[.string ⟨#[]⟩,.int .i64 0,.int .i64 0,.int .i64 0,.int .i64 0,.int .i64 0,.string ⟨#[]⟩],by kernel_rfl,rfl,rfl,rfl,rfl,rfl,by simp[Value.cells,Value.oneCell']⟩,⟨_,Tryz.underlying172,rfl⟩,fun w=>Tryz.isAgg172 w,by decide⟩
theorem good174:Vx.Good Tryz.prog 174 ⟨8,80,.struct [(0,3),(1,172)],[.i .i64 0,.s [],.i .i64 0,.i .i64 0,.i .i64 0,.i .i64 0,.i .i64 0,.s []]⟩:=
 ⟨⟨Tryz.t174,.agg #[.int .i64 0,.string ⟨#[]⟩,.int .i64 0,.int .i64 0,.int .i64 0,.int .i64 0,.int .i64 0,.string ⟨#[]⟩],by kernel_rfl,rfl,rfl,rfl,rfl,rfl,by simp[Value.cells,Value.oneCell']⟩,⟨_,Tryz.underlying174,rfl⟩,fun w=>Tryz.isAgg174 w,by decide⟩
theorem good178:Vx.Good Tryz.prog 178 ⟨1,24,.slice 3,[.nilS]⟩:=
 ⟨⟨Tryz.t178,.slice none 0 0,by kernel_rfl,rfl,rfl,rfl,rfl,rfl,by simp[Value.cells,Value.oneCell']⟩,Tryz.underlying178,fun w=>Tryz.isAgg178 w,by decide⟩
theorem good179:Vx.Good Tryz.prog 179 ⟨1,8,.other,[.nilF]⟩:=
 ⟨⟨Tryz.t179,.nilFunc,by kernel_rfl,rfl,rfl,rfl,rfl,rfl,by simp[Value.cells,Value.oneCell']⟩,trivial,fun w=>Tryz.isAgg179 w,by decide⟩
theorem good180:Vx.Good Tryz.prog 180 ⟨1,24,.slice 185,[.nilS]⟩:=
 ⟨⟨Tryz.t180,.slice none 0 0,by kernel_rfl,rfl,rfl,rfl,rfl,rfl,by simp[Value.cells,Value.oneCell']⟩,Tryz.underlying180,fun w=>Tryz.isAgg180 w,by decide⟩
theorem good182:Vx.Good Tryz.prog 182 ⟨2,32,.struct [(0,180),(1,179)],[.nilS,.nilF]⟩:=
 ⟨⟨Tryz.t182,.agg #[.slice none 0 0,.nilFunc],by kernel_rfl,rfl,rfl,rfl,rfl,rfl,by simp[Value.cells,Value.oneCell']⟩,⟨_,Tryz.underlying182,rfl⟩,fun w=>Tryz.isAgg182 w,by decide⟩
theorem good185:Vx.Good Tryz.prog 185 ⟨2,16,.struct [(0,3),(1,3)],[.i .i64 0,.i .i64 0]⟩:=
 ⟨⟨Tryz.t185,.agg #[.int .i64 0,.int .i64 0],by kernel_rfl,rfl,rfl,rfl,rfl,rfl,by simp[Value.cells,Value.oneCell']⟩,⟨_,Tryz.underlying185,rfl⟩,fun w=>Tryz.isAgg185 w,by decide⟩
theorem good187:Vx.Good Tryz.prog 187 ⟨1,8,.other,[.nilF]⟩:=
 ⟨⟨Tryz.t187,.nilFunc,by kernel_rfl,rfl,rfl,rfl,rfl,rfl,by simp[Value.cells,Value.oneCell']⟩,trivial,fun w=>Tryz.isAgg187 w,by decide⟩
theorem good189:Vx.Good Tryz.prog 189 ⟨0,0,.struct [],[]⟩:=
 ⟨⟨Tryz.t189,.agg #[],by kernel_rfl,rfl,rfl,rfl,rfl,rfl,by simp[Value.cells,Value.oneCell']⟩,⟨_,Tryz.underlying189,rfl⟩,fun w=>Tryz.isAgg189 w,by decide⟩
theorem good191:Vx.Good Tryz.prog 191 ⟨2,32,.struct [(0,127),(1,187)],[.nilS,.nilF]⟩:=
 ⟨⟨Tryz.t191,.agg #[.slice none 0 0,.nilFunc],by kernel_rfl,rfl,rfl,rfl,rfl,rfl,by simp[Value.cells,Value.oneCell']⟩,⟨_,Tryz.underlying191,rfl⟩,fun w=>Tryz.isAgg191 w,by decide⟩
theorem good199:Vx.Good Tryz.prog 199 ⟨3,32,.struct [(0,3),(1,3),(2,9)],[.i .i64 0,.i .i64 0,.s []]⟩:=
 ⟨⟨Tryz.t199,.agg #[.int .i64 0,.int .i64 0,.string ⟨#[]⟩],by kernel_rfl,rfl,rfl,rfl,rfl,rfl,by simp[Value.cells,Value.oneCell']⟩,⟨_,Tryz.underlying199,rfl⟩,fun w=>Tryz.isAgg199 w,by decide⟩
theorem good200:Vx.Good Tryz.prog 200 ⟨1,24,.slice 199,[.nilS]⟩:=
 ⟨⟨Tryz.t200,.slice none 0 0,by kernel_rfl,rfl,rfl,rfl,rfl,rfl,by simp[Value.cells,Value.oneCell']⟩,Tryz.underlying200,fun w=>Tryz.isAgg200 w,by decide⟩
theorem good203:Vx.Good Tryz.prog 203 ⟨1,8,.ptr 27,[.nilP]⟩:=
 ⟨⟨Tryz.t203,.pointer none,by kernel_rfl,rfl,rfl,rfl,rfl,rfl,by simp[Value.cells,Value.oneCell']⟩,Tryz.underlying203,fun w=>Tryz.isAgg203 w,by decide⟩
theorem good205:Vx.Good Tryz.prog 205 ⟨9,176,.struct [(0,203),(1,47),(8,145)],[.nilP,.s [],.nilS,.nilS,.nilS,.nilS,.nilS,.nilS,.u]⟩:=
 ⟨⟨Tryz.t205,.agg #[.pointer none,.string ⟨#[]⟩,.slice none 0 0,.slice none 0 0,.slice none 0 0,.slice none 0 0,.slice none 0 0,.slice none 0 0,.map none],by kernel_rfl,rfl,rfl,rfl,rfl,rfl,by simp[Value.cells,Value.oneCell']⟩,⟨_,Tryz.underlying205,rfl⟩,fun w=>Tryz.isAgg205 w,by decide⟩
theorem good207:Vx.Good Tryz.prog 207 ⟨1,24,.slice 211,[.nilS]⟩:=
 ⟨⟨Tryz.t207,.slice none 0 0,by kernel_rfl,rfl,rfl,rfl,rfl,rfl,by simp[Value.cells,Value.oneCell']⟩,Tryz.underlying207,fun w=>Tryz.isAgg207 w,by decide⟩
theorem good211:Vx.Good Tryz.prog 211 ⟨2,16,.struct [(0,3),(1,4)],[.i .i64 0,.ff]⟩:=
 ⟨⟨Tryz.t211,.agg #[.int .i64 0,.bool false],by kernel_rfl,rfl,rfl,rfl,rfl,rfl,by simp[Value.cells,Value.oneCell']⟩,⟨_,Tryz.underlying211,rfl⟩,fun w=>Tryz.isAgg211 w,by decide⟩
theorem good214:Vx.Good Tryz.prog 214 ⟨1,8,.other,[.u]⟩:=
 ⟨⟨Tryz.t214,.map none,by kernel_rfl,rfl,rfl,rfl,rfl,rfl,by simp[Value.cells,Value.oneCell']⟩,trivial,fun w=>Tryz.isAgg214 w,by decide⟩
theorem good217:Vx.Good Tryz.prog 217 ⟨1,8,.other,[.nilF]⟩:=
 ⟨⟨Tryz.t217,.nilFunc,by kernel_rfl,rfl,rfl,rfl,rfl,rfl,by simp[Value.cells,Value.oneCell']⟩,trivial,fun w=>Tryz.isAgg217 w,by decide⟩
theorem good234:Vx.Good Tryz.prog 234 ⟨2,24,.struct [(0,9),(1,3)],[.s [],.i .i64 0]⟩:=
 ⟨⟨Tryz.t234,.agg #[.string ⟨#[]⟩,.int .i64 0],by kernel_rfl,rfl,rfl,rfl,rfl,rfl,by simp[Value.cells,Value.oneCell']⟩,⟨_,Tryz.underlying234,rfl⟩,fun w=>Tryz.isAgg234 w,by decide⟩
theorem good235:Vx.Good Tryz.prog 235 ⟨1,8,.ptr 182,[.nilP]⟩:=
 ⟨⟨Tryz.t235,.pointer none,by kernel_rfl,rfl,rfl,rfl,rfl,rfl,by simp[Value.cells,Value.oneCell']⟩,Tryz.underlying235,fun w=>Tryz.isAgg235 w,by decide⟩
theorem good236:Vx.Good Tryz.prog 236 ⟨1,8,.ptr 191,[.nilP]⟩:=
 ⟨⟨Tryz.t236,.pointer none,by kernel_rfl,rfl,rfl,rfl,rfl,rfl,by simp[Value.cells,Value.oneCell']⟩,Tryz.underlying236,fun w=>Tryz.isAgg236 w,by decide⟩
theorem good241:Vx.Good Tryz.prog 241 ⟨1,16,.other,[.nilI]⟩:=
 ⟨⟨Tryz.t241,.nilIface,by kernel_rfl,rfl,rfl,rfl,rfl,rfl,by simp[Value.cells,Value.oneCell']⟩,trivial,fun w=>Tryz.isAgg241 w,by decide⟩
theorem good257:Vx.Good Tryz.prog 257 ⟨26,416,.array 26 9,[.s [],.s [],.s [],.s [],.s [],.s [],.s [],.s [],.s [],.s [],.s [],.s [],.s [],.s [],.s [],.s [],.s [],.s [],.s [],.s [],.s [],.s [],.s [],.s [],.s [],.s []]⟩:=
 ⟨⟨Tryz.t257,.agg #[.string ⟨#[]⟩,.string ⟨#[]⟩,.string ⟨#[]⟩,.string ⟨#[]⟩,.string ⟨#[]⟩,.string ⟨#[]⟩,.string ⟨#[]⟩,.string ⟨#[]⟩,.string ⟨#[]⟩,.string ⟨#[]⟩,.string ⟨#[]⟩,.string ⟨#[]⟩,.string ⟨#[]⟩,.string ⟨#[]⟩,.string ⟨#[]⟩,.string ⟨#[]⟩,.string ⟨#[]⟩,.string ⟨#[]⟩,.string ⟨#[]⟩,.string ⟨#[]⟩,.string ⟨#[]⟩,.string ⟨#[]⟩,.string ⟨#[]⟩,.string ⟨#[]⟩,.string ⟨#[]⟩,.string ⟨#[]⟩],by kernel_rfl,rfl,rfl,rfl,rfl,rfl,by simp[Value.cells,Value.oneCell']⟩,Tryz.underlying257,fun w=>Tryz.isAgg257 w,by decide⟩
theorem good259:Vx.Good Tryz.prog 259 ⟨3,32,.struct [(0,9),(1,3),(2,3)],[.s [],.i .i64 0,.i .i64 0]⟩:=
 ⟨⟨Tryz.t259,.agg #[.string ⟨#[]⟩,.int .i64 0,.int .i64 0],by kernel_rfl,rfl,rfl,rfl,rfl,rfl,by simp[Value.cells,Value.oneCell']⟩,⟨_,Tryz.underlying259,rfl⟩,fun w=>Tryz.isAgg259 w,by decide⟩
theorem good285:Vx.Good Tryz.prog 285 ⟨1,8,.int .u64,[.i .u64 0]⟩:=
 ⟨⟨Tryz.t285,.int .u64 0,by kernel_rfl,rfl,rfl,rfl,rfl,rfl,by simp[Value.cells,Value.oneCell']⟩,Tryz.underlying285,fun w=>Tryz.isAgg285 w,by decide⟩
theorem good293:Vx.Good Tryz.prog 293 ⟨1,24,.slice 259,[.nilS]⟩:=
 ⟨⟨Tryz.t293,.slice none 0 0,by kernel_rfl,rfl,rfl,rfl,rfl,rfl,by simp[Value.cells,Value.oneCell']⟩,Tryz.underlying293,fun w=>Tryz.isAgg293 w,by decide⟩
theorem good302:Vx.Good Tryz.prog 302 ⟨1,24,.slice 5,[.nilS]⟩:=
 ⟨⟨Tryz.t302,.slice none 0 0,by kernel_rfl,rfl,rfl,rfl,rfl,rfl,by simp[Value.cells,Value.oneCell']⟩,Tryz.underlying302,fun w=>Tryz.isAgg302 w,by decide⟩
theorem good309:Vx.Good Tryz.prog 309 ⟨1,24,.slice 241,[.nilS]⟩:=
 ⟨⟨Tryz.t309,.slice none 0 0,by kernel_rfl,rfl,rfl,rfl,rfl,rfl,by simp[Value.cells,Value.oneCell']⟩,Tryz.underlying309,fun w=>Tryz.isAgg309 w,by decide⟩
theorem good311:Vx.Good Tryz.prog 311 ⟨1,1,.struct [(0,4)],[.ff]⟩:=
 ⟨⟨Tryz.t311,.agg #[.bool false],by kernel_rfl,rfl,rfl,rfl,rfl,rfl,by simp[Value.cells,Value.oneCell']⟩,⟨_,Tryz.underlying311,rfl⟩,fun w=>Tryz.isAgg311 w,by decide⟩
theorem good313:Vx.Good Tryz.prog 313 ⟨7,72,.struct [(0,172)],[.s [],.i .i64 0,.i .i64 0,.i .i64 0,.i .i64 0,.i .i64 0,.s []]⟩:=
 ⟨⟨Tryz.t313,.agg #[.string ⟨#[]⟩,.int .i64 0,.int .i64 0,.int .i64 0,.int .i64 0,.int .i64 0,.string ⟨#[]⟩],by kernel_rfl,rfl,rfl,rfl,rfl,rfl,by simp[Value.cells,Value.oneCell']⟩,⟨_,Tryz.underlying313,rfl⟩,fun w=>Tryz.isAgg313 w,by decide⟩
theorem good315:Vx.Good Tryz.prog 315 ⟨1,16,.struct [(0,241)],[.nilI]⟩:=
 ⟨⟨Tryz.t315,.agg #[.nilIface],by kernel_rfl,rfl,rfl,rfl,rfl,rfl,by simp[Value.cells,Value.oneCell']⟩,⟨_,Tryz.underlying315,rfl⟩,fun w=>Tryz.isAgg315 w,by decide⟩
theorem good317:Vx.Good Tryz.prog 317 ⟨2,32,.struct [(0,241),(1,241)],[.nilI,.nilI]⟩:=
 ⟨⟨Tryz.t317,.agg #[.nilIface,.nilIface],by kernel_rfl,rfl,rfl,rfl,rfl,rfl,by simp[Value.cells,Value.oneCell']⟩,⟨_,Tryz.underlying317,rfl⟩,fun w=>Tryz.isAgg317 w,by decide⟩
theorem good319:Vx.Good Tryz.prog 319 ⟨2,32,.struct [(0,317)],[.nilI,.nilI]⟩:=
 ⟨⟨Tryz.t319,.agg #[.nilIface,.nilIface],by kernel_rfl,rfl,rfl,rfl,rfl,rfl,by simp[Value.cells,Value.oneCell']⟩,⟨_,Tryz.underlying319,rfl⟩,fun w=>Tryz.isAgg319 w,by decide⟩
theorem good320:Vx.Good Tryz.prog 320 ⟨2,32,.struct [(0,317)],[.nilI,.nilI]⟩:=
 ⟨⟨Tryz.t320,.agg #[.nilIface,.nilIface],by kernel_rfl,rfl,rfl,rfl,rfl,rfl,by simp[Value.cells,Value.oneCell']⟩,⟨_,Tryz.underlying320,rfl⟩,fun w=>Tryz.isAgg320 w,by decide⟩
theorem good351:Vx.Good Tryz.prog 351 ⟨4,4,.struct [(0,4),(1,4),(2,4),(3,4)],[.ff,.ff,.ff,.ff]⟩:=
 ⟨⟨Tryz.t351,.agg #[.bool false,.bool false,.bool false,.bool false],by kernel_rfl,rfl,rfl,rfl,rfl,rfl,by simp[Value.cells,Value.oneCell']⟩,⟨_,Tryz.underlying351,rfl⟩,fun w=>Tryz.isAgg351 w,by decide⟩
theorem good352:Vx.Good Tryz.prog 352 ⟨20,20,.array 5 351,[.ff,.ff,.ff,.ff,.ff,.ff,.ff,.ff,.ff,.ff,.ff,.ff,.ff,.ff,.ff,.ff,.ff,.ff,.ff,.ff]⟩:=
 ⟨⟨Tryz.t352,.agg #[.bool false,.bool false,.bool false,.bool false,.bool false,.bool false,.bool false,.bool false,.bool false,.bool false,.bool false,.bool false,.bool false,.bool false,.bool false,.bool false,.bool false,.bool false,.bool false,.bool false],by kernel_rfl,rfl,rfl,rfl,rfl,rfl,by simp[Value.cells,Value.oneCell']⟩,Tryz.underlying352,fun w=>Tryz.isAgg352 w,by decide⟩
theorem good375:Vx.Good Tryz.prog 375 ⟨4,32,.array 4 285,[.i .u64 0,.i .u64 0,.i .u64 0,.i .u64 0]⟩:=
 ⟨⟨Tryz.t375,.agg #[.int .u64 0,.int .u64 0,.int .u64 0,.int .u64 0],by kernel_rfl,rfl,rfl,rfl,rfl,rfl,by simp[Value.cells,Value.oneCell']⟩,Tryz.underlying375,fun w=>Tryz.isAgg375 w,by decide⟩
theorem good377:Vx.Good Tryz.prog 377 ⟨9,72,.struct [(0,3),(1,375),(5,375)],[.i .i64 0,.i .u64 0,.i .u64 0,.i .u64 0,.i .u64 0,.i .u64 0,.i .u64 0,.i .u64 0,.i .u64 0]⟩:=
 ⟨⟨Tryz.t377,.agg #[.int .i64 0,.int .u64 0,.int .u64 0,.int .u64 0,.int .u64 0,.int .u64 0,.int .u64 0,.int .u64 0,.int .u64 0],by kernel_rfl,rfl,rfl,rfl,rfl,rfl,by simp[Value.cells,Value.oneCell']⟩,⟨_,Tryz.underlying377,rfl⟩,fun w=>Tryz.isAgg377 w,by decide⟩
theorem good380:Vx.Good Tryz.prog 380 ⟨1,24,.slice 377,[.nilS]⟩:=
 ⟨⟨Tryz.t380,.slice none 0 0,by kernel_rfl,rfl,rfl,rfl,rfl,rfl,by simp[Value.cells,Value.oneCell']⟩,Tryz.underlying380,fun w=>Tryz.isAgg380 w,by decide⟩
theorem good395:Vx.Good Tryz.prog 395 ⟨1,8,.ptr 375,[.nilP]⟩:=
 ⟨⟨Tryz.t395,.pointer none,by kernel_rfl,rfl,rfl,rfl,rfl,rfl,by simp[Value.cells,Value.oneCell']⟩,Tryz.underlying395,fun w=>Tryz.isAgg395 w,by decide⟩
theorem tok:TOk Tryz.prog T:=by
 intro t ti h
 unfold T at h
 split at h
 . cases h;exact good3
 . cases h;exact good4
 . cases h;exact good5
 . cases h;exact good9
 . cases h;exact good20
 . cases h;exact good22
 . cases h;exact good23
 . cases h;exact good24
 . cases h;exact good25
 . cases h;exact good27
 . cases h;exact good31
 . cases h;exact good32
 . cases h;exact good41
 . cases h;exact good42
 . cases h;exact good43
 . cases h;exact good44
 . cases h;exact good45
 . cases h;exact good47
 . cases h;exact good49
 . cases h;exact good55
 . cases h;exact good57
 . cases h;exact good63
 . cases h;exact good64
 . cases h;exact good65
 . cases h;exact good66
 . cases h;exact good68
 . cases h;exact good72
 . cases h;exact good74
 . cases h;exact good76
 . cases h;exact good82
 . cases h;exact good84
 . cases h;exact good85
 . cases h;exact good87
 . cases h;exact good89
 . cases h;exact good91
 . cases h;exact good93
 . cases h;exact good99
 . cases h;exact good102
 . cases h;exact good122
 . cases h;exact good123
 . cases h;exact good127
 . cases h;exact good130
 . cases h;exact good136
 . cases h;exact good142
 . cases h;exact good145
 . cases h;exact good147
 . cases h;exact good150
 . cases h;exact good151
 . cases h;exact good155
 . cases h;exact good172
 . cases h;exact good174
 . cases h;exact good178
 . cases h;exact good179
 . cases h;exact good180
 . cases h;exact good182
 . cases h;exact good185
 . cases h;exact good187
 . cases h;exact good189
 . cases h;exact good191
 . cases h;exact good199
 . cases h;exact good200
 . cases h;exact good203
 . cases h;exact good205
 . cases h;exact good207
 . cases h;exact good211
 . cases h;exact good214
 . cases h;exact good217
 . cases h;exact good234
 . cases h;exact good235
 . cases h;exact good236
 . cases h;exact good241
 . cases h;exact good257
 . cases h;exact good259
 . cases h;exact good285
 . cases h;exact good293
 . cases h;exact good302
 . cases h;exact good309
 . cases h;exact good311
 . cases h;exact good313
 . cases h;exact good315
 . cases h;exact good317
 . cases h;exact good319
 . cases h;exact good320
 . cases h;exact good351
 . cases h;exact good352
 . cases h;exact good375
 . cases h;exact good377
 . cases h;exact good380
 . cases h;exact good395
 . cases h
theorem follows:Tryz.prog.follows .mixedOrders=true:=by kernel_rfl
end Go.Proofs.YtnlingegeangmaaGreatDoor
namespace Go.Proofs.YtnlingegeangmaaGreatDoor
open Go Go.Vx
abbrev Key:=Int × Int
structure Hd where
 g:Nat
 n:Nat
 c:Nat
 o:Obj
def Hd.p(h:Hd):Nat × Obj:=(h.g,h.o)
def hdD:Option Hd->D
 | none=>.rnl
 | some h=>.rsl h.g h.n h.c
def cel(h:Option Hd):List D:=[hdD h]
def obD:Obj:=.cells #[] 0 (0,0)
def bt(hs:List (Option Hd)):Blks:=hs.filterMap fun h=>h.map Hd.p
theorem bt_none(n:Nat):bt (List.replicate n none)=[]:=by
 unfold bt
 rw[List.filterMap_eq_nil_iff]
 intro a ha
 rw[List.eq_of_mem_replicate ha]
 rfl
theorem bt_perm{hs:List (Option Hd)}{i:Nat}{h:Hd}:i<hs.length->(h.p :: bt (hs.set i none)).Perm (bt (hs.set i (some h))):=by
 induction hs generalizing i with
 | nil=>intro hi;cases hi
 | cons x hs ih=>
  intro hi
  cases i with
  | zero=>simp[bt]
  | succ i=>
   have:=ih (i:=i) (by simpa using hi)
   cases x with
   | none=>simpa[bt] using this
   | some x=>exact (List.Perm.swap x.p h.p _).trans (by simpa[bt] using this.cons x.p)
theorem lset_self{α:Type}:∀ {l:List α} {i:Nat} {x:α},l[i]? = some x->l.set i x=l
 | _ :: _,0,_,h=>by simp at h;simp[h]
 | _ :: l,i+1,_,h=>by simp at h;simp[lset_self h]
theorem bt_out{hs:List (Option Hd)}{i:Nat}{h:Hd}(hh:hs[i]? = some (some h)):(bt hs).Perm (h.p :: bt (hs.set i none)):=by
 have:=(bt_perm (h:=h) (gSm0.1 hh).1).symm
 rwa [lset_self hh] at this
theorem bt_perm0{hs:List (Option Hd)}{i:Nat}(hh:hs[i]? = some none)(h:Hd):(h.p :: bt hs).Perm (bt (hs.set i (some h))):=by
 have:=bt_perm (h:=h) (gSm0.1 hh).1
 rwa [lset_self hh] at this
theorem bb_out(X:Blks){hs:List (Option Hd)}{i:Nat}{h:Hd}(hh:hs[i]? = some (some h)):(X++bt hs).Perm (h.p :: (X++bt (hs.set i none))):=((bt_out hh).append_left X).trans List.perm_middle
theorem bb_in(X:Blks){hs:List (Option Hd)}{i:Nat}(h:Hd)(hi:i<hs.length):(h.p :: (X++bt (hs.set i none))).Perm (X++bt (hs.set i (some h))):=List.perm_middle.symm.trans ((bt_perm hi).append_left X)
theorem bb_in0(X:Blks){hs:List (Option Hd)}{i:Nat}(hh:hs[i]? = some none)(h:Hd):(h.p :: (X++bt hs)).Perm (X++bt (hs.set i (some h))):=List.perm_middle.symm.trans ((bt_perm0 hh h).append_left X)
theorem cel_set(hs:List (Option Hd))(i g n c:Nat)(o o':Obj):(hs.set i (some ⟨g,n,c,o⟩)).map cel=(hs.set i (some ⟨g,n,c,o'⟩)).map cel:=by
 simp[List.map_set,cel,hdD]
def TabI(e:TypeId){α:Type}(f:α->List D)(hs:List (Option Hd))(L:List (List α)):Prop:=
 hs.length=L.length/\∀ (i:Nat) h l,hs[i]? = some h->L[i]? = some l->match h with
  | none=>l=[]
  | some h=>BlkIs (szOf T) e h.n h.c (l.map f) h.o
theorem TabI.set{e:TypeId}{α:Type}{f:α->List D}{hs:List (Option Hd)}{L:List (List α)}(h:TabI e f hs L){i:Nat}{x:Hd}{l:List α}(hb:BlkIs (szOf T) e x.n x.c (l.map f) x.o):TabI e f (hs.set i (some x)) (L.set i l):=by
 refine⟨by simp[h.1],fun j y m h1 h2=>?_⟩
 by_cases hj:i=j
 . subst hj
   have hi:i<hs.length:=by have:=(gSm0.1 h1).1;simpa using this
   rw[List.getElem?_set_self hi] at h1
   rw[List.getElem?_set_self (by rw[<- h.1];exact hi)] at h2
   cases h1
   cases h2
   exact hb
 . rw[List.getElem?_set_ne hj] at h1 h2
   exact h.2 j y m h1 h2
theorem TabI.start{e:TypeId}{α:Type}{f:α->List D}(n:Nat):TabI e f (List.replicate n none) (List.replicate n []):=
 ⟨by simp,fun i h l h1 h2=>by
  rw[List.getElem?_replicate] at h1 h2
  split at h1
  . split at h2
    . cases h1;cases h2;trivial
    . cases h1;contradiction
  . cases h1⟩
theorem blk_len{e:TypeId}{n c:Nat}{xs:List (List D)}{o:Obj}(h:BlkIs (szOf T) e n c xs o):n=xs.length/\n<=c:=by
 obtain⟨_,_,_,h1,h2,_⟩:=h
 exact⟨h1,h2⟩
section
variable {κ : Type} [DecidableEq κ]
def fS:Option (Option Hd)->D
 | some (some h)=>.rsl h.g h.n h.c
 | _=>.rnl
def bo(l:List (κ × Option Hd × Nat)):Blks:=l.filterMap fun e=>e.2.1.map Hd.p
theorem bo_cons(e:κ × Option Hd × Nat)(l:List (κ × Option Hd × Nat)):bo (e :: l)=(match e.2.1 with|some h=>[h.p]|none=>[])++bo l:=by
 unfold bo
 rw[List.filterMap_cons]
 cases e.2.1<;>rfl
theorem bo_erase:∀ {l:List (κ × Option Hd × Nat)} {i:Nat} {k:κ} {h:Hd} {n:Nat},l[i]? = some (k,some h,n)->(bo l).Perm (h.p :: bo (l.eraseIdx i))
 | [],i,_,_,_,h=>by simp at h
 | e :: l,0,_,_,_,h=>by simp at h;subst h;simp[bo]
 | e :: l,i+1,_,h,_,hh=>by
  have:=bo_erase (l:=l) (i:=i) (by simpa using hh)
  rw[List.eraseIdx_cons_succ,bo_cons,bo_cons]
  refine (this.append_left _).trans ?_
  cases e.2.1 with
  | none=>exact .refl _
  | some x=>exact .swap _ _ _
theorem erase_modify{α:Type}(g:α->α):∀ (l:List α) (i:Nat),(l.modify i g).eraseIdx i=l.eraseIdx i
 | [],_=>by simp
 | _ :: _,0=>by simp
 | x :: l,i+1=>by simp[List.eraseIdx_cons_succ,erase_modify g l i]
theorem bo_out{l:List (κ × Option Hd × Nat)}{k:κ}{h:Hd}(hh:lk l k=some (some h)):(bo l).Perm (h.p :: bo (mdel l k)):=by
 unfold lk at hh
 unfold mdel
 cases hm:mfind k l 0 with
 | none=>rw[hm] at hh;cases hh
 | some x=>
  obtain⟨i,a⟩:=x
  rw[hm] at hh
  simp at hh
  subst hh
  obtain⟨_,n,hn⟩:=mfind_i hm
  simpa using bo_erase hn
theorem bo_in(l:List (κ × Option Hd × Nat))(c:Nat)(k:κ)(h:Hd):(h.p :: bo (mdel l k)).Perm (bo (mput l c k (some h)).1):=by
 unfold mdel mput
 cases hm:mfind k l 0 with
 | none=>
  simp only[bo,List.filterMap_append]
  exact (List.perm_append_comm (l₁:=[h.p])).trans (by simp)
 | some x=>
  obtain⟨i,a⟩:=x
  obtain⟨_,n,hn⟩:=mfind_i hm
  dsimp only
  have h1:(l.modify i fun e=>(e.1,some h,e.2.2))[i]? = some (k,some h,n):=by
   rw[List.getElem?_modify]
   simp at hn
   simp[hn]
  have h2:=bo_erase h1
  rw[erase_modify] at h2
  exact h2.symm
theorem mdel_none{l:List (κ × Option Hd × Nat)}{k:κ}(h:lk l k=none):mdel l k=l:=by
 unfold lk at h
 unfold mdel
 cases hm:mfind k l 0 with
 | none=>rfl
 | some x=>rw[hm] at h;cases h
theorem obj_set(kd:κ->D)(l:List (κ × Option Hd × Nat))(cl:Nat)(k:κ)(g n c:Nat)(o o':Obj) :
    mObj kd fS (mput l cl k (some ⟨g,n,c,o⟩)).1 (mput l cl k (some ⟨g,n,c,o⟩)).2=mObj kd fS (mput l cl k (some ⟨g,n,c,o'⟩)).1 (mput l cl k (some ⟨g,n,c,o'⟩)).2:=by
 unfold mput mObj
 cases hm:mfind k l 0 with
 | none=>simp[mEnt,fS]
 | some x=>
  obtain⟨i,a⟩:=x
  dsimp only
  congr 2
  apply List.ext_getElem?
  intro j
  simp only[gMp0,List.getElem?_modify]
  split<;>cases l[j]?<;>simp[mEnt,fS]
theorem obj_same(kd:κ->D){l:List (κ × Option Hd × Nat)}(cl:Nat){k:κ}{h:Hd}(hl:lk l k=some (some h))(o':Obj) :
    mObj kd fS (mput l cl k (some ⟨h.g,h.n,h.c,o'⟩)).1 (mput l cl k (some ⟨h.g,h.n,h.c,o'⟩)).2=mObj kd fS l cl:=by
 unfold lk at hl
 unfold mput mObj
 cases hm:mfind k l 0 with
 | none=>rw[hm] at hl;cases hl
 | some x=>
  obtain⟨i,a⟩:=x
  rw[hm] at hl
  simp at hl
  subst hl
  obtain⟨_,n,hn⟩:=mfind_i hm
  dsimp only
  congr 2
  apply List.ext_getElem?
  intro j
  simp only[gMp0,List.getElem?_modify]
  by_cases hj:i=j
  . subst hj
    simp at hn
    simp[hn,mEnt,fS]
  . cases l[j]?<;>simp[hj]
end
end Go.Proofs.YtnlingegeangmaaGreatDoor
namespace Go.Vx
open Go.RowKit Go.ChangeShapes Go.WideShapes
open Go.Proofs.YtnlingegeangmaaGreatDoor (Rows.uptoBulk Rows.uptoBulkAll)
inductive Shp where
 | bool|int (k:IntKind)|str|slice (e:TypeId) (cells:List Shp)
def shpFs(F:TypeId->Option (List Shp)):Nat->List (Nat × TypeId)->Option (List Shp)
 | _,[]=>some []
 | k,(o,t) :: r=>match Nat.beq o k,F t with
  | true,some l=>(match shpFs F (k+l.length) r with|some m=>some (l++m)|none=>none)
  | _,_=>none
def lenIs(s:Nat)(o:Option (List Shp)):Option (List Shp):=match o with|some l=>(match Nat.beq s l.length with|true=>some l|false=>none)|none=>none
def shpC(T:Tab):Nat->TypeId->Option (List Shp)
 | 0,_=>none
 | f+1,t=>match T t with
  | some ⟨s,_,.bool,_⟩=>lenIs s (some [.bool])
  | some ⟨s,_,.int k,_⟩=>lenIs s (some [.int k])
  | some ⟨s,_,.str,_⟩=>lenIs s (some [.str])
  | some ⟨s,_,.slice e,_⟩=>lenIs s (match shpC T f e with|some l=>some [.slice e l]|none=>none)
  | some ⟨s,_,.struct fs,_⟩=>lenIs s (shpFs (shpC T f) 0 fs)
  | _=>none
mutual
/-- A cell of such a type; lists and texts of at most B. -/
def TyS (B : Nat) : Shp → D → Prop
  | .bool, d => ∃ p, d = .b p
  | .int k, d => ∃ n, d = .i k n ∧ (Lit.int k n).wf = true
  | .str, d => ∃ l, d = .s l ∧ l.length ≤ B
  | .slice e l, d => ∃ rows room, d = .lst e rows room ∧ rows.length + room.length ≤ B ∧ ∀ r, r ∈ rows ++ room → TySs B l r
/-- .. a row of cells. -/
def TySs (B : Nat) : List Shp → List D → Prop
  | [], [] => True
  | s :: ss, d :: ds => TyS B s d ∧ TySs B ss ds
  | [], _ :: _ => False
  | _ :: _, [] => False
end
def TyA(T:Tab)(B:Nat)(t:TypeId)(l:List Shp)(x:D):Prop:=
 match T t with
 | some ⟨_,_,.struct _,_⟩=>∃ row,x = .agg row/\TySs B l row
 | _=>TySs B l [x]
theorem TySs.append{B:Nat}:∀ {ts us:List Shp} {ds es:List D},TySs B ts ds->TySs B us es->TySs B (ts++us) (ds++es)
 | [],_,[],_,_,h=>h
 | _ :: _,_,_ :: _,_,h,h'=>by
  simp only[TySs,List.cons_append] at h ⊢
  exact⟨h.1,TySs.append h.2 h'⟩
 | [],_,_ :: _,_,h,_=>by simp[TySs] at h
 | _ :: _,_,[],_,h,_=>by simp[TySs] at h
theorem lenIs_some{s:Nat}{o:Option (List Shp)}{l:List Shp}(h:lenIs s o=some l):o=some l/\s=l.length:=by
 unfold lenIs at h
 split at h
 . split at h
   . rename_i hb
     cases h
     exact⟨rfl,Nat.eq_of_beq_eq_true hb⟩
   . cases h
 . cases h
theorem shpC_len{T:Tab}{f:Nat}{t:TypeId}{l:List Shp}(h:shpC T f t=some l):szOf T t=l.length/\∃ ti,T t=some ti:=by
 cases f with
 | zero=>simp[shpC] at h
 | succ f=>
  simp only[shpC] at h
  split at h
  all_goals first
   | (cases h)
   | (rename_i ht;have:=lenIs_some h;rw[szOf_eq ht];exact⟨this.2,_,ht⟩)
section
variable {H : Type} {enc : TypeId × Value → H} {P : Program} {T : Tab} {w : World} {held : Bool}
theorem bulk_mem{d:DataW H}:∀ {l:List (DataW H)},d ∈ l->Rows.uptoBulk d<=Rows.uptoBulkAll l
 | [],h=>by cases h
 | x :: r,h=>by
  simp only[Rows.uptoBulkAll]
  rcases List.mem_cons.1 h with rfl|h
  . omega
  . have:=bulk_mem h;omega
theorem bulk_one(d:DataW H):1<=Rows.uptoBulk d:=by
 cases d with
 | lit l=>cases l<;>simp[Rows.uptoBulk]
 | _=>simp[Rows.uptoBulk]
theorem bulk_length:∀ (l:List (DataW H)),l.length<=Rows.uptoBulkAll l
 | []=>by simp[Rows.uptoBulkAll]
 | x :: r=>by have:=bulk_one x;have:=bulk_length r;simp only[Rows.uptoBulkAll,List.length_cons];omega
def CellsR(T:Tab)(w:World)(cs:List Value)(row:List D):Prop:=
 cs.length=row.length/\∀ (j:Nat) v d,cs[j]? = some v->row[j]? = some d->RI (szOf T) (heapV w) v d/\v.oneCell'=true
theorem CellsR.append{cs cs':List Value}{row row':List D}(h:CellsR T w cs row)(h':CellsR T w cs' row'):CellsR T w (cs++cs') (row++row'):=by
 refine⟨by simp[h.1,h'.1],fun j v d h1 h2=>?_⟩
 by_cases hj:j<cs.length
 . rw[List.getElem?_append_left hj] at h1
   rw[List.getElem?_append_left (by rw[<- h.1];exact hj)] at h2
   exact h.2 j v d h1 h2
 . rw[List.getElem?_append_right (by omega)] at h1
   rw[List.getElem?_append_right (by rw[<- h.1];omega),<- h.1] at h2
   exact h'.2 _ v d h1 h2
theorem CellsR.one{v:Value}{d:D}(h:RI (szOf T) (heapV w) v d)(h1:v.oneCell'=true):CellsR T w [v] [d]:=by
 refine⟨rfl,fun j v' d' h2 h3=>?_⟩
 cases j with
 | zero=>simp at h2 h3;subst h2 h3;exact⟨h,h1⟩
 | succ j=>simp at h2
theorem cells_of(hT:TOk P T){t:TypeId}(h:∃ ti,T t=some ti):szOf T t=P.cellsOf t:=by
 obtain⟨ti,ht⟩:=h
 obtain⟨i,z,h1,h2,_⟩:=(hT t ti ht).info
 rw[szOf_eq ht]
 simp[Program.cellsOf,h1,h2]
theorem fields_ri{f B:Nat}{k:Nat}(ih:∀ t cs x l,shpC T f t=some l->(B=maxLen\/Rows.uptoBulk x.1<=B)->DataW.trod enc P w 0 (fun _=>true) held k t cs=some x->∃ row,TySs B l row/\CellsR T w cs row)
    (hT:TOk P T)(cs:List Value) :
    ∀ (fs:List (Nat × TypeId)) (o:Nat) (xs:List (DataW H × List MemPlace)) (l:List Shp),shpFs (shpC T f) o fs=some l ->
     (B=maxLen\/Rows.uptoBulkAll (xs.map (·.1))<=B)->xs.length=fs.length ->
     (∀ (i:Nat) p,fs[i]? = some p->DataW.trod enc P w 0 (fun _=>true) held k p.2 ((cs.drop p.1).take (P.cellsOf p.2))=xs[i]?) ->
     cs.length=o+l.length->∃ row,TySs B l row/\CellsR T w (cs.drop o) row
 | [],o,xs,l,h1,_,_,_,hl=>⟨[],by simp[shpFs] at h1;subst h1;simp[TySs],by
     simp[shpFs] at h1
     subst h1
     have:cs.drop o=[]:=List.drop_of_length_le (by rw[hl];simp)
     rw[this]
     exact⟨rfl,fun j v d h=>by simp at h⟩⟩
 | (o',t) :: r,o,xs,l,h1,hB,hxl,hx,hl=>by
  simp only[shpFs] at h1
  split at h1
  case h_2=>cases h1
  rename_i l0 hb ht
  split at h1
  case h_2=>cases h1
  rename_i m hm
  cases h1
  have ho:o'=o:=Nat.eq_of_beq_eq_true hb
  obtain⟨hs,hti⟩:=shpC_len ht
  subst ho
  cases xs with
  | nil=>simp at hxl
  | cons x0 xs=>
   have h0:=hx 0 _ rfl
   simp only[List.getElem?_cons_zero] at h0
   have hb0:B=maxLen\/Rows.uptoBulk x0.1<=B:=by
    rcases hB with hB|hB
    . exact .inl hB
    . right;simp only[List.map_cons,Rows.uptoBulkAll] at hB;omega
   have hb1:B=maxLen\/Rows.uptoBulkAll (xs.map (·.1))<=B:=by
    rcases hB with hB|hB
    . exact .inl hB
    . right;simp only[List.map_cons,Rows.uptoBulkAll] at hB;omega
   simp only[List.length_append] at hl
   obtain⟨row0,a0,r0⟩:=ih _ _ _ _ ht hb0 h0
   obtain⟨row1,a1,r1⟩:=fields_ri ih hT cs r (o' + l0.length) xs m hm hb1 (by simpa using hxl) (fun i p hp=>by
    have:=hx (i+1) p (by simpa using hp)
    simpa using this) (by omega)
   refine⟨row0++row1,a0.append a1,?_⟩
   have hc:cs.drop o'=(cs.drop o').take (P.cellsOf t)++cs.drop (o' + l0.length):=by
    rw[<- cells_of hT hti,hs,<- List.drop_drop,List.take_append_drop]
   rw[hc]
   exact r0.append r1
theorem trod_ri(hT:TOk P T)(B:Nat)(hBm:B<=maxLen):∀ (f k:Nat) (t:TypeId) (cs:List Value) (x:DataW H × List MemPlace) (l:List Shp),shpC T f t=some l->(B=maxLen\/Rows.uptoBulk x.1<=B) ->
    DataW.trod enc P w 0 (fun _=>true) held k t cs=some x->∃ row,TySs B l row/\CellsR T w cs row
 | 0,_,_,_,_,_,h,_,_=>by simp[shpC] at h
 | f+1,k,t,cs,x,l,hok,hB,h=>by
  cases ht:T t with
  | none=>simp[shpC,ht] at hok
  | some ti=>
   obtain⟨s,b,kd,z⟩:=ti
   have hG:=(hT t _ ht).kind
   cases kd with
   | bool=>
    obtain⟨v,rfl,rfl⟩:=DataW.trod_bool hG h
    simp only[shpC,ht] at hok
    obtain⟨hok,_⟩:=lenIs_some hok
    cases hok
    refine⟨[.b (v=true)],?_,.one (.b _ _ Iff.rfl) rfl⟩
    simp only[TySs,TyS,and_true]
    exact⟨_,rfl⟩
   | int kk=>
    obtain⟨n,rfl,rfl,hw⟩:=DataW.trod_int hG h
    simp only[shpC,ht] at hok
    obtain⟨hok,_⟩:=lenIs_some hok
    cases hok
    refine⟨[.i kk n],?_,.one (.i _ _) rfl⟩
    simp[TySs,TyS,hw]
   | str=>
    obtain⟨v,rfl,rfl,hl⟩:=DataW.trod_string hG h
    simp only[shpC,ht] at hok
    obtain⟨hok,_⟩:=lenIs_some hok
    cases hok
    refine⟨[.s v.data.toList],?_,.one (by have:=RI.s (sz:=szOf T) (V:=heapV w) v.data.toList;rwa [bstr_data] at this) rfl⟩
    simp only[TySs,TyS,and_true]
    refine⟨_,rfl,?_⟩
    have hl':v.data.toList.length<=maxLen:=by rw[Array.length_toList];exact hl
    rcases hB with rfl|hB
    . exact hl'
    . simp only[Rows.uptoBulk] at hB;omega
   | slice e=>
    simp only[shpC,ht] at hok
    obtain⟨hok,_⟩:=lenIs_some hok
    split at hok
    case h_2=>cases hok
    rename_i le hle
    cases hok
    obtain⟨hse,hti⟩:=shpC_len hle
    have hce:=cells_of hT hti
    rcases Go.Deep.open_slice hG h with⟨rfl,rfl⟩|⟨a,len,cap,m,n,Df,Pl,rfl,_,hlc,hcm,hm,rfl,hx⟩
    . refine⟨[.lst e [] []],?_,.one (RI.lst e [] [] none ⟨0,0,none⟩ 0 (fun _ _=>undef) (by simp) (by unfold maxLen;omega) (by simp) (by simp) (by simp) (by simp) (by simp)) rfl⟩
      simp only[TySs,TyS,and_true]
      exact⟨[],[],rfl,Nat.zero_le _,fun r hr=>by cases hr⟩
    . simp only[if_true] at hm
      subst hm
      have hbi:∀ i,i<m->(B=maxLen\/Rows.uptoBulk (Df i)<=B):=by
       intro i hi
       rcases hB with hB|hB
       . exact .inl hB
       . right
         simp only[Rows.uptoBulk] at hB
         by_cases hil:i<len
         . have:=bulk_mem (d:=Df i) (l:=(List.range len).map Df) (List.mem_map.2 ⟨i,by simpa using hil,rfl⟩)
           omega
         . have:=bulk_mem (d:=Df i) (l:=(List.range (m - len)).map fun j=>Df (len+j)) (List.mem_map.2 ⟨i - len,by simp;omega,by rw[show len+(i - len)=i by omega]⟩)
           omega
      have hmB:m<=B:=by
       rcases hB with rfl|hB
       . exact hcm
       . simp only[Rows.uptoBulk] at hB
         have h1:=bulk_length ((List.range len).map Df)
         have h2:=bulk_length ((List.range (m - len)).map fun j=>Df (len+j))
         simp at h1 h2
         omega
      have key:∀ i,i<m->∃ p:List Value × List D,w.cells? 0 (a.add (i*szOf T e)) (szOf T e)=some p.1/\TySs B le p.2/\CellsR T w p.1 p.2:=by
       intro i hi
       obtain⟨cs',h1,h2⟩:=hx i hi
       obtain⟨row,h3,h4⟩:=trod_ri hT B hBm f n e cs' _ le hle (hbi i hi) h2
       exact⟨(cs',row),by rw[hce];exact h1,h3,h4⟩
      obtain⟨g,hg⟩:=Go.Deep.choose_lt key
      have hat:∀ (i:Nat) row,(((List.range len).map fun i=>(g i).2)++((List.range (m - len)).map fun j=>(g (len+j)).2))[i]? = some row->i<m/\row=(g i).2:=by
       intro i row hr
       by_cases hil:i<len
       . rw[List.getElem?_append_left (by simpa using hil)] at hr
         simp[hil] at hr
         exact⟨by omega,hr.symm⟩
       . rw[List.getElem?_append_right (by simp;omega)] at hr
         simp only[lMp0,List.length_range,gMp0,Option.map_eq_some_iff] at hr
         obtain⟨j,hj,rfl⟩:=hr
         have hj2:=gSm0.1 hj
         obtain⟨hj3,hj4⟩:=hj2
         simp at hj3 hj4
         refine⟨by omega,by rw[<- hj4,show len+(i - len)=i by omega]⟩
      have hcell:∀ i,i<m->(g i).1.length=szOf T e/\∀ j,j<szOf T e->w.cell? ((a.add (i*szOf T e)).add j)=(g i).1[j]?:=by
       intro i hi
       obtain⟨_,h2,h3⟩:=World.cells?_some (hg i hi).1
       exact⟨h2,h3⟩
      refine⟨[.lst e ((List.range len).map fun i=>(g i).2) ((List.range (m - len)).map fun j=>(g (len+j)).2)],?_,.one ?_ rfl⟩
      . simp only[TySs,TyS,and_true]
        refine⟨_,_,rfl,by simp;omega,fun r hr=>?_⟩
        obtain⟨i,hi⟩:=List.getElem?_of_mem hr
        obtain⟨h1,rfl⟩:=hat i r hi
        exact (hg i h1).2.1
      . have hres:=RI.lst (sz:=szOf T) (V:=heapV w) e ((List.range len).map fun i=>(g i).2) ((List.range (m - len)).map fun j=>(g (len+j)).2) (some a) a m (fun i j=>(g i).1.getD j undef)
          (by simp;omega) hcm (fun _=>rfl) (fun hno=>by cases hno)
          (fun i row hr=>by
           obtain⟨h1,rfl⟩:=hat i row hr
           rw[<- (hg i h1).2.2.1,(hcell i h1).1])
          (fun i row j d hr hd=>by
           obtain⟨h1,rfl⟩:=hat i row hr
           have hj:j<(g i).1.length:=by rw[(hg i h1).2.2.1];exact (gSm0.1 hd).1
           have h2:=(hcell i h1).2 j (by rw[<- (hcell i h1).1];exact hj)
           have hv:(g i).1[j]? = some ((g i).1.getD j undef):=by simp[List.getD,gEt0 hj]
           refine⟨?_,((hg i h1).2.2.2 j _ d hv hd).2⟩
           show w.cell? _=_
           rw[<- add_add,h2,hv])
          (fun i row j d hr hd=>by
           obtain⟨h1,rfl⟩:=hat i row hr
           have hj:j<(g i).1.length:=by rw[(hg i h1).2.2.1];exact (gSm0.1 hd).1
           have hv:(g i).1[j]? = some ((g i).1.getD j undef):=by simp[List.getD,gEt0 hj]
           exact ((hg i h1).2.2.2 j _ d hv hd).1)
        simpa using hres
   | struct fs=>
    simp only[shpC,ht] at hok
    obtain⟨hok,hs⟩:=lenIs_some hok
    obtain⟨fa,hu,hfa⟩:=hG
    obtain⟨xs,n,_,rfl,hl,hxl,hx⟩:=DataW.trod_struct hu h
    have hc:P.cellsOf t=s:=by
     obtain⟨i,z',h1,h2,_⟩:=(hT t _ ht).info
     simp[Program.cellsOf,h1,h2]
    have hfl:fs.length=fa.size:=by rw[<- hfa];simp
    obtain⟨row,h1,h2⟩:=fields_ri (fun t cs x l a b c=>trod_ri hT B hBm f n t cs x l a b c) hT cs fs 0 xs l hok (by
        rcases hB with hB|hB
        . exact .inl hB
        . right;simp only[Rows.uptoBulk] at hB;omega) (by rw[hxl,hfl]) (fun i p hp=>by
        rw[<- hfa] at hp
        simp only[gMp0,Option.map_eq_some_iff] at hp
        obtain⟨fd,h3,rfl⟩:=hp
        exact hx i fd (by simpa using h3)) (by rw[hl,hc,hs,Nat.zero_add])
    exact⟨row,h1,by simpa using h2⟩
   | array n e=>simp[shpC,ht] at hok
   | ptr e=>simp[shpC,ht] at hok
   | other=>simp[shpC,ht] at hok
end
end Go.Vx
namespace Go.Vx
open Go.RowKit Go.ChangeShapes Go.WideShapes
open Go.Proofs.YtnlingegeangmaaGreatDoor (Rows.uptoBulk Rows.uptoBulkAll)
def shapes(T:Tab)(f:Nat):List TypeId->Option (List (List Shp))
 | []=>some []
 | t :: ts=>match shpC T f t,shapes T f ts with|some l,some r=>some (l :: r)|_,_=>none
def TyAs(T:Tab)(B:Nat):List TypeId->List (List Shp)->List D->Prop
 | [],[],[]=>True
 | t :: ts,l :: ls,x :: xs=>TyA T B t l x/\TyAs T B ts ls xs
 | _,_,_=>False
section
variable {H : Type} {enc : TypeId × Value → H} {P : Program} {T : Tab} {w : World}
theorem arg_ri(hT:TOk P T){B:Nat}(hBm:B<=maxLen){f base:Nat}{r:Reach}{t:TypeId}{v:Value}{d:DataW H}{ps:List MemPlace}{l:List Shp}(hs:shpC T f t=some l)(hB:B=maxLen\/Rows.uptoBulk d<=B)
    (hv:Value.okWide P w r base t v)(h:DataW.Trod enc P w 0 (fun _=>true) true t v d ps):∃ x,TyA T B t l x/\RI (szOf T) (heapV w) v x:=by
 obtain⟨k,hk⟩:=h
 obtain⟨row,h1,h2⟩:=trod_ri hT B hBm f k t _ _ l hs hB hk
 obtain⟨hz,ti,ht⟩:=shpC_len hs
 obtain⟨s,b,kd,z⟩:=ti
 have hG:=(hT t _ ht).kind
 have one:∀ u,v=u->u.cells=#[u]->TyA T B t l=(fun x=>TySs B l [x])->∃ x,TyA T B t l x/\RI (szOf T) (heapV w) v x:=by
  rintro u rfl hu he
  rw[hu] at h2
  obtain⟨h3,h4⟩:=h2
  match row,h3 with
  | [x],_=>exact⟨x,by rw[he];exact h1,(h4 0 v x rfl rfl).1⟩
 cases kd with
 | bool=>obtain⟨u,rfl⟩:=okWide_bool hG hv;exact one _ rfl rfl (by funext x;simp[TyA,ht])
 | int kk=>obtain⟨u,rfl⟩:=okWide_int hG hv;exact one _ rfl rfl (by funext x;simp[TyA,ht])
 | str=>obtain⟨u,rfl⟩:=okWide_string hG hv;exact one _ rfl rfl (by funext x;simp[TyA,ht])
 | slice e=>obtain⟨a,m,n,rfl⟩:=okWide_slice hG hv;exact one _ rfl rfl (by funext x;simp[TyA,ht])
 | struct fs=>
  obtain⟨fa,hu,_⟩:=hG
  obtain⟨cs,rfl,_⟩:=okWide_struct hu hv
  refine⟨.agg row,by simp only[TyA,ht];exact⟨row,rfl,h1⟩,?_⟩
  simp only[Value.cells] at h2
  refine RI.agg row cs (by simpa using h2.1) (fun u hu=>?_) (fun j u d a b=>(h2.2 j u d (by simpa using a) b).1)
  obtain⟨j,hj⟩:=List.getElem?_of_mem hu
  have hl:j<row.length:=by rw[<- h2.1];exact (gSm0.1 hj).1
  exact (h2.2 j u _ hj (gEt0 hl)).2
 | array n e=>cases f with|zero=>simp[shpC] at hs|succ f=>simp[shpC,ht] at hs
 | ptr e=>cases f with|zero=>simp[shpC] at hs|succ f=>simp[shpC,ht] at hs
 | other=>cases f with|zero=>simp[shpC] at hs|succ f=>simp[shpC,ht] at hs
theorem args_ri(hT:TOk P T){B:Nat}(hBm:B<=maxLen){f base:Nat}{r:Reach}:∀ (ts:List TypeId) (ls:List (List Shp)) (vs:List Value) (ds:List (DataW H)) (ps:List MemPlace),shapes T f ts=some ls ->
    (B=maxLen\/Rows.uptoBulkAll ds<=B)->(∀ (j:Nat) t v,ts[j]? = some t->vs[j]? = some v->Value.okWide P w r base t v)->DataW.TrodAll enc P w 0 (fun _=>true) true ts vs ds ps ->
    ∃ xs,TyAs T B ts ls xs/\vs.length=xs.length/\∀ (j:Nat) v x,vs[j]? = some v->xs[j]? = some x->RI (szOf T) (heapV w) v x
 | [],ls,vs,ds,ps,hs,_,_,h=>by
  obtain⟨rfl,rfl,rfl⟩:=trodAll_nil h
  cases hs
  exact⟨[],trivial,rfl,fun j v x h=>by simp at h⟩
 | t :: ts,ls,vs,ds,ps,hs,hB,hv,h=>by
  obtain⟨v,vs',d,ds',p,q,rfl,rfl,rfl,h1,h2⟩:=trodAll_cons h
  simp only[shapes] at hs
  split at hs
  case h_2=>cases hs
  rename_i l r h3 h4
  cases hs
  obtain⟨x,hx1,hx2⟩:=arg_ri hT hBm h3 (by
   rcases hB with hB|hB
   . exact .inl hB
   . right;simp only[Rows.uptoBulkAll] at hB;omega) (hv 0 t v rfl rfl) h1
  obtain⟨xs,hy1,hy2,hy3⟩:=args_ri hT hBm ts r vs' ds' q h4 (by
   rcases hB with hB|hB
   . exact .inl hB
   . right;simp only[Rows.uptoBulkAll] at hB;omega) (fun j t' v' a b=>hv (j+1) t' v' (by simpa using a) (by simpa using b)) h2
  refine⟨x :: xs,⟨hx1,hy1⟩,by simp[hy2],fun j v' x' a b=>?_⟩
  cases j with
  | zero=>simp at a b;subst a b;exact hx2
  | succ j=>exact hy3 j v' x' (by simpa using a) (by simpa using b)
theorem stays(hl:laidOutB P=true){W W':World}(hb:Below W.heap.size W W'){sp:Nat->Bool}:∀ (ts:List TypeId) (vs:List Value) (ds:List (DataW H)) (ps:List MemPlace),(∀ t ∈ ts,P.readableRec t=true/\t<P.types.size) ->
    (∀ p ∈ ps,p.block<W.heap.size)->(∀ p ∈ ps,sp p.block=true)->DataW.TrodAll enc P W 0 (fun _=>true) true ts vs ds ps->DataW.TrodAll enc P W' 0 sp true ts vs ds ps
 | [],vs,ds,ps,_,_,_,h=>by
  obtain⟨rfl,rfl,rfl⟩:=trodAll_nil h
  exact trodAll_mk0
 | t :: ts,vs,ds,ps,ht,h1,h2,h=>by
  obtain⟨v,vs',d,ds',p,q,rfl,rfl,rfl,h3,h4⟩:=trodAll_cons h
  refine⟨p,q,WideElems.Trod_stays hl (ht t (by simp)).1 (ht t (by simp)).2 h3 (fun x hx=>hb.same (h1 x (by simp[hx]))) (fun x hx=>h2 x (by simp[hx])),
   stays hl hb ts vs' ds' q (fun t' hm=>ht t' (by simp[hm])) (fun x hx=>h1 x (by simp[hx])) (fun x hx=>h2 x (by simp[hx])) h4,rfl⟩
theorem trod_len:∀ {ts:List TypeId} {vs:List Value} {ds:List (DataW H)} {ps:List MemPlace},DataW.TrodAll enc P w 0 (fun _=>true) true ts vs ds ps->ds.length=ts.length
 | [],_,_,_,h=>by obtain⟨rfl,rfl,rfl⟩:=trodAll_nil h;rfl
 | _ :: _,_,_,_,h=>by
  obtain⟨v,vs',d,ds',p,q,rfl,rfl,rfl,_,h4⟩:=trodAll_cons h
  simp[trod_len h4]
theorem law_calls(hT:TOk P T){B:Nat}(hBm:B<=maxLen){f:FuncId}{fn:Func}{s:ChangeSpec}{ls:List (List Shp)}{n:Nat}{tb:TypeId}{ts:List TypeId}(hp:fn.params.toList=ts)(hr:fn.resultTypes=#[tb])(htb:P.underlying tb=some .bool)
    (hsv:s.vars=[])(hs:∀ (ds:List (DataW H)),ds.length=ts.length->s.fn H ds={ results:=[.lit (.bool true)],args:=ds })
    (hl:laidOutB P=true)(hts:∀ t ∈ ts,P.readableRec t=true/\t<P.types.size)(hsh:shapes T n ts=some ls)
    (hlaw:∀ xs,TyAs T B ts ls xs->FSpec P T f xs (fun d _=>d = .b True))
    (W:World)(base:Nat)(args:Array Value)(ds gs:List (DataW H))(before:List MemPlace)
    (hval:∀ (j:Nat) t v,fn.params[j]? = some t->args[j]? = some v->Value.okWide P W .any base t v)
    (hW:DataW.Whole enc P fn.params.toList s.vars false W args.toList ds gs before)(hB:B=maxLen\/Rows.uptoBulkAll (ds++gs)<=B)
    (hgl:GlOk W:=by exact⟨by intro p v hp;unfold glV glD at hp;split at hp<;>(cases hp),by intro g cs hg;unfold glD at hg;split at hg<;>(cases hg)⟩) :
    Calls P f args W fun e W'=>∃ v,e = .returned v/\s.post enc P fn false true false false W args v W':=by
 have hlt:=hW.lt
 obtain⟨p,q,hA,hV,rfl,hfz,hnd⟩:=id hW
 rw[hsv] at hV
 obtain⟨rfl,rfl⟩:=trodVars_none hV
 simp only[List.append_nil] at hlt hB hfz
 rw[hp] at hA
 obtain⟨xs,h1,h2,h3⟩:=args_ri hT hBm ts ls args.toList ds p hsh hB (fun j t v a b=>hval j t v (by rw[<- hp] at a;simpa using a) (by simpa using b)) hA
 have hdl:ds.length=ts.length:=trod_len hA
 refine ((hlaw xs h1).run (heapV W) W args ⟨hgl,fun _ _ h=>h⟩ (by simpa using h2) (fun j v d a b=>h3 j v d (by simpa using a) b)).mono fun e W' hx=>?_
 obtain⟨V',ω,row,v,d,rfl,hd,hRS,hres⟩:=hx
 subst hd
 obtain⟨b,rfl,hbt⟩:=hRS.bool
 have hbt:b=true:=hbt.2 trivial
 subst hbt
 refine⟨_,rfl,?_⟩
 have hb:=hres.below
 have hargs:∀ sp:Nat->Bool,(∀ x ∈ p,sp x.block=true)->DataW.TrodAll enc P W' 0 sp true fn.params.toList args.toList ds p:=fun sp hsp=>by
  rw[hp];exact stays hl hb ts args.toList ds p hts hlt hsp hA
 have hrs:∀ (b:Nat) (sp:Nat->Bool) (hd:Bool),DataW.TrodAll enc P W' b sp hd fn.resultTypes.toList ((Value.bool true).resultList fn.resultTypes.size) [.lit (.bool true)] []:=fun b sp hd=>by
  rw[hr]
  exact trodAll_mk1 (shut_bool htb _)
 have hsf:=hs ds hdl
 refine⟨ds,[],p,[],p,[],by simpa using hW,?_,?_,?_,?_,?_⟩
 . rw[List.append_nil,hsf];exact hrs _ _ _
 . rw[List.append_nil,hsf];exact hargs _ fun x hx=>by simpa using hlt x hx
 . rw[hsv,List.append_nil,hsf];exact rfl
 . exact World.keptBut_mono (fun x hx=>⟨hx,by simpa using hx⟩) (hb.frame (· ∈ p))
 . intro _
   refine⟨?_,?_⟩
   . exact ok_one hr rfl (okWide_bool_mk htb _)
   . refine⟨_,[],([]++p)++[],⟨[]++p,[],trodAll_append (hargs _ (fun _ _=>rfl)) (hrs 0 _ _),?_,rfl,?_,fun h=>by cases h⟩,fun x hx _=>by simpa using hx⟩
     . rw[hsv];rfl
     . intro b off hx
       have hin:MemPlace.cell b off ∈ p:=by simpa using hx
       rw[hb.frozen (hlt _ hin)]
       exact hfz b off hin
end
end Go.Vx
namespace Go.Vx
open Go.RowKit
theorem ss_cons{B:Nat}{s:Shp}{ss:List Shp}{r:List D}(h:TySs B (s :: ss) r):∃ d ds,r=d :: ds/\TySs B [s] [d]/\TySs B ss ds:=by
 cases r with
 | nil=>simp[TySs] at h
 | cons d ds=>simp only[TySs] at h;exact⟨d,ds,rfl,by simpa only[TySs,and_true] using h.1,h.2⟩
theorem ss_nil{B:Nat}{r:List D}(h:TySs B [] r):r=[]:=by
 cases r with
 | nil=>rfl
 | cons d ds=>simp[TySs] at h
theorem as_cons{T:Tab}{B:Nat}{t:TypeId}{ts:List TypeId}{l:List Shp}{ls:List (List Shp)}{xs:List D}(h:TyAs T B (t :: ts) (l :: ls) xs):∃ x r,xs=x :: r/\TyA T B t l x/\TyAs T B ts ls r:=by
 cases xs with
 | nil=>exact h.elim
 | cons x r=>exact⟨x,r,rfl,h.1,h.2⟩
theorem as_nil{T:Tab}{B:Nat}{xs:List D}(h:TyAs T B [] [] xs):xs=[]:=by
 cases xs with
 | nil=>rfl
 | cons x r=>exact h.elim
def isSt:Option TI->Bool|some ⟨_,_,.struct _,_⟩=>true|_=>false
theorem leaf{T:Tab}{B:Nat}{t:TypeId}{l:List Shp}{x:D}(h:TyA T B t l x)(ht:isSt (T t)=false):TySs B l [x]:=by
 unfold TyA at h
 split at h
 . rename_i h1;rw[h1] at ht;cases ht
 . exact h
theorem agg_of{T:Tab}{B:Nat}{t:TypeId}{l:List Shp}{x:D}(h:TyA T B t l x)(ht:isSt (T t)=true):∃ row,x = .agg row/\TySs B l row:=by
 unfold TyA at h
 split at h
 . exact h
 . rename_i h1
   exfalso
   unfold isSt at ht
   split at ht
   . rename_i h2;exact h1 _ _ _ _ h2
   . cases ht
theorem bool_of{B:Nat}{x:D}(h:TySs B [.bool] [x]):∃ p,x = .b p:=by
 simpa only[TySs,TyS,and_true] using h
theorem list_of{α:Type}{f:α->List D}{p:α->Prop}:∀ {rows:List (List D)},(∀ r ∈ rows,∃ a,r=f a/\p a)->∃ l:List α,rows=l.map f/\∀ a ∈ l,p a
 | [],_=>⟨[],rfl,by simp⟩
 | r :: rows,h=>by
  obtain⟨a,rfl,ha⟩:=h r (by simp)
  obtain⟨l,rfl,hl⟩:=list_of (rows:=rows) fun r hr=>h r (by simp[hr])
  exact⟨a :: l,rfl,by simpa using ⟨ha,hl⟩⟩
theorem lst_of{B:Nat}{α:Type}{f:α->List D}{p:α->Prop}{e:TypeId}{l:List Shp}{x:D}(h:TySs B [.slice e l] [x])(hf:∀ r,TySs B l r->∃ a,r=f a/\p a) :
    ∃ (us:List α) (room:List α),x = .lst e (us.map f) (room.map f)/\us.length+room.length<=B/\(∀ a ∈ us,p a)/\∀ a ∈ room,p a:=by
 simp only[TySs,TyS,and_true] at h
 obtain⟨rows,room,rfl,hl,hr⟩:=h
 obtain⟨us,rfl,h1⟩:=list_of (f:=f) (p:=p) (rows:=rows) fun r h=>hf r (hr r (by simp[h]))
 obtain⟨bs,rfl,h2⟩:=list_of (f:=f) (p:=p) (rows:=room) fun r h=>hf r (hr r (by simp[h]))
 exact⟨us,bs,rfl,by simpa using hl,h1,h2⟩
theorem int_of{B:Nat}{k:IntKind}{x:D}(h:TySs B [.int k] [x]):∃ n,x = .i k n/\(Lit.int k n).wf=true:=by
 simpa only[TySs,TyS,and_true] using h
theorem str_of{B:Nat}{x:D}(h:TySs B [.str] [x]):∃ l,x = .s l/\l.length<=B:=by
 simpa only[TySs,TyS,and_true] using h
theorem wf64{n:Int}(h:(Lit.int .i64 n).wf=true):-9223372036854775808<=n/\n<=9223372036854775807:=by
 simpa[Lit.wf,IntKind.min,IntKind.max,IntKind.signed,IntKind.bits] using h
end Go.Vx
namespace Go.Proofs.YtnlingegeangmaaGreatDoor
open Go
abbrev Str:=List UInt8
def meet1(a b:UInt8):Option UInt8:=if a=120 then some b else if b=120\/b=a then some a else none
def meetL:Str->Str->Option Str
 | [],[]=>some []
 | a :: c,b :: d=>match meet1 a b,meetL c d with
  | some x,some r=>some (x :: r)
  | _,_=>none
 | _,_=>none
def meetT(c d:Str):Option Str:=if c=[] then none else meetL c d
theorem meetL_len:∀ {c d m:Str},meetL c d=some m->c.length=m.length/\d.length=m.length
 | [],[],m,h=>by cases h;exact⟨rfl,rfl⟩
 | [],_ :: _,_,h=>by cases h
 | _ :: _,[],_,h=>by cases h
 | a :: c,b :: d,m,h=>by
  unfold meetL at h
  cases h1:meet1 a b with
  | none=>rw[h1] at h;cases h
  | some x=>cases h2:meetL c d with
   | none=>rw[h1,h2] at h;cases h
   | some r=>
    rw[h1,h2] at h
    cases h
    have:=meetL_len h2
    simp[this.1,this.2]
end Go.Proofs.YtnlingegeangmaaGreatDoor
namespace Go.Proofs.YtnlingegeangmaaGreatDoor
open Go Go.Vx
def wof(f:Nat->Bool)(k:Nat):BitVec 64:=(BitVec.ofBoolListLE ((List.range 64).map fun i=>f (64*k+i))).setWidth 64
theorem wof_get(f:Nat->Bool)(k i:Nat)(h:i<64):(wof f k).getLsbD i=f (64*k+i):=by
 unfold wof
 rw[BitVec.getLsbD_setWidth,BitVec.getLsbD_ofBoolListLE]
 simp[h,List.getD]
theorem wof_ext{f g:Nat->Bool}{k:Nat}(h:∀ i,i<64->f (64*k+i)=g (64*k+i)):wof f k=wof g k:=
 BitVec.eq_of_getLsbD_eq fun i hi=>by rw[wof_get _ _ _ hi,wof_get _ _ _ hi];exact h i hi
theorem bv_id(x:BitVec 64):BitVec.ofInt IntKind.u64.bits (x.toNat:Int)=x:=by
 show BitVec.ofInt 64 (x.toNat:Int)=x
 simp
theorem wrap_id(x:BitVec 64):IntKind.u64.wrap (x.toNat:Int)=(x.toNat:Int):=by
 have:=x.isLt
 simp[IntKind.wrap,IntKind.bits,IntKind.signed]
 omega
section
variable {p : Int → Prop} {x y : BitVec 64}
theorem nAnd(h:p ((x &&& y).toNat:Int)):∃ n,n=IntKind.u64.wrap ((BitVec.ofInt IntKind.u64.bits (x.toNat:Int) &&& BitVec.ofInt IntKind.u64.bits (y.toNat:Int)).toNat:Int)/\p n:=⟨_,rfl,by
 have key:∀ (a b:BitVec 64),a=x->b=y->IntKind.u64.wrap ((a &&& b).toNat:Int)=(((x &&& y):BitVec 64).toNat:Int):=by
  rintro _ _ rfl rfl
  exact wrap_id _
 exact (congrArg p (key _ _ (bv_id x) (bv_id y))).mpr h⟩
theorem nOr(h:p ((x ||| y).toNat:Int)):∃ n,n=IntKind.u64.wrap ((BitVec.ofInt IntKind.u64.bits (x.toNat:Int) ||| BitVec.ofInt IntKind.u64.bits (y.toNat:Int)).toNat:Int)/\p n:=⟨_,rfl,by
 have key:∀ (a b:BitVec 64),a=x->b=y->IntKind.u64.wrap ((a ||| b).toNat:Int)=(((x ||| y):BitVec 64).toNat:Int):=by
  rintro _ _ rfl rfl
  exact wrap_id _
 exact (congrArg p (key _ _ (bv_id x) (bv_id y))).mpr h⟩
theorem nXor(h:p ((x ^^^ y).toNat:Int)):∃ n,n=IntKind.u64.wrap ((BitVec.ofInt IntKind.u64.bits (x.toNat:Int) ^^^ BitVec.ofInt IntKind.u64.bits (y.toNat:Int)).toNat:Int)/\p n:=⟨_,rfl,by
 have key:∀ (a b:BitVec 64),a=x->b=y->IntKind.u64.wrap ((a ^^^ b).toNat:Int)=(((x ^^^ y):BitVec 64).toNat:Int):=by
  rintro _ _ rfl rfl
  exact wrap_id _
 exact (congrArg p (key _ _ (bv_id x) (bv_id y))).mpr h⟩
theorem nAnd1(h:p ((x &&& 1#64).toNat:Int)):∃ n,n=IntKind.u64.wrap ((BitVec.ofInt IntKind.u64.bits (x.toNat:Int) &&& BitVec.ofInt IntKind.u64.bits 1).toNat:Int)/\p n:=by
 have:((1#64:BitVec 64).toNat:Int)=1:=rfl
 have h2:=nAnd (p:=p) (x:=x) (y:=1#64) h
 rwa [this] at h2
theorem nShr{r:Int}{k:Nat}(hr:r=(k:Int)/\k<64)(h:p ((x >>> k).toNat:Int)):∃ n,n=(x.toNat:Int).fdiv (2 ^ (min r.toNat IntKind.u64.bits))/\p n:=by
 refine⟨_,rfl,?_⟩
 obtain⟨rfl,hk⟩:=hr
 have e1:min ((k:Int).toNat) IntKind.u64.bits=k:=by
  show min k 64=k
  omega
 rw[e1]
 have e2:((x.toNat:Int).fdiv (2 ^ k))=((x >>> k).toNat:Int):=by
  rw[BitVec.toNat_ushiftRight,Nat.shiftRight_eq_div_pow,Int.fdiv_eq_ediv_of_nonneg _ (Int.pow_nonneg (by omega))]
  push_cast
  rfl
 rw[e2]
 exact h
theorem nShl1{r:Int}{k:Nat}(hr:r=(k:Int)/\k<64)(h:p ((1#64 <<< k).toNat:Int)):∃ n,n=IntKind.u64.wrap (1*2 ^ (min r.toNat IntKind.u64.bits))/\p n:=by
 refine⟨_,rfl,?_⟩
 obtain⟨rfl,hk⟩:=hr
 have e1:min ((k:Int).toNat) IntKind.u64.bits=k:=by
  show min k 64=k
  omega
 rw[e1]
 have hlt:2 ^ k<2 ^ 64:=Nat.pow_lt_pow_right (by omega) hk
 have e2:(1*2 ^ k:Int)=((1#64 <<< k).toNat:Int):=by
  rw[BitVec.toNat_shiftLeft,Nat.shiftLeft_eq]
  simp only[BitVec.toNat_ofNat]
  rw[show (1 % 2 ^ 64*2 ^ k) % 2 ^ 64=2 ^ k by rw[Nat.mod_eq_of_lt (a:=1) (by decide),Nat.one_mul,Nat.mod_eq_of_lt hlt]]
  push_cast
  omega
 rw[e2,wrap_id]
 exact h
end
theorem nAnd1'{p:Int->Prop}{x:BitVec 64}{c:Int}(hc:c=1)(h:p ((x &&& 1#64).toNat:Int)):∃ n,n=IntKind.u64.wrap ((BitVec.ofInt IntKind.u64.bits (x.toNat:Int) &&& BitVec.ofInt IntKind.u64.bits c).toNat:Int)/\p n:=by
 subst hc;exact nAnd1 h
theorem nShl1'{p:Int->Prop}{r c:Int}{k:Nat}(hc:c=1)(hr:r=(k:Int)/\k<64)(h:p ((1#64 <<< k).toNat:Int)):∃ n,n=IntKind.u64.wrap (c*2 ^ (min r.toNat IntKind.u64.bits))/\p n:=by
 subst hc;exact nShl1 hr h
theorem bit_at(x:BitVec 64)(k:Nat):(((x >>> k) &&& 1#64).toNat:Int)=1 ↔ x.getLsbD k=true:=by
 have h1:((x >>> k) &&& 1#64).toNat=(x.getLsbD k).toNat:=by
  rw[BitVec.toNat_and,BitVec.toNat_ushiftRight]
  simp only[BitVec.toNat_ofNat]
  rw[show 1 % 2 ^ 64=1 from rfl,Nat.and_one_is_mod,BitVec.getLsbD,Nat.testBit]
  simp
  have:=Nat.mod_two_eq_zero_or_one (x.toNat >>> k)
  rcases this with h|h<;>simp[h]
 rw[h1]
 cases x.getLsbD k<;>simp
theorem quo64{i q r:Nat}(h:i=64*q+r)(hr:r<64)(hi:i<1000):(q:Int)=IntKind.i64.wrap ((i:Int).tdiv 64):=by
 subst h
 have e:((64*q+r:Nat):Int).tdiv 64=(q:Int):=by
  rw[Int.tdiv_eq_ediv_of_nonneg (by omega)]
  omega
 rw[e,IntKind.wrap_i64]
 omega
theorem rem64{i q r:Nat}(h:i=64*q+r)(hr:r<64):(r:Int)=((i:Int).tmod 64):=by
 subst h
 rw[Int.tmod_eq_emod_of_nonneg (by omega)]
 omega
theorem word_nz{x:BitVec 64}:((x.toNat:Int) ≠ 0) ↔ ∃ i,i<64/\x.getLsbD i=true:=by
 constructor
 . intro h
   apply Classical.byContradiction
   intro hn
   apply h
   have:x=0#64:=BitVec.eq_of_getLsbD_eq fun i hi=>by
    cases hx:x.getLsbD i
    . simp
    . exact absurd ⟨i,hi,hx⟩ hn
   rw[this]
   rfl
 . rintro⟨i,hi,h⟩ h0
   have:x=0#64:=BitVec.eq_of_toNat_eq (by simpa using h0)
   rw[this] at h
   simp at h
def dig(b:UInt8):Bool:=b == 48 || b == 49
def car(t:Str)(i:Nat):Bool:=match t[i]? with|some b=>dig b|none=>false
def one(t:Str)(i:Nat):Bool:=match t[i]? with|some b=>b == 49|none=>false
@[reducible] def cells9(n:Nat)(c o:Nat->Bool):List D:=[.i .i64 (n:Int),.i .u64 ((wof c 0).toNat:Int),.i .u64 ((wof c 1).toNat:Int),.i .u64 ((wof c 2).toNat:Int),.i .u64 ((wof c 3).toNat:Int),.i .u64 ((wof o 0).toNat:Int),.i .u64 ((wof o 1).toNat:Int),.i .u64 ((wof o 2).toNat:Int),.i .u64 ((wof o 3).toNat:Int)]
@[reducible] def crow(t:Str):List D:=cells9 t.length (car t) (one t)
structure CT(t:Str):Prop where
 len:t.length<=256
 cub:∀ b ∈ t,b=48\/b=49\/b=120
theorem crow_nil:crow []=[.i .i64 0,.i .u64 0,.i .u64 0,.i .u64 0,.i .u64 0,.i .u64 0,.i .u64 0,.i .u64 0,.i .u64 0]:=by
 have h:∀ k,wof (car []) k=0#64:=fun k=>BitVec.eq_of_getLsbD_eq fun i hi=>by rw[wof_get _ _ _ hi];simp[car]
 have h2:∀ k,wof (one []) k=0#64:=fun k=>BitVec.eq_of_getLsbD_eq fun i hi=>by rw[wof_get _ _ _ hi];simp[one]
 simp[h,h2]
theorem car_lt{t:Str}{i:Nat}(h:car t i=true):i<t.length:=by
 unfold car at h
 split at h
 . rename_i b hb;exact (gSm0.1 hb).1
 . cases h
theorem put_word{f g:Nat->Bool}{i q r:Nat}(hi:i=64*q+r)(hr:r<64)(hg:∀ j,g j=(f j || decide (j=i)))(k:Nat):wof g k=if k=q then wof f k ||| 1#64 <<< r else wof f k:=by
 refine BitVec.eq_of_getLsbD_eq fun j hj=>?_
 rw[wof_get _ _ _ hj,hg]
 split
 . rename_i hk
   subst hk
   rw[BitVec.getLsbD_or,wof_get _ _ _ hj,BitVec.getLsbD_shiftLeft,BitVec.getLsbD_one]
   congr 1
   by_cases hjr:j=r
   . subst hjr;simp[hi,hj]
   . have h1:¬ 64*k+j=i:=by omega
     have h2:¬ (j - r=0/\¬ j<r):=by omega
     simp[h1,hj]
     omega
 . rename_i hk
   rw[wof_get _ _ _ hj]
   have h1:¬ 64*k+j=i:=by omega
   simp[h1]
theorem take_get{t:Str}{i:Nat}{b:UInt8}(h:t[i]? = some b)(j:Nat):(t.take (i+1))[j]? = if j=i then some b else (t.take i)[j]?:=by
 rw[List.getElem?_take,List.getElem?_take]
 by_cases hj:j=i
 . subst hj;simp[h]
 . by_cases h2:j<i
   . simp[hj,h2,show j<i+1 by omega]
   . simp[hj,h2,show ¬ j<i+1 by omega]
theorem car_at_end(t:Str)(i:Nat):car (t.take i) i=false:=by
 unfold car
 rw[List.getElem?_take]
 simp
theorem one_at_end(t:Str)(i:Nat):one (t.take i) i=false:=by
 unfold one
 rw[List.getElem?_take]
 simp
theorem car_put{t:Str}{i:Nat}{b:UInt8}(h:t[i]? = some b)(hd:dig b=true)(j:Nat):car (t.take (i+1)) j=(car (t.take i) j || decide (j=i)):=by
 by_cases hj:j=i
 . subst hj
   rw[car_at_end]
   unfold car
   rw[take_get h]
   simp[hd]
 . unfold car
   rw[take_get h]
   simp[hj]
theorem one_put{t:Str}{i:Nat}(h:t[i]? = some 49)(j:Nat):one (t.take (i+1)) j=(one (t.take i) j || decide (j=i)):=by
 by_cases hj:j=i
 . subst hj
   rw[one_at_end]
   unfold one
   rw[take_get h]
   simp
 . unfold one
   rw[take_get h]
   simp[hj]
theorem car_same{t:Str}{i:Nat}{b:UInt8}(h:t[i]? = some b)(hd:dig b=false)(k:Nat):wof (car (t.take (i+1))) k=wof (car (t.take i)) k:=by
 refine wof_ext fun j _=>?_
 generalize 64*k+j=m
 by_cases hj:m=i
 . subst hj
   rw[car_at_end]
   unfold car
   rw[take_get h]
   simp[hd]
 . unfold car
   rw[take_get h]
   simp[hj]
theorem one_same{t:Str}{i:Nat}{b:UInt8}(h:t[i]? = some b)(hd:b ≠ 49)(k:Nat):wof (one (t.take (i+1))) k=wof (one (t.take i)) k:=by
 refine wof_ext fun j _=>?_
 generalize 64*k+j=m
 by_cases hj:m=i
 . subst hj
   rw[one_at_end]
   unfold one
   rw[take_get h]
   simp[hd]
 . unfold one
   rw[take_get h]
   simp[hj]
theorem at_word{f:Nat->Bool}{i q r:Nat}(hi:i=64*q+r)(hr:r<64):((((wof f q) >>> r) &&& 1#64).toNat:Int)=1 ↔ f i=true:=by
 rw[bit_at,wof_get _ _ _ hr,hi]
theorem split64(i:Nat)(h:i<256):∃ q r,i=64*q+r/\r<64/\(q=0\/q=1\/q=2\/q=3):=⟨i / 64,i % 64,by omega,by omega,by omega⟩
end Go.Proofs.YtnlingegeangmaaGreatDoor
namespace Go.Vx
open Go.RowKit Go.Proofs Go.Sort
theorem sorted_row{w:World}{base g m N cap k q:Nat}{e:TypeId}{vals:List Value}{α:Type}[Inhabited α]{enc:α->List Value}{d:Array α}{os:Array Obj}(hown:w.ownsRow base e k (.slice (some ⟨g,0,none⟩) N cap) N vals)(hm:m<=N)(hd:d.size=m) :
    w.grownBy (grow (putRowK enc k (Sort.ahead w q) g 0 d) os) (some g)/\(grow (putRowK enc k (Sort.ahead w q) g 0 d) os).ownsRow base e k (.slice (some ⟨g,0,none⟩) N cap) N ((flatK enc k d).toList++vals.drop (m*k)):=by
 obtain⟨hl,hown⟩:=hown
 rcases hown with⟨h,_⟩|⟨g',cap',cur,h,hb,hg,hn,hc,hs,ht⟩
 . cases h
 cases h
 have hgl:g<w.heap.size:=(Array.getElem?_eq_some_iff.1 hg).1
 have hfl:(flatK enc k d).size=m*k:=by rw[size_flatK,hd]
 have hmk:m*k<=N*k:=Nat.mul_le_mul_right _ hm
 have hNk:N*k<=cap*k:=Nat.mul_le_mul_right _ hn
 have hheap:(grow (putRowK enc k (Sort.ahead w q) g 0 d) os).heap[g]? = some (.cells (putCells id 0 (flatK enc k d) cur) e (0,0)):=by
  show ((w.heap.modify g (onCells _))++os)[g]? = _
  rw[Array.getElem?_append_left (by simpa using hgl),Array.getElem?_modify,if_pos rfl,hg]
  rfl
 refine⟨⟨rfl,rfl,rfl,?_,fun j hj hne=>?_⟩,?_,.inr ⟨g,cap,_,rfl,hb,hheap,hn,hc,?_,?_⟩⟩
 . show w.heap.size<=((w.heap.modify g (onCells _))++os).size
   simp
 . show ((w.heap.modify g (onCells _))++os)[j]? = _
   rw[Array.getElem?_append_left (by simpa using hj),Array.getElem?_modify,if_neg (fun e=>hne (by rw[e]))]
 . rw[List.length_append,Array.length_toList,hfl,List.length_drop,hl];omega
 . simp[putCells,hs]
 . apply List.ext_getElem?
   intro j
   rw[List.getElem?_take]
   by_cases hj:j<N*k
   . rw[if_pos hj]
     have hjc:j<cur.size:=by rw[hs];omega
     simp only[putCells,Array.getElem?_toList,Array.getElem?_mapIdx,Array.getElem?_eq_getElem hjc,Option.map_some,Nat.zero_le,true_and,Nat.zero_add,Nat.sub_zero,hfl]
     by_cases hjm:j<m*k
     . rw[if_pos hjm,List.getElem?_append_left (by rw[Array.length_toList,hfl];exact hjm),Array.getElem?_toList]
       have hjf:j<(flatK enc k d).size:=by rw[hfl];exact hjm
       rw[Array.getElem?_eq_getElem hjf]
       exact congrArg some (getElem!_pos (flatK enc k d) j hjf)
     . rw[if_neg hjm,List.getElem?_append_right (by rw[Array.length_toList,hfl];omega),Array.length_toList,hfl,List.getElem?_drop,show m*k+(j - m*k)=j by omega,<- ht,List.getElem?_take_of_lt hj,Array.getElem?_toList,Array.getElem?_eq_getElem hjc]
   . rw[if_neg hj,List.getElem?_eq_none]
     rw[List.length_append,Array.length_toList,hfl,List.length_drop,hl];omega
theorem put_same{a:Act}{t:Nat}{v:Value}(h:t<a.tmps.size):(a.put (some t) v).eval (.tmp t)=v:=by
 simp[Act.put,Act.eval,Array.getD,h]
theorem put_other{a:Act}{t t':Nat}{v:Value}(h:t ≠ t'):(a.put (some t) v).eval (.tmp t')=a.eval (.tmp t'):=by
 show (a.tmps.setIfInBounds t v).getD t' undef=a.tmps.getD t' undef
 rw[Array.getD_eq_getD_getElem?,Array.getD_eq_getD_getElem?,Array.getElem?_setIfInBounds_ne h]
theorem put_size{a:Act}{t:Nat}{v:Value}:(a.put (some t) v).tmps.size=a.tmps.size:=by simp[Act.put]
end Go.Vx
namespace Go.Proofs.YtnlingegeangmaaGreatDoor
open Go Go.Vx
def okC(t:Str):Prop:=CT t/\t ≠ []
open Classical in
noncomputable def zer(t:Str):Str:=if okC t then t else []
open Classical in
noncomputable def perr(t:Str):Int:=if 256<t.length then 2 else if okC t then 0 else 10
theorem zer_of{t:Str}(h:okC t):zer t=t:=by unfold zer;rw[if_pos h]
theorem zer_not{t:Str}(h:¬ okC t):zer t=[]:=by unfold zer;rw[if_neg h]
@[simp] theorem wof_car_nil(k:Nat):wof (car []) k=0#64:=BitVec.eq_of_getLsbD_eq fun i hi=>by rw[wof_get _ _ _ hi];simp[car]
@[simp] theorem wof_one_nil(k:Nat):wof (one []) k=0#64:=BitVec.eq_of_getLsbD_eq fun i hi=>by rw[wof_get _ _ _ hi];simp[one]
def cubOk(t:Str):Prop:=∀ b ∈ t,b=48\/b=49\/b=120
theorem cubOk_step{t:Str}{i:Nat}{b:UInt8}(h:cubOk (t.take i))(hb:t[i]? = some b)(hd:b=48\/b=49\/b=120):cubOk (t.take (i+1)):=by
 intro x hx
 rw[List.take_add_one,hb] at hx
 rcases mAp0.1 hx with hx|hx
 . exact h x hx
 . simp at hx;rw[hx];exact hd
theorem u8_ne{b c:UInt8}(h:b ≠ c):¬ ((b.toNat:Nat):Int)=((c.toNat:Nat):Int):=fun e=>h (UInt8.toNat_inj.1 (by omega))
theorem parse_at(t:Str):FSpec Tryz.prog T 266 [.s t] (fun d rows=>d = .tup [.agg (crow (zer t)),.i .i64 (perr t)]/\rows=[]):=by
 refine FSpec.of_ok tok Tryz.func266 rfl Tryz.call266 (by simp) ?_
 (try (conv=>whnf));repeat' (first|refine Ok.seq ?_|((first|refine Ok.region tok ?_|refine Ok.cond ?_);conv=>whnf)|refine Ok.block ?_|((first|refine Ok.skip ?_|refine Ok.ret ?_);conv=>whnf)|(refine bI ?_ ?_<;>intro<;>(conv=>whnf)<;>(try (exfalso;omega)))|fail)
 . rename_i h
   refine Or.inl ?_;(conv=>whnf)
   refine⟨?_,rfl⟩
   rw[zer_not (fun h2=>by have:=h2.1.len;omega),crow_nil]
   unfold perr
   rw[if_pos (by omega)]
   rfl
 . rename_i h0 h
   refine Or.inl ?_;(conv=>whnf)
   refine⟨?_,rfl⟩
   rw[zer_not (fun h2=>h2.2 h),crow_nil]
   unfold perr
   rw[if_neg (by omega),if_neg (fun h2=>h2.2 h)]
   rfl
 . rename_i h0 h1
   have hlen:t.length<=256:=by omega
   have hne:t ≠ []:=h1
   refine Ok.loopU [0,2,4,17] [18] 0 2 (fun (i:Nat)=>[.i .i64 (i:Nat)]) (fun (i:Nat) (_:List (List D))=>[[.i .i64 0,.i .u64 0,.i .u64 0,.i .u64 0,.i .u64 0,.i .u64 0,.i .u64 0,.i .u64 0,.i .u64 0],cells9 t.length (car (t.take i)) (one (t.take i))]) (fun _ r=>r) (fun (i:Nat)=>i<=t.length/\cubOk (t.take i)) (fun (i:Nat)=>t.length - i) (0) (⟨Nat.zero_le _,by simp[cubOk]⟩) ?_;(conv=>whnf);refine⟨by ((conv=>whnf);first|rfl|(simp[envCat,tkL0,cells9];done)|(simp[envCat,tkL0,cells9];rw[IntKind.wrap_i64];omega)),?_⟩
   rintro i ⟨hi,hok⟩
   (conv=>whnf)
   by_cases hit:i<t.length
   . obtain⟨b,hb⟩:∃ b,t[i]? = some b:=⟨_,gEt0 hit⟩
     have hbI:t[((i:Nat):Int).toNat]? = some b:=hb
     obtain⟨q,r,hqr,hr,hq⟩:=split64 i (by omega)
     have hrem:=rem64 hqr hr
     have hquo:=quo64 hqr hr (by omega)
     have hrr:((r:Nat):Int)=((r:Nat):Int)/\r<64:=⟨rfl,hr⟩
     by_cases h49:b=49
     . subst h49
       have hn:(((49:UInt8).toNat:Nat):Int)=49:=rfl
       rcases hq with rfl|rfl|rfl|rfl
       all_goals
        (try (conv=>whnf));repeat' (first|refine Ok.seq ?_|((first|refine Ok.region tok ?_|refine Ok.cond ?_);conv=>whnf)|refine Ok.block ?_|((first|refine Ok.skip ?_|refine⟨_,by assumption,?_⟩);conv=>whnf)|(refine bI ?_ ?_<;>intro<;>(conv=>whnf)<;>(try (exfalso;omega)))|(refine aJ ?_;conv=>whnf)|fail)
        refine Or.inr (Or.inr (Or.inl ?_));(conv=>whnf);refine⟨_,_,Tryz.func280,rfl,Tryz.call280,?_⟩;(conv=>whnf)
        (try (conv=>whnf));repeat' (first|((first|(with_reducible_and_instances (first|refine nShl1' rfl (by assumption) ?_|refine nOr ?_))|refine Ok.region tok ?_|refine Ok.region_plan (id:=0) tok follows [(5,12,[])] [.q 0,.q 1,.q 2,.q 3,.q 4,.q 5,.q 6,.q 7,.q 8,.q 9,.q 10,.q 11,.l 12] (by kernel_rfl) ?_|refine⟨_,(hquo.symm).symm,?_⟩|refine⟨_,(hrem.symm).symm,?_⟩|refine aJ ?_|refine⟨_,rfl,?_⟩);conv=>whnf)|fail)
        refine Or.inr (Or.inr (Or.inl ?_));(conv=>whnf);refine⟨_,_,Tryz.func280,rfl,Tryz.call280,?_⟩;(conv=>whnf)
        (try (conv=>whnf));repeat' (first|((first|(with_reducible_and_instances (first|refine nShl1' rfl (by assumption) ?_|refine nOr ?_))|refine Ok.region tok ?_|refine Ok.region_plan (id:=0) tok follows [(5,12,[])] [.q 0,.q 1,.q 2,.q 3,.q 4,.q 5,.q 6,.q 7,.q 8,.q 9,.q 10,.q 11,.l 12] (by kernel_rfl) ?_|refine⟨_,(hquo.symm).symm,?_⟩|refine⟨_,(hrem.symm).symm,?_⟩|refine nI ?_|refine aJ ?_|refine⟨_,rfl,?_⟩);conv=>whnf)|fail)
        refine⟨i+1,by omega,⟨by omega,cubOk_step hok hb (by simp)⟩,?_⟩
        have c0:=(put_word (f:=car (t.take i)) (g:=car (t.take (i+1))) hqr hr (car_put hb rfl) 0).trans (by first|exact if_pos rfl|exact if_neg (by decide))
        have c1:=(put_word (f:=car (t.take i)) (g:=car (t.take (i+1))) hqr hr (car_put hb rfl) 1).trans (by first|exact if_pos rfl|exact if_neg (by decide))
        have c2:=(put_word (f:=car (t.take i)) (g:=car (t.take (i+1))) hqr hr (car_put hb rfl) 2).trans (by first|exact if_pos rfl|exact if_neg (by decide))
        have c3:=(put_word (f:=car (t.take i)) (g:=car (t.take (i+1))) hqr hr (car_put hb rfl) 3).trans (by first|exact if_pos rfl|exact if_neg (by decide))
        have o0:=(put_word (f:=one (t.take i)) (g:=one (t.take (i+1))) hqr hr (one_put hb) 0).trans (by first|exact if_pos rfl|exact if_neg (by decide))
        have o1:=(put_word (f:=one (t.take i)) (g:=one (t.take (i+1))) hqr hr (one_put hb) 1).trans (by first|exact if_pos rfl|exact if_neg (by decide))
        have o2:=(put_word (f:=one (t.take i)) (g:=one (t.take (i+1))) hqr hr (one_put hb) 2).trans (by first|exact if_pos rfl|exact if_neg (by decide))
        have o3:=(put_word (f:=one (t.take i)) (g:=one (t.take (i+1))) hqr hr (one_put hb) 3).trans (by first|exact if_pos rfl|exact if_neg (by decide))
        (conv=>whnf)
        simp only[envCat,cells9,c0,c1,c2,c3,o0,o1,o2,o3]
        rfl
     by_cases h48:b=48
     . subst h48
       have hn:(((48:UInt8).toNat:Nat):Int)=48:=rfl
       rcases hq with rfl|rfl|rfl|rfl
       all_goals
        (try (conv=>whnf));repeat' (first|refine Ok.seq ?_|((first|refine Ok.region tok ?_|refine Ok.cond ?_);conv=>whnf)|refine Ok.block ?_|((first|refine Ok.skip ?_|refine⟨_,by assumption,?_⟩);conv=>whnf)|(refine bI ?_ ?_<;>intro<;>(conv=>whnf)<;>(try (exfalso;omega)))|(refine aJ ?_;conv=>whnf)|fail)
        refine Or.inr (Or.inr (Or.inl ?_));(conv=>whnf);refine⟨_,_,Tryz.func280,rfl,Tryz.call280,?_⟩;(conv=>whnf)
        (try (conv=>whnf));repeat' (first|((first|(with_reducible_and_instances (first|refine nShl1' rfl (by assumption) ?_|refine nOr ?_))|refine Ok.region tok ?_|refine Ok.region_plan (id:=0) tok follows [(5,12,[])] [.q 0,.q 1,.q 2,.q 3,.q 4,.q 5,.q 6,.q 7,.q 8,.q 9,.q 10,.q 11,.l 12] (by kernel_rfl) ?_|refine⟨_,(hquo.symm).symm,?_⟩|refine⟨_,(hrem.symm).symm,?_⟩|refine nI ?_|refine aJ ?_|refine⟨_,rfl,?_⟩);conv=>whnf)|fail)
        refine⟨i+1,by omega,⟨by omega,cubOk_step hok hb (by simp)⟩,?_⟩
        have c0:=(put_word (f:=car (t.take i)) (g:=car (t.take (i+1))) hqr hr (car_put hb rfl) 0).trans (by first|exact if_pos rfl|exact if_neg (by decide))
        have c1:=(put_word (f:=car (t.take i)) (g:=car (t.take (i+1))) hqr hr (car_put hb rfl) 1).trans (by first|exact if_pos rfl|exact if_neg (by decide))
        have c2:=(put_word (f:=car (t.take i)) (g:=car (t.take (i+1))) hqr hr (car_put hb rfl) 2).trans (by first|exact if_pos rfl|exact if_neg (by decide))
        have c3:=(put_word (f:=car (t.take i)) (g:=car (t.take (i+1))) hqr hr (car_put hb rfl) 3).trans (by first|exact if_pos rfl|exact if_neg (by decide))
        have o0:=one_same hb (by decide) 0
        have o1:=one_same hb (by decide) 1
        have o2:=one_same hb (by decide) 2
        have o3:=one_same hb (by decide) 3
        (conv=>whnf)
        simp only[envCat,cells9,c0,c1,c2,c3,o0,o1,o2,o3]
        rfl
     have hn49:=u8_ne h49
     have hn48:=u8_ne h48
     have e49:(((49:UInt8).toNat:Nat):Int)=49:=rfl
     have e48:(((48:UInt8).toNat:Nat):Int)=48:=rfl
     rw[e49] at hn49
     rw[e48] at hn48
     by_cases h120:b=120
     . subst h120
       have hn:(((120:UInt8).toNat:Nat):Int)=120:=rfl
       (try (conv=>whnf));repeat' (first|refine Ok.seq ?_|((first|refine Ok.region tok ?_|refine Ok.cond ?_);conv=>whnf)|refine Ok.block ?_|((first|refine Ok.skip ?_|refine nI ?_|refine⟨_,by assumption,?_⟩);conv=>whnf)|(refine bI ?_ ?_<;>intro<;>(conv=>whnf)<;>(try (exfalso;omega)))|(refine aJ ?_;conv=>whnf)|fail)
       refine⟨i+1,by omega,⟨by omega,cubOk_step hok hb (by simp)⟩,?_⟩
       have c0:=car_same hb rfl 0
       have c1:=car_same hb rfl 1
       have c2:=car_same hb rfl 2
       have c3:=car_same hb rfl 3
       have o0:=one_same hb (by decide) 0
       have o1:=one_same hb (by decide) 1
       have o2:=one_same hb (by decide) 2
       have o3:=one_same hb (by decide) 3
       (conv=>whnf)
       simp only[envCat,cells9,c0,c1,c2,c3,o0,o1,o2,o3]
       rfl
     . have hn120:=u8_ne h120
       have e120:(((120:UInt8).toNat:Nat):Int)=120:=rfl
       rw[e120] at hn120
       (try (conv=>whnf));repeat' (first|refine Ok.seq ?_|((first|refine Ok.region tok ?_|refine Ok.cond ?_);conv=>whnf)|refine Ok.block ?_|((first|refine Ok.skip ?_|refine Ok.ret ?_|refine⟨_,by assumption,?_⟩);conv=>whnf)|(refine bI ?_ ?_<;>intro<;>(conv=>whnf)<;>(try (exfalso;omega)))|((first|refine aJ ?_|refine num_any ?_);conv=>whnf)|fail)
       refine Or.inl ?_;(conv=>whnf)
       refine⟨?_,rfl⟩
       have hno:¬ okC t:=fun h2=>by
        rcases h2.1.cub b (mOf0 hb) with e|e|e
        . exact h48 e
        . exact h49 e
        . exact h120 e
       rw[zer_not hno,crow_nil]
       unfold perr
       rw[if_neg (by omega),if_neg hno]
       rfl
   . have he:i=t.length:=by omega
     subst he
     rw[List.take_length] at *
     (try (conv=>whnf));repeat' (first|refine Ok.seq ?_|((first|refine Ok.region tok ?_|refine Ok.cond ?_|refine Ok.exit ?_|refine Ok.ret ?_);conv=>whnf)|(refine bI ?_ ?_<;>intro<;>(conv=>whnf)<;>(try (exfalso;omega)))|fail)
     refine Or.inl ?_;(conv=>whnf)
     refine⟨?_,rfl⟩
     have hyes:okC t:=⟨⟨hlen,hok⟩,hne⟩
     rw[zer_of hyes]
     unfold perr
     rw[if_neg (by omega),if_pos hyes]
     rfl
end Go.Proofs.YtnlingegeangmaaGreatDoor
namespace Go.Proofs.YtnlingegeangmaaGreatDoor
open Go Go.Vx
theorem meetL_get:∀ {c d m:Str},meetL c d=some m->∀ (i:Nat) a b,c[i]? = some a->d[i]? = some b->∃ x,m[i]? = some x/\meet1 a b=some x
 | [],[],_,_,i,a,b,ha,_=>by simp at ha
 | [],_ :: _,_,h,_,_,_,_,_=>by cases h
 | _ :: _,[],_,h,_,_,_,_,_=>by cases h
 | a0 :: c,b0 :: d,m,h,i,a,b,ha,hb=>by
  unfold meetL at h
  cases h1:meet1 a0 b0 with
  | none=>rw[h1] at h;cases h
  | some x=>cases h2:meetL c d with
   | none=>rw[h1,h2] at h;cases h
   | some r=>
    rw[h1,h2] at h
    cases h
    cases i with
    | zero=>simp at ha hb;subst ha hb;exact⟨x,rfl,h1⟩
    | succ i=>exact meetL_get h2 i a b (by simpa using ha) (by simpa using hb)
theorem meetL_ex:∀ {c d:Str},c.length=d.length->(∀ (i:Nat) a b,c[i]? = some a->d[i]? = some b->meet1 a b ≠ none)->∃ m,meetL c d=some m
 | [],[],_,_=>⟨[],rfl⟩
 | [],_ :: _,h,_=>by simp at h
 | _ :: _,[],h,_=>by simp at h
 | a :: c,b :: d,h,hh=>by
  obtain⟨m,hm⟩:=meetL_ex (c:=c) (d:=d) (by simpa using h) fun i a b ha hb=>hh (i+1) a b (by simpa using ha) (by simpa using hb)
  have:=hh 0 a b rfl rfl
  cases h1:meet1 a b with
  | none=>exact absurd h1 this
  | some x=>exact⟨x :: m,by unfold meetL;rw[h1,hm]⟩
theorem meetL_ct:∀ {c d m:Str},meetL c d=some m->(∀ b ∈ c,b=48\/b=49\/b=120)->(∀ b ∈ d,b=48\/b=49\/b=120)->∀ b ∈ m,b=48\/b=49\/b=120
 | [],[],m,h,_,_=>by cases h;simp
 | [],_ :: _,_,h,_,_=>by cases h
 | _ :: _,[],_,h,_,_=>by cases h
 | a0 :: c,b0 :: d,m,h,hc,hd=>by
  unfold meetL at h
  cases h1:meet1 a0 b0 with
  | none=>rw[h1] at h;cases h
  | some x=>cases h2:meetL c d with
   | none=>rw[h1,h2] at h;cases h
   | some r=>
    rw[h1,h2] at h
    cases h
    intro b hb
    rcases List.mem_cons.1 hb with rfl|hb
    . unfold meet1 at h1
      split at h1
      . cases h1;exact hd _ (by simp)
      . split at h1
        . cases h1;exact hc _ (by simp)
        . cases h1
    . exact meetL_ct h2 (fun b hb=>hc b (by simp[hb])) (fun b hb=>hd b (by simp[hb])) b hb
theorem meetT_ct{c d m:Str}(h:meetT c d=some m)(hc:CT c)(hd:CT d):CT m/\m.length=c.length/\c ≠ []:=by
 unfold meetT at h
 split at h
 . cases h
 . rename_i hne
   have hl:=meetL_len h
   exact⟨⟨by rw[<- hl.1];exact hc.len,meetL_ct h hc.cub hd.cub⟩,hl.1.symm,hne⟩
theorem meetT_eq{c d:Str}(h:c ≠ []):meetT c d=meetL c d:=by unfold meetT;rw[if_neg h]
def cfl(c d:Str)(i:Nat):Bool:=(xor (one c i) (one d i) && car c i) && car d i
theorem word_cfl(c d:Str)(k:Nat):(((wof (one c) k ^^^ wof (one d) k) &&& wof (car c) k) &&& wof (car d) k)=wof (cfl c d) k:=by
 refine BitVec.eq_of_getLsbD_eq fun i hi=>?_
 rw[BitVec.getLsbD_and,BitVec.getLsbD_and,BitVec.getLsbD_xor,wof_get _ _ _ hi,wof_get _ _ _ hi,wof_get _ _ _ hi,wof_get _ _ _ hi,wof_get _ _ _ hi]
 rfl
theorem at_b{t:Str}{i:Nat}{b:UInt8}(h:t[i]? = some b):car t i=dig b/\one t i=(b == 49):=by
 unfold car one
 rw[h]
 exact⟨rfl,rfl⟩
theorem at_out{t:Str}{i:Nat}(h:t.length<=i):car t i=false/\one t i=false:=by
 unfold car one
 rw[List.getElem?_eq_none h]
 exact⟨rfl,rfl⟩
theorem meet1_cfl{a b:UInt8}(ha:a=48\/a=49\/a=120)(hb:b=48\/b=49\/b=120):meet1 a b=none ↔ ((xor (a == 49) (b == 49) && dig a) && dig b)=true:=by
 rcases ha with rfl|rfl|rfl<;>rcases hb with rfl|rfl|rfl<;>simp[meet1,dig]
theorem meet1_bits{a b x:UInt8}(ha:a=48\/a=49\/a=120)(hb:b=48\/b=49\/b=120)(h:meet1 a b=some x):dig x=(dig a || dig b)/\(x == 49)=((a == 49) || (b == 49)):=by
 rcases ha with rfl|rfl|rfl<;>rcases hb with rfl|rfl|rfl<;>simp[meet1] at h<;>subst h<;>simp[dig]
theorem cfl_none{c d:Str}(hc:CT c)(hd:CT d){i:Nat}(h:cfl c d i=true):meetT c d=none:=by
 unfold meetT
 split
 . rfl
 . cases hm:meetL c d with
   | none=>rfl
   | some m=>
    exfalso
    unfold cfl at h
    simp only[Bool.and_eq_true] at h
    have h1:=car_lt h.1.2
    have h2:=car_lt h.2
    have e1:=gEt0 h1
    have e2:=gEt0 h2
    obtain⟨x,_,hx⟩:=meetL_get hm i _ _ e1 e2
    have:=(meet1_cfl (hc.cub _ (List.getElem_mem h1)) (hd.cub _ (List.getElem_mem h2))).2 (by
     rw[(at_b e1).2,(at_b e2).2,(at_b e1).1,(at_b e2).1] at h
     simp[h.1.1,h.1.2,h.2])
    rw[this] at hx
    cases hx
theorem cfl_some{c d:Str}(hc:CT c)(hd:CT d)(hl:c.length=d.length)(hne:c ≠ [])(h:∀ i,cfl c d i=false):∃ m,meetT c d=some m/\(∀ i,car m i=(car c i || car d i))/\∀ i,one m i=(one c i || one d i):=by
 obtain⟨m,hm⟩:=meetL_ex hl fun i a b ha hb hn=>by
  have h1:=(meet1_cfl (hc.cub _ (mOf0 ha)) (hd.cub _ (mOf0 hb))).1 hn
  have h2:=h i
  unfold cfl at h2
  rw[(at_b ha).2,(at_b hb).2,(at_b ha).1,(at_b hb).1,h1] at h2
  cases h2
 have key:∀ i,car m i=(car c i || car d i)/\one m i=(one c i || one d i):=fun i=>by
  have hlm:=meetL_len hm
  by_cases hi:i<c.length
  . have e1:=gEt0 hi
    have e2:=gEt0 (show i<d.length by omega)
    obtain⟨x,hx,hxx⟩:=meetL_get hm i _ _ e1 e2
    have:=meet1_bits (hc.cub _ (List.getElem_mem hi)) (hd.cub _ (List.getElem_mem (show i<d.length by omega))) hxx
    rw[(at_b e1).1,(at_b e2).1,(at_b e1).2,(at_b e2).2,(at_b hx).1,(at_b hx).2]
    exact this
  . have h1:=at_out (t:=c) (i:=i) (by omega)
    have h2:=at_out (t:=d) (i:=i) (by omega)
    have h3:=at_out (t:=m) (i:=i) (by omega)
    rw[h1.1,h1.2,h2.1,h2.2,h3.1,h3.2]
    exact⟨rfl,rfl⟩
 exact⟨m,by rw[meetT_eq hne,hm],fun i=>(key i).1,fun i=>(key i).2⟩
theorem wof_or{f g h:Nat->Bool}(e:∀ i,h i=(f i || g i))(k:Nat):wof h k=wof f k ||| wof g k:=by
 refine BitVec.eq_of_getLsbD_eq fun i hi=>?_
 rw[BitVec.getLsbD_or,wof_get _ _ _ hi,wof_get _ _ _ hi,wof_get _ _ _ hi,e]
theorem wof_zero{f:Nat->Bool}{k:Nat}(h:((wof f k).toNat:Int)=0)(i:Nat)(hi:i<64):f (64*k+i)=false:=by
 rw[<- wof_get f k i hi]
 cases hb:(wof f k).getLsbD i
 . rfl
 . exact absurd h (word_nz.2 ⟨i,hi,hb⟩)
theorem wof_nz{f:Nat->Bool}{k:Nat}(h:¬ ((wof f k).toNat:Int)=0):∃ i,f i=true:=by
 obtain⟨i,hi,hb⟩:=word_nz.1 h
 exact⟨_,by rw[wof_get _ _ _ hi] at hb;exact hb⟩
theorem no_cfl{c d:Str}(hc:CT c)(h:∀ k,k<4->((wof (cfl c d) k).toNat:Int)=0)(i:Nat):cfl c d i=false:=by
 by_cases hi:i<256
 . obtain⟨q,r,rfl,hr,hq⟩:=split64 i hi
   exact wof_zero (h q (by omega)) r hr
 . unfold cfl
   have:=(at_out (t:=c) (i:=i) (by have:=hc.len;omega)).1
   rw[this]
   simp
def mw(w:Nat)(f g:Nat->Bool)(k:Nat):BitVec 64:=if k<w then wof f k ||| wof g k else wof f k
@[reducible] def mcells(n w:Nat)(c d:Str):List D:=[.i .i64 (n:Int),.i .u64 ((mw w (car c) (car d) 0).toNat:Int),.i .u64 ((mw w (car c) (car d) 1).toNat:Int),.i .u64 ((mw w (car c) (car d) 2).toNat:Int),.i .u64 ((mw w (car c) (car d) 3).toNat:Int),.i .u64 ((mw w (one c) (one d) 0).toNat:Int),.i .u64 ((mw w (one c) (one d) 1).toNat:Int),.i .u64 ((mw w (one c) (one d) 2).toNat:Int),.i .u64 ((mw w (one c) (one d) 3).toNat:Int)]
theorem mcells_end{c d m:Str}(hl:m.length=c.length)(h1:∀ i,car m i=(car c i || car d i))(h2:∀ i,one m i=(one c i || one d i)):mcells c.length 4 c d=crow m:=by
 simp only[mcells,crow,cells9,mw,wof_or h1,wof_or h2,hl]
 rfl
end Go.Proofs.YtnlingegeangmaaGreatDoor
namespace Go.Proofs.YtnlingegeangmaaGreatDoor
open Go Go.Vx
theorem fits_at(c d:Str):FSpec Tryz.prog T 287 [.agg (crow c),.agg (crow d)] (fun r _=>r = .b (c.length=d.length/\0<c.length)):=by
 refine FSpec.of_ok tok Tryz.func287 rfl Tryz.call287 (by simp) ?_
 (try (conv=>whnf));repeat' (first|refine Ok.seq ?_|((first|refine Ok.region tok ?_|refine Ok.ret ?_);conv=>whnf)|(refine bI ?_ ?_<;>intro<;>(conv=>whnf)<;>(try (exfalso;omega)))|fail)
 all_goals
  refine Or.inl ?_;(conv=>whnf)
  simp[oneD]
  omega
theorem mt_none{c d:Str}(h:meetT c d=none):(D.tup [.agg [.i .i64 0,.i .u64 0,.i .u64 0,.i .u64 0,.i .u64 0,.i .u64 0,.i .u64 0,.i .u64 0,.i .u64 0],.b False]) = .tup [.agg (crow ((meetT c d).getD [])),.b ((meetT c d).isSome=true)]:=by
 rw[h]
 simp[crow_nil]
theorem meet_at(c d:Str)(hc:CT c)(hd:CT d):FSpec Tryz.prog T 281 [.agg (crow c),.agg (crow d)] (fun r rows=>r = .tup [.agg (crow ((meetT c d).getD [])),.b ((meetT c d).isSome=true)]/\rows=[]):=by
 refine FSpec.of_ok tok Tryz.func281 rfl Tryz.call281 (by simp) ?_
 (try (conv=>whnf));repeat' (first|refine Ok.seq ?_|((first|refine Ok.region tok ?_|refine Ok.cond ?_);conv=>whnf)|refine Ok.block ?_|((first|refine Ok.skip ?_|refine Ok.ret ?_);conv=>whnf)|(refine Or.inl ?_;(conv=>whnf);(repeat (refine aI ?_;conv=>whnf));refine⟨_,fits_at c d,rfl,?_⟩;conv=>whnf)|(refine bI ?_ ?_<;>intro<;>(conv=>whnf)<;>(try (exfalso;omega)))|fail)
 . rename_i h
   refine Or.inl ?_;(conv=>whnf)
   refine⟨mt_none ?_,rfl⟩
   unfold meetT
   split
   . rfl
   . rename_i hne
     cases hm:meetL c d with
     | none=>rfl
     | some m=>exact absurd ⟨by have:=meetL_len hm;omega,List.length_pos_iff.2 hne⟩ h
 . rename_i h
   have hfit:c.length=d.length/\0<c.length:=Classical.not_not.1 h
   have hne:c ≠ []:=List.length_pos_iff.1 hfit.2
   refine Ok.loopU [2,3,4] [12] 0 3 (fun (w:Nat)=>[.i .i64 (w:Nat)]) (fun (w:Nat) (_:List (List D))=>[mcells c.length w c d,crow d,[.i .i64 0,.i .u64 0,.i .u64 0,.i .u64 0,.i .u64 0,.i .u64 0,.i .u64 0,.i .u64 0,.i .u64 0]]) (fun _ r=>r) (fun (w:Nat)=>w<=4/\∀ k,k<w->((wof (cfl c d) k).toNat:Int)=0) (fun (w:Nat)=>4 - w) (0) (⟨by omega,fun k hk=>absurd hk (by omega)⟩) ?_;(conv=>whnf);refine⟨by ((conv=>whnf);first|rfl|(simp[envCat,tkL0,cells9,mcells];done)|(simp[envCat,tkL0,cells9,mcells];rw[IntKind.wrap_i64];omega)),?_⟩
   rintro w ⟨hw,hz⟩
   (conv=>whnf)
   by_cases hw4:w=4
   . subst hw4
     obtain⟨m,hm,m1,m2⟩:=cfl_some hc hd hfit.1 hne (no_cfl hc hz)
     have hml:=(meetT_ct hm hc hd).2.1
     (try (conv=>whnf));repeat' (first|refine Ok.seq ?_|((first|refine Ok.region tok ?_|refine Ok.cond ?_|refine Ok.exit ?_|refine Ok.ret ?_);conv=>whnf)|(refine bI ?_ ?_<;>intro<;>(conv=>whnf)<;>(try (exfalso;omega)))|fail)
     refine Or.inl ?_;(conv=>whnf)
     refine⟨?_,rfl⟩
     have hme:=mcells_end hml m1 m2
     rw[hm]
     show D.tup [.agg (mcells c.length 4 c d),.b True]=_
     rw[hme]
     simp
   . rcases (by omega:w=0\/w=1\/w=2\/w=3) with rfl|rfl|rfl|rfl
     . (try (conv=>whnf));repeat' (first|((with_reducible_and_instances (first|refine nAnd ?_|refine nOr ?_|refine nXor ?_));conv=>whnf)|refine Ok.seq ?_|((first|refine Ok.region tok ?_|refine Ok.region_plan (id:=8) tok follows [(3,11,[]),(7,11,[])] [.q 0,.q 1,.q 2,.q 3,.q 4,.q 5,.q 6,.q 7,.q 8,.q 9,.q 10,.l 11] (by kernel_rfl) ?_|refine Ok.region_plan (id:=9) tok follows [(3,11,[]),(7,11,[])] [.q 0,.q 1,.q 2,.q 3,.q 4,.q 5,.q 6,.q 7,.q 8,.q 9,.q 10,.l 11] (by kernel_rfl) ?_|refine Ok.region_draw tok follows (by kernel_rfl) ?_|refine Ok.cond ?_);conv=>whnf)|refine Ok.block ?_|((first|refine Ok.skip ?_|refine Ok.ret ?_|refine nI ?_);conv=>whnf)|(refine bI ?_ ?_<;>intro<;>(conv=>whnf)<;>(try (exfalso;omega)))|((first|refine aJ ?_|refine⟨_,rfl,?_⟩);conv=>whnf)|fail)
       . rename_i hx
         refine Or.inl ?_;(conv=>whnf)
         have hx2:¬ ((wof (cfl c d) 0).toNat:Int)=0:=by
          rw[<- word_cfl]
          exact hx
         obtain⟨i,hi⟩:=wof_nz hx2
         exact⟨mt_none (cfl_none hc hd hi),rfl⟩
       . rename_i hx
         have hx2:((wof (cfl c d) 0).toNat:Int)=0:=by
          rw[<- word_cfl]
          exact Classical.not_not.1 hx
         refine⟨1,by omega,⟨by omega,fun k hk=>?_⟩,?_⟩
         . by_cases hk2:k=0
           . rw[hk2];exact hx2
           . exact hz k (by omega)
         . (conv=>whnf)
           rfl
     . (try (conv=>whnf));repeat' (first|((with_reducible_and_instances (first|refine nAnd ?_|refine nOr ?_|refine nXor ?_));conv=>whnf)|refine Ok.seq ?_|((first|refine Ok.region tok ?_|refine Ok.region_plan (id:=8) tok follows [(3,11,[]),(7,11,[])] [.q 0,.q 1,.q 2,.q 3,.q 4,.q 5,.q 6,.q 7,.q 8,.q 9,.q 10,.l 11] (by kernel_rfl) ?_|refine Ok.region_plan (id:=9) tok follows [(3,11,[]),(7,11,[])] [.q 0,.q 1,.q 2,.q 3,.q 4,.q 5,.q 6,.q 7,.q 8,.q 9,.q 10,.l 11] (by kernel_rfl) ?_|refine Ok.region_draw tok follows (by kernel_rfl) ?_|refine Ok.cond ?_);conv=>whnf)|refine Ok.block ?_|((first|refine Ok.skip ?_|refine Ok.ret ?_|refine nI ?_);conv=>whnf)|(refine bI ?_ ?_<;>intro<;>(conv=>whnf)<;>(try (exfalso;omega)))|((first|refine aJ ?_|refine⟨_,rfl,?_⟩);conv=>whnf)|fail)
       . rename_i hx
         refine Or.inl ?_;(conv=>whnf)
         have hx2:¬ ((wof (cfl c d) 1).toNat:Int)=0:=by
          rw[<- word_cfl]
          exact hx
         obtain⟨i,hi⟩:=wof_nz hx2
         exact⟨mt_none (cfl_none hc hd hi),rfl⟩
       . rename_i hx
         have hx2:((wof (cfl c d) 1).toNat:Int)=0:=by
          rw[<- word_cfl]
          exact Classical.not_not.1 hx
         refine⟨2,by omega,⟨by omega,fun k hk=>?_⟩,?_⟩
         . by_cases hk2:k=1
           . rw[hk2];exact hx2
           . exact hz k (by omega)
         . (conv=>whnf)
           rfl
     . (try (conv=>whnf));repeat' (first|((with_reducible_and_instances (first|refine nAnd ?_|refine nOr ?_|refine nXor ?_));conv=>whnf)|refine Ok.seq ?_|((first|refine Ok.region tok ?_|refine Ok.region_plan (id:=8) tok follows [(3,11,[]),(7,11,[])] [.q 0,.q 1,.q 2,.q 3,.q 4,.q 5,.q 6,.q 7,.q 8,.q 9,.q 10,.l 11] (by kernel_rfl) ?_|refine Ok.region_plan (id:=9) tok follows [(3,11,[]),(7,11,[])] [.q 0,.q 1,.q 2,.q 3,.q 4,.q 5,.q 6,.q 7,.q 8,.q 9,.q 10,.l 11] (by kernel_rfl) ?_|refine Ok.region_draw tok follows (by kernel_rfl) ?_|refine Ok.cond ?_);conv=>whnf)|refine Ok.block ?_|((first|refine Ok.skip ?_|refine Ok.ret ?_|refine nI ?_);conv=>whnf)|(refine bI ?_ ?_<;>intro<;>(conv=>whnf)<;>(try (exfalso;omega)))|((first|refine aJ ?_|refine⟨_,rfl,?_⟩);conv=>whnf)|fail)
       . rename_i hx
         refine Or.inl ?_;(conv=>whnf)
         have hx2:¬ ((wof (cfl c d) 2).toNat:Int)=0:=by
          rw[<- word_cfl]
          exact hx
         obtain⟨i,hi⟩:=wof_nz hx2
         exact⟨mt_none (cfl_none hc hd hi),rfl⟩
       . rename_i hx
         have hx2:((wof (cfl c d) 2).toNat:Int)=0:=by
          rw[<- word_cfl]
          exact Classical.not_not.1 hx
         refine⟨3,by omega,⟨by omega,fun k hk=>?_⟩,?_⟩
         . by_cases hk2:k=2
           . rw[hk2];exact hx2
           . exact hz k (by omega)
         . (conv=>whnf)
           rfl
     . (try (conv=>whnf));repeat' (first|((with_reducible_and_instances (first|refine nAnd ?_|refine nOr ?_|refine nXor ?_));conv=>whnf)|refine Ok.seq ?_|((first|refine Ok.region tok ?_|refine Ok.region_plan (id:=8) tok follows [(3,11,[]),(7,11,[])] [.q 0,.q 1,.q 2,.q 3,.q 4,.q 5,.q 6,.q 7,.q 8,.q 9,.q 10,.l 11] (by kernel_rfl) ?_|refine Ok.region_plan (id:=9) tok follows [(3,11,[]),(7,11,[])] [.q 0,.q 1,.q 2,.q 3,.q 4,.q 5,.q 6,.q 7,.q 8,.q 9,.q 10,.l 11] (by kernel_rfl) ?_|refine Ok.region_draw tok follows (by kernel_rfl) ?_|refine Ok.cond ?_);conv=>whnf)|refine Ok.block ?_|((first|refine Ok.skip ?_|refine Ok.ret ?_|refine nI ?_);conv=>whnf)|(refine bI ?_ ?_<;>intro<;>(conv=>whnf)<;>(try (exfalso;omega)))|((first|refine aJ ?_|refine⟨_,rfl,?_⟩);conv=>whnf)|fail)
       . rename_i hx
         refine Or.inl ?_;(conv=>whnf)
         have hx2:¬ ((wof (cfl c d) 3).toNat:Int)=0:=by
          rw[<- word_cfl]
          exact hx
         obtain⟨i,hi⟩:=wof_nz hx2
         exact⟨mt_none (cfl_none hc hd hi),rfl⟩
       . rename_i hx
         have hx2:((wof (cfl c d) 3).toNat:Int)=0:=by
          rw[<- word_cfl]
          exact Classical.not_not.1 hx
         refine⟨4,by omega,⟨by omega,fun k hk=>?_⟩,?_⟩
         . by_cases hk2:k=3
           . rw[hk2];exact hx2
           . exact hz k (by omega)
         . (conv=>whnf)
           rfl
end Go.Proofs.YtnlingegeangmaaGreatDoor
namespace Go.Proofs.YtnlingegeangmaaGreatDoor
open Go Go.Vx
theorem fill_at{t:Str}{i:Nat}(hi:i<t.length):(t.take i++List.replicate (t.length - i) (0:UInt8))[i]? = some 0:=by
 rw[List.getElem?_append_right (by simp;omega)]
 simp[List.getElem?_replicate]
 omega
theorem fill_set{t:Str}{i:Nat}{b:UInt8}(h:t[i]? = some b):(t.take i++List.replicate (t.length - i) (0:UInt8)).set i b=t.take (i+1)++List.replicate (t.length - (i+1)) 0:=by
 have hi:i<t.length:=(gSm0.1 h).1
 rw[List.set_append,if_neg (by simp;omega)]
 rw[show t.length - i=(t.length - (i+1))+1 by omega,List.replicate_succ]
 rw[show i - (t.take i).length=0 by simp;omega]
 rw[List.set_cons_zero,List.take_add_one,h]
 simp
theorem text_at(t:Str)(ht:CT t):FSpec Tryz.prog T 269 [.agg (crow t)] (fun r _=>r = .s t):=by
 have hlen:=ht.len
 refine FSpec.of_ok tok Tryz.func269 rfl Tryz.call269 (by simp) ?_
 (try (conv=>whnf));repeat' (first|refine Ok.seq ?_|(refine Ok.region tok ?_;conv=>whnf)|refine Ok.block ?_|((first|refine⟨_,_,rfl,rfl,?_⟩|refine aJ ?_|refine⟨_,rfl,?_⟩);conv=>whnf)|fail)
 refine Ok.loopU [1,3,9] [10] 1 1 (fun (i:Nat)=>[.i .i64 (i:Nat)]) (fun (i:Nat) (_:List (List D))=>[crow t]) (fun (i:Nat) (_:Vx.Rows)=>[some (5,(t.take i++List.replicate (t.length - i) 0).map bcell)]) (fun (i:Nat)=>i<=t.length) (fun (i:Nat)=>t.length - i) (0) (Nat.zero_le _) ?_;(conv=>whnf);refine⟨by ((conv=>whnf);first|rfl|(simp[envCat,tkL0,cells9,bcell];done)|(simp[envCat,tkL0,cells9,bcell];rw[IntKind.wrap_i64];omega)),?_⟩
 rintro i hi
 have hll:(t.take i++List.replicate (t.length - i) (0:UInt8)).length=t.length:=by simp;omega
 have hlm:((t.take i++List.replicate (t.length - i) (0:UInt8)).map bcell).length=t.length:=by rw[lMp0,hll]
 (conv=>whnf)
 by_cases hit:i<t.length
 . obtain⟨b,hb⟩:∃ b,t[i]? = some b:=⟨_,gEt0 hit⟩
   obtain⟨q,r,hqr,hr,hq⟩:=split64 i (by omega)
   have hrem:=rem64 hqr hr
   have hquo:=quo64 hqr hr (by omega)
   have hrr:((r:Nat):Int)=((r:Nat):Int)/\r<64:=⟨rfl,hr⟩
   have hca:=at_word (f:=car t) hqr hr
   have hoa:=at_word (f:=one t) hqr hr
   rw[(at_b hb).1] at hca
   rw[(at_b hb).2] at hoa
   have hfa:=fill_at hit
   have hfs:=fill_set hb
   rcases ht.cub b (mOf0 hb) with rfl|rfl|rfl
   . have hc:=hca.2 rfl
     have ho:¬ _:=fun e=>absurd (hoa.1 e) (by decide)
     clear hca hoa
     rcases hq with rfl|rfl|rfl|rfl
     all_goals
      (try (conv=>whnf));repeat' (first|refine Ok.seq ?_|((first|refine Ok.region tok ?_|refine Ok.cond ?_);conv=>whnf)|refine Ok.block ?_|(refine Ok.skip ?_;conv=>whnf)|(refine bI ?_ ?_<;>intro<;>(conv=>whnf)<;>(try (exfalso;omega)))|fail)
      refine Or.inr (Or.inr (Or.inl ?_));(conv=>whnf);refine⟨_,_,Tryz.func282,rfl,Tryz.call282,?_⟩;(conv=>whnf)
      (try (conv=>whnf));repeat' (first|((with_reducible_and_instances (first|refine nShr (by assumption) ?_|refine nAnd1' rfl ?_));conv=>whnf)|refine Ok.seq ?_|((first|refine Ok.region tok ?_|refine⟨_,(hquo.symm).symm,?_⟩|refine⟨_,(hrem.symm).symm,?_⟩|refine Ok.cond ?_|refine Ok.ret ?_);conv=>whnf)|(refine bI ?_ ?_<;>intro<;>(conv=>whnf)<;>(try (exfalso;omega)))|((first|refine aJ ?_|refine⟨_,rfl,?_⟩);conv=>whnf)|fail)
      refine Or.inr (Or.inr (Or.inl ?_));(conv=>whnf);refine⟨_,_,Tryz.func282,rfl,Tryz.call282,?_⟩;(conv=>whnf)
      (try (conv=>whnf));repeat' (first|((with_reducible_and_instances (first|refine nShr (by assumption) ?_|refine nAnd1' rfl ?_));conv=>whnf)|refine Ok.seq ?_|((first|refine Ok.region tok ?_|refine⟨_,(hquo.symm).symm,?_⟩|refine⟨_,(hrem.symm).symm,?_⟩|refine Ok.cond ?_|refine Ok.ret ?_);conv=>whnf)|(refine bI ?_ ?_<;>intro<;>(conv=>whnf)<;>(try (exfalso;omega)))|((first|refine aJ ?_|refine⟨_,rfl,?_⟩);conv=>whnf)|fail)
      refine st 48 hfa (by simp[bcell]) (by simp[setCells,bcell]) ?_
      (try (conv=>whnf));repeat' (first|((first|refine Ok.region tok ?_|refine nI ?_);conv=>whnf)|fail)
      refine⟨i+1,by omega,by omega,?_⟩
      (conv=>whnf)
      simp only[toNat_cast,hfs,envCat]
      rfl
   . have hc:=hca.2 rfl
     have ho:=hoa.2 rfl
     clear hca hoa
     rcases hq with rfl|rfl|rfl|rfl
     all_goals
      (try (conv=>whnf));repeat' (first|refine Ok.seq ?_|((first|refine Ok.region tok ?_|refine Ok.cond ?_);conv=>whnf)|refine Ok.block ?_|(refine Ok.skip ?_;conv=>whnf)|(refine bI ?_ ?_<;>intro<;>(conv=>whnf)<;>(try (exfalso;omega)))|fail)
      refine Or.inr (Or.inr (Or.inl ?_));(conv=>whnf);refine⟨_,_,Tryz.func282,rfl,Tryz.call282,?_⟩;(conv=>whnf)
      (try (conv=>whnf));repeat' (first|((with_reducible_and_instances (first|refine nShr (by assumption) ?_|refine nAnd1' rfl ?_));conv=>whnf)|refine Ok.seq ?_|((first|refine Ok.region tok ?_|refine⟨_,(hquo.symm).symm,?_⟩|refine⟨_,(hrem.symm).symm,?_⟩|refine Ok.cond ?_|refine Ok.ret ?_);conv=>whnf)|(refine bI ?_ ?_<;>intro<;>(conv=>whnf)<;>(try (exfalso;omega)))|((first|refine aJ ?_|refine⟨_,rfl,?_⟩);conv=>whnf)|fail)
      refine Or.inr (Or.inr (Or.inl ?_));(conv=>whnf);refine⟨_,_,Tryz.func282,rfl,Tryz.call282,?_⟩;(conv=>whnf)
      (try (conv=>whnf));repeat' (first|((with_reducible_and_instances (first|refine nShr (by assumption) ?_|refine nAnd1' rfl ?_));conv=>whnf)|refine Ok.seq ?_|((first|refine Ok.region tok ?_|refine⟨_,(hquo.symm).symm,?_⟩|refine⟨_,(hrem.symm).symm,?_⟩|refine Ok.cond ?_|refine Ok.ret ?_);conv=>whnf)|(refine bI ?_ ?_<;>intro<;>(conv=>whnf)<;>(try (exfalso;omega)))|((first|refine aJ ?_|refine⟨_,rfl,?_⟩);conv=>whnf)|fail)
      refine st 49 hfa (by simp[bcell]) (by simp[setCells,bcell]) ?_
      (try (conv=>whnf));repeat' (first|((first|refine Ok.region tok ?_|refine nI ?_);conv=>whnf)|fail)
      refine⟨i+1,by omega,by omega,?_⟩
      (conv=>whnf)
      simp only[toNat_cast,hfs,envCat]
      rfl
   . have hc:¬ _:=fun e=>absurd (hca.1 e) (by decide)
     clear hca hoa
     rcases hq with rfl|rfl|rfl|rfl
     all_goals
      (try (conv=>whnf));repeat' (first|refine Ok.seq ?_|((first|refine Ok.region tok ?_|refine Ok.cond ?_);conv=>whnf)|refine Ok.block ?_|(refine Ok.skip ?_;conv=>whnf)|(refine bI ?_ ?_<;>intro<;>(conv=>whnf)<;>(try (exfalso;omega)))|fail)
      refine Or.inr (Or.inr (Or.inl ?_));(conv=>whnf);refine⟨_,_,Tryz.func282,rfl,Tryz.call282,?_⟩;(conv=>whnf)
      (try (conv=>whnf));repeat' (first|((with_reducible_and_instances (first|refine nShr (by assumption) ?_|refine nAnd1' rfl ?_));conv=>whnf)|refine Ok.seq ?_|((first|refine Ok.region tok ?_|refine⟨_,(hquo.symm).symm,?_⟩|refine⟨_,(hrem.symm).symm,?_⟩|refine Ok.cond ?_|refine Ok.ret ?_);conv=>whnf)|(refine bI ?_ ?_<;>intro<;>(conv=>whnf)<;>(try (exfalso;omega)))|((first|refine aJ ?_|refine⟨_,rfl,?_⟩);conv=>whnf)|fail)
      refine st 120 hfa (by simp[bcell]) (by simp[setCells,bcell]) ?_
      (try (conv=>whnf));repeat' (first|((first|refine Ok.region tok ?_|refine nI ?_);conv=>whnf)|fail)
      refine⟨i+1,by omega,by omega,?_⟩
      (conv=>whnf)
      simp only[toNat_cast,hfs,envCat]
      rfl
 . have he:i=t.length:=by omega
   subst he
   rw[List.take_length,Nat.sub_self,List.replicate_zero,List.append_nil] at *
   (try (conv=>whnf));repeat' (first|refine Ok.seq ?_|((first|refine Ok.region tok ?_|refine Ok.cond ?_|refine Ok.exit ?_);conv=>whnf)|(refine bI ?_ ?_<;>intro<;>(conv=>whnf)<;>(try (exfalso;omega)))|(refine aJ ?_;conv=>whnf)|fail)
   refine⟨t,take_all bcell t,?_⟩
   (try (conv=>whnf));repeat' (first|(refine Ok.ret ?_;conv=>whnf)|fail)
   refine Or.inl ?_;(conv=>whnf)
   rfl
end Go.Proofs.YtnlingegeangmaaGreatDoor
namespace Go.Proofs.YtnlingegeangmaaGreatDoor
open Go Go.Vx
section
variable {α : Type} {R : α → α → Prop}
open Classical in
/-- Those of the first j that are not below x. -/
noncomputable def leftOf(R:α->α->Prop)(k:List α)(x:α)(j:Nat):List α:=(k.take j).filter (fun y=>decide (¬ R y x))
end
end Go.Proofs.YtnlingegeangmaaGreatDoor
namespace Go.Proofs.YtnlingegeangmaaGreatDoor
open Go Go.Vx
def CN(c:Str):Prop:=CT c/\c ≠ []
end Go.Proofs.YtnlingegeangmaaGreatDoor
namespace Go.Proofs
open Go.Shelf
def Tryz.vxSort_ren:Go.Shelf.Ren:=⟨fun|6=>127|10=>154|11=>155|12=>156|13=>157|14=>158|24=>188|25=>189|26=>190|27=>191|28=>192|29=>193|30=>194|31=>195|32=>196|33=>197|34=>219|35=>220|36=>221|37=>222|38=>223|39=>244|n=>n,fun|20=>20|26=>217|35=>247|0=>0|37=>249|3=>3|41=>253|44=>256|49=>283|51=>285|4=>4|54=>288|53=>287|58=>201|5=>5|9=>9|60=>322|64=>326|66=>354|67=>218|17=>17|32=>244|33=>245|82=>415|12=>12|75=>409|76=>410|77=>411|78=>362|79=>412|80=>413|n=>n,fun|n=>n⟩
theorem Tryz.vxSort:Go.Proofs.LaysGg.n6 Tryz.prog Tryz.vxSort_ren:={
 mixed:=by kernel_rfl
 f6:=Tryz.func127.trans (congrArg some (by kernel_rfl))
 f10:=Tryz.func154.trans (congrArg some (by kernel_rfl))
 f11:=Tryz.func155.trans (congrArg some (by kernel_rfl))
 f12:=Tryz.func156.trans (congrArg some (by kernel_rfl))
 f13:=Tryz.func157.trans (congrArg some (by kernel_rfl))
 f14:=Tryz.func158.trans (congrArg some (by kernel_rfl))
 f24:=Tryz.func188.trans (congrArg some (by kernel_rfl))
 f25:=Tryz.func189.trans (congrArg some (by kernel_rfl))
 f26:=Tryz.func190.trans (congrArg some (by kernel_rfl))
 f27:=Tryz.func191.trans (congrArg some (by kernel_rfl))
 f28:=Tryz.func192.trans (congrArg some (by kernel_rfl))
 f29:=Tryz.func193.trans (congrArg some (by kernel_rfl))
 f30:=Tryz.func194.trans (congrArg some (by kernel_rfl))
 f31:=Tryz.func195.trans (congrArg some (by kernel_rfl))
 f32:=Tryz.func196.trans (congrArg some (by kernel_rfl))
 f33:=Tryz.func197.trans (congrArg some (by kernel_rfl))
 f34:=Tryz.func219.trans (congrArg some (by kernel_rfl))
 f35:=Tryz.func220.trans (congrArg some (by kernel_rfl))
 f36:=Tryz.func221.trans (congrArg some (by kernel_rfl))
 f37:=Tryz.func222.trans (congrArg some (by kernel_rfl))
 f38:=Tryz.func223.trans (congrArg some (by kernel_rfl))
 f39:=Tryz.func244.trans (congrArg some (by kernel_rfl))
 t0:=Tryz.underlying0
 a0:=Tryz.isAgg0
 z0:=Tryz.sizeOf0
 v0:=Tryz.zeroValue0
 i0:=by kernel_rfl
 t3:=Tryz.underlying3
 a3:=Tryz.isAgg3
 z3:=Tryz.sizeOf3
 v3:=Tryz.zeroValue3
 i3:=by kernel_rfl
 t4:=Tryz.underlying4
 a4:=Tryz.isAgg4
 z4:=Tryz.sizeOf4
 v4:=Tryz.zeroValue4
 i4:=by kernel_rfl
 t5:=Tryz.underlying5
 a5:=Tryz.isAgg5
 z5:=Tryz.sizeOf5
 v5:=Tryz.zeroValue5
 i5:=by kernel_rfl
 t9:=Tryz.underlying9
 a9:=Tryz.isAgg9
 z9:=Tryz.sizeOf9
 v9:=Tryz.zeroValue9
 i9:=by kernel_rfl
 t12:=Tryz.underlying12
 a12:=Tryz.isAgg12
 z12:=Tryz.sizeOf12
 v12:=Tryz.zeroValue12
 i12:=by kernel_rfl
 t17:=Tryz.underlying17
 a17:=Tryz.isAgg17
 z17:=Tryz.sizeOf17
 v17:=Tryz.zeroValue17
 i17:=by kernel_rfl
 t20:=Tryz.underlying20
 a20:=Tryz.isAgg20
 z20:=Tryz.sizeOf20
 v20:=Tryz.zeroValue20
 i20:=by kernel_rfl
 t26:=Tryz.underlying217
 a26:=Tryz.isAgg217
 z26:=Tryz.sizeOf217
 v26:=Tryz.zeroValue217
 i26:=by kernel_rfl
 t32:=Tryz.underlying244
 a32:=Tryz.isAgg244
 z32:=Tryz.sizeOf244
 v32:=Tryz.zeroValue244
 i32:=by kernel_rfl
 t33:=Tryz.underlying245
 a33:=Tryz.isAgg245
 z33:=Tryz.sizeOf245
 v33:=Tryz.zeroValue245
 i33:=by kernel_rfl
 t35:=Tryz.underlying247
 a35:=Tryz.isAgg247
 z35:=Tryz.sizeOf247
 v35:=Tryz.zeroValue247
 i35:=by kernel_rfl
 t37:=Tryz.underlying249
 a37:=Tryz.isAgg249
 z37:=Tryz.sizeOf249
 v37:=Tryz.zeroValue249
 i37:=by kernel_rfl
 t41:=Tryz.underlying253
 a41:=Tryz.isAgg253
 z41:=Tryz.sizeOf253
 v41:=Tryz.zeroValue253
 i41:=by kernel_rfl
 t44:=Tryz.underlying256
 a44:=Tryz.isAgg256
 z44:=Tryz.sizeOf256
 v44:=Tryz.zeroValue256
 i44:=by kernel_rfl
 t49:=Tryz.underlying283
 a49:=Tryz.isAgg283
 z49:=Tryz.sizeOf283
 v49:=Tryz.zeroValue283
 i49:=by kernel_rfl
 t51:=Tryz.underlying285
 a51:=Tryz.isAgg285
 z51:=Tryz.sizeOf285
 v51:=Tryz.zeroValue285
 i51:=by kernel_rfl
 t53:=Tryz.underlying287
 a53:=Tryz.isAgg287
 z53:=Tryz.sizeOf287
 v53:=Tryz.zeroValue287
 i53:=by kernel_rfl
 t54:=Tryz.underlying288
 a54:=Tryz.isAgg288
 z54:=Tryz.sizeOf288
 v54:=Tryz.zeroValue288
 i54:=by kernel_rfl
 t58:=Tryz.underlying201
 a58:=Tryz.isAgg201
 z58:=Tryz.sizeOf201
 v58:=Tryz.zeroValue201
 i58:=by kernel_rfl
 t60:=Tryz.underlying322
 a60:=Tryz.isAgg322
 z60:=Tryz.sizeOf322
 v60:=Tryz.zeroValue322
 i60:=by kernel_rfl
 t64:=Tryz.underlying326
 a64:=Tryz.isAgg326
 z64:=Tryz.sizeOf326
 v64:=Tryz.zeroValue326
 i64:=by kernel_rfl
 t66:=Tryz.underlying354
 a66:=Tryz.isAgg354
 z66:=Tryz.sizeOf354
 v66:=Tryz.zeroValue354
 i66:=by kernel_rfl
 t67:=Tryz.underlying218
 a67:=Tryz.isAgg218
 z67:=Tryz.sizeOf218
 v67:=Tryz.zeroValue218
 i67:=by kernel_rfl
 t75:=Tryz.underlying409
 a75:=Tryz.isAgg409
 z75:=Tryz.sizeOf409
 v75:=Tryz.zeroValue409
 i75:=by kernel_rfl
 t76:=Tryz.underlying410
 a76:=Tryz.isAgg410
 z76:=Tryz.sizeOf410
 v76:=Tryz.zeroValue410
 i76:=by kernel_rfl
 t77:=Tryz.underlying411
 a77:=Tryz.isAgg411
 z77:=Tryz.sizeOf411
 v77:=Tryz.zeroValue411
 i77:=by kernel_rfl
 t78:=Tryz.underlying362
 a78:=Tryz.isAgg362
 z78:=Tryz.sizeOf362
 v78:=Tryz.zeroValue362
 i78:=by kernel_rfl
 t79:=Tryz.underlying412
 a79:=Tryz.isAgg412
 z79:=Tryz.sizeOf412
 v79:=Tryz.zeroValue412
 i79:=by kernel_rfl
 t80:=Tryz.underlying413
 a80:=Tryz.isAgg413
 z80:=Tryz.sizeOf413
 v80:=Tryz.zeroValue413
 i80:=by kernel_rfl
 t82:=Tryz.underlying415
 a82:=Tryz.isAgg415
 z82:=Tryz.sizeOf415
 v82:=Tryz.zeroValue415
 i82:=by kernel_rfl }
end Go.Proofs
namespace Go.Proofs.YtnlingegeangmaaGreatDoor
open Go Go.Vx
theorem perm_map_ex{α β:Type}{f:α->β}:∀ {ys m:List β},ys.Perm m->∀ l:List α,m=l.map f->∃ zs:List α,zs.Perm l/\ys=zs.map f:=by
 intro ys m h
 induction h with
 | nil=>intro l hl;exact⟨l,.refl l,hl⟩
 | cons x h ih=>
  intro l hl
  cases l with
  | nil=>cases hl
  | cons a l=>
   simp only[List.map_cons,List.cons.injEq] at hl
   obtain⟨zs,h1,h2⟩:=ih l hl.2
   exact⟨a :: zs,h1.cons a,by rw[List.map_cons,<- hl.1,h2]⟩
 | swap x y r=>
  intro l hl
  match l,hl with
  | a :: b :: l,hl=>
   simp only[List.map_cons,List.cons.injEq] at hl
   refine⟨b :: a :: l,.swap a b l,?_⟩
   rw[List.map_cons,List.map_cons,hl.1,hl.2.1,hl.2.2]
 | trans h1 h2 ih1 ih2=>
  intro l hl
  obtain⟨z1,a1,a2⟩:=ih2 l hl
  obtain⟨z2,b1,b2⟩:=ih1 z1 a2
  exact⟨z2,b1.trans a1,b2⟩
theorem take_snoc{α:Type}{l:List α}{i:Nat}{x:α}(h:l[i]? = some x):l.take (i+1)=l.take i++[x]:=by
 rw[List.take_add_one,h];rfl
end Go.Proofs.YtnlingegeangmaaGreatDoor
namespace Go.Proofs.YtnlingegeangmaaGreatDoor
open Go Go.Vx
open Classical in
noncomputable def nb{α:Type}(R:α->α->Prop)(c:α)(l:List α):List α:=l.filter fun x=>decide (¬ R x c)
end Go.Proofs.YtnlingegeangmaaGreatDoor
namespace Go.Proofs.YtnlingegeangmaaGreatDoor
open Go Go.Vx
@[reducible] def srow(s:Str):List D:=[.s s]
end Go.Proofs.YtnlingegeangmaaGreatDoor
namespace Go.Proofs.YtnlingegeangmaaGreatDoor
open Go Go.Vx
structure SI where
 s:Str
 n:Int
def SI.row(x:SI):List D:=[.s x.s,.i .i64 x.n]
structure Node where
 kind:Int
 field:Str
 op:Int
 form:Int
 lo:Int
 hi:Int
 len:Int
 pat:Str
def Node.row(x:Node):List D:=[.i .i64 x.kind,.s x.field,.i .i64 x.op,.i .i64 x.form,.i .i64 x.lo,.i .i64 x.hi,.i .i64 x.len,.s x.pat]
structure Pfx where
 value:Int
 len:Int
 dst:Str
def Pfx.row(x:Pfx):List D:=[.i .i64 x.value,.i .i64 x.len,.s x.dst]
structure Link where
 frm:Str
 dst:Str
 cost:Int
def Link.row(x:Link):List D:=[.s x.frm,.s x.dst,.i .i64 x.cost]
end Go.Proofs.YtnlingegeangmaaGreatDoor
namespace Go.Proofs.YtnlingegeangmaaGreatDoor
open Go Go.Vx
structure Ls(α:Type) where
 l:List α
 room:List (List D)
structure Line where
 port:Str
 permit:Prop
 mtch:Ls Node
def Line.row(x:Line):List D:=[.s x.port,.b x.permit,.lst 174 (x.mtch.l.map Node.row) x.mtch.room]
structure Rule where
 prio:Int
 frm:Ls Str
 mtch:Ls Node
 sets:Ls SI
 dst:Ls Str
def Rule.row(x:Rule):List D:=[.i .i64 x.prio,.lst 9 (x.frm.l.map srow) x.frm.room,.lst 174 (x.mtch.l.map Node.row) x.mtch.room,.lst 234 (x.sets.l.map SI.row) x.sets.room,.lst 9 (x.dst.l.map srow) x.dst.room]
structure Box where
 name:Str
 ins:Ls Str
 outs:Ls Str
 guards:Ls Line
 rules:Ls Rule
 owns:Ls Pfx
 routes:Ls Pfx
def Box.row(x:Box):List D:=[.s x.name,.lst 9 (x.ins.l.map srow) x.ins.room,.lst 9 (x.outs.l.map srow) x.outs.room,.lst 84 (x.guards.l.map Line.row) x.guards.room,.lst 87 (x.rules.l.map Rule.row) x.rules.room,.lst 49 (x.owns.l.map Pfx.row) x.owns.room,.lst 49 (x.routes.l.map Pfx.row) x.routes.room]
structure Slc where
 name:Str
 ports:Ls Str
 whr:Ls Node
def Slc.row(x:Slc):List D:=[.s x.name,.lst 9 (x.ports.l.map srow) x.ports.room,.lst 174 (x.whr.l.map Node.row) x.whr.room]
structure Config where
 title:Str
 fields:Ls SI
 routing:Str
 slim:Prop
 boxes:Ls Box
 links:Ls Link
 slices:Ls Slc
def Config.row(x:Config):List D:=[.s x.title,.lst 93 (x.fields.l.map SI.row) x.fields.room,.s x.routing,.b x.slim,.lst 47 (x.boxes.l.map Box.row) x.boxes.room,.lst 41 (x.links.l.map Link.row) x.links.room,.lst 89 (x.slices.l.map Slc.row) x.slices.room]
structure LineB where
 port:Str
 permit:Prop
 mtch:List Node
def Line.b(x:Line):LineB:=⟨x.port,x.permit,x.mtch.l⟩
structure RuleB where
 prio:Int
 frm:List Str
 mtch:List Node
 sets:List SI
 dst:List Str
def Rule.b(x:Rule):RuleB:=⟨x.prio,x.frm.l,x.mtch.l,x.sets.l,x.dst.l⟩
structure BoxB where
 name:Str
 ins:List Str
 outs:List Str
 guards:List LineB
 rules:List RuleB
 owns:List Pfx
 routes:List Pfx
def Box.b(x:Box):BoxB:=⟨x.name,x.ins.l,x.outs.l,x.guards.l.map Line.b,x.rules.l.map Rule.b,x.owns.l,x.routes.l⟩
structure SlcB where
 name:Str
 ports:List Str
 whr:List Node
def Slc.b(x:Slc):SlcB:=⟨x.name,x.ports.l,x.whr.l⟩
structure ConfigB where
 title:Str
 fields:List SI
 routing:Str
 slim:Prop
 boxes:List BoxB
 links:List Link
 slices:List SlcB
def Config.b(x:Config):ConfigB:=⟨x.title,x.fields.l,x.routing,x.slim,x.boxes.l.map Box.b,x.links.l,x.slices.l.map Slc.b⟩
end Go.Proofs.YtnlingegeangmaaGreatDoor
namespace Go.Proofs.YtnlingegeangmaaGreatDoor
open Go Go.Vx
structure Line.Ok(x:Line):Prop where
 mtch:x.mtch.l.length<=1048576
structure Rule.Ok(x:Rule):Prop where
 frm:x.frm.l.length<=1048576
 mtch:x.mtch.l.length<=1048576
 sets:x.sets.l.length<=1048576
 dst:x.dst.l.length<=1048576
structure Box.Ok(x:Box):Prop where
 ins:x.ins.l.length<=1048576
 outs:x.outs.l.length<=1048576
 guards:x.guards.l.length<=1048576
 rules:x.rules.l.length<=1048576
 owns:x.owns.l.length<=1048576
 routes:x.routes.l.length<=1048576
 line:∀ g ∈ x.guards.l,g.Ok
 rule:∀ r ∈ x.rules.l,r.Ok
end Go.Proofs.YtnlingegeangmaaGreatDoor
namespace Go.Proofs.YtnlingegeangmaaGreatDoor
open Go Go.Vx
structure Slc.Ok(x:Slc):Prop where
 ports:x.ports.l.length<=1048576
 whr:x.whr.l.length<=1048576
structure Config.Ok(c:Config):Prop where
 fields:c.fields.l.length<=1048576
 boxes:c.boxes.l.length<=1048576
 links:c.links.l.length<=1048576
 slices:c.slices.l.length<=1048576
 box:∀ b ∈ c.boxes.l,b.Ok
 slc:∀ s ∈ c.slices.l,s.Ok
end Go.Proofs.YtnlingegeangmaaGreatDoor
namespace Go.Proofs.YtnlingegeangmaaGreatDoor
open Go Go.Vx
def SOk(s:Str):Prop:=s.length<=1048576
def IOk(n:Int):Prop:=-9223372036854775808<=n/\n<=9223372036854775807
structure SI.Tx(a:SI):Prop where
 s:SOk a.s
 n:IOk a.n
structure Node.Tx(a:Node):Prop where
 kind:IOk a.kind
 field:SOk a.field
 op:IOk a.op
 form:IOk a.form
 lo:IOk a.lo
 hi:IOk a.hi
 len:IOk a.len
 pat:SOk a.pat
structure Pfx.Tx(a:Pfx):Prop where
 value:IOk a.value
 len:IOk a.len
 dst:SOk a.dst
structure Link.Tx(a:Link):Prop where
 frm:SOk a.frm
 dst:SOk a.dst
 cost:IOk a.cost
structure Line.Tx(a:Line):Prop where
 port:SOk a.port
 mtch:∀ x ∈ a.mtch.l,x.Tx
structure Rule.Tx(a:Rule):Prop where
 prio:IOk a.prio
 frm:∀ x ∈ a.frm.l,SOk x
 mtch:∀ x ∈ a.mtch.l,x.Tx
 sets:∀ x ∈ a.sets.l,x.Tx
 dst:∀ x ∈ a.dst.l,SOk x
structure Box.Tx(a:Box):Prop where
 name:SOk a.name
 ins:∀ x ∈ a.ins.l,SOk x
 outs:∀ x ∈ a.outs.l,SOk x
 guards:∀ x ∈ a.guards.l,x.Tx
 rules:∀ x ∈ a.rules.l,x.Tx
 owns:∀ x ∈ a.owns.l,x.Tx
 routes:∀ x ∈ a.routes.l,x.Tx
structure Slc.Tx(a:Slc):Prop where
 name:SOk a.name
 ports:∀ x ∈ a.ports.l,SOk x
 whr:∀ x ∈ a.whr.l,x.Tx
structure Config.Tx(a:Config):Prop where
 title:SOk a.title
 fields:∀ x ∈ a.fields.l,x.Tx
 routing:SOk a.routing
 boxes:∀ x ∈ a.boxes.l,x.Tx
 links:∀ x ∈ a.links.l,x.Tx
 slices:∀ x ∈ a.slices.l,x.Tx
theorem ls_of{B:Nat}{α:Type}{f:α->List D}{p:α->Prop}{e:TypeId}{l:List Shp}{x:D}(h:TySs B [.slice e l] [x])(hf:∀ {r},TySs B l r->∃ a,r=f a/\p a) :
    ∃ L:Ls α,x = .lst e (L.l.map f) L.room/\L.l.length<=B/\∀ a ∈ L.l,p a:=by
 obtain⟨us,room,rfl,hl,h1,_⟩:=lst_of h fun r hr=>hf hr
 exact⟨⟨us,room.map f⟩,rfl,by simp only;omega,h1⟩
theorem str_row_of{r:List D}(h:TySs 1048576 [.str] r):∃ a:Str,r=srow a/\SOk a:=by
 obtain⟨x0,r,rfl,h0,h⟩:=ss_cons h
 obtain rfl:=ss_nil h
 obtain⟨v0,rfl,hv⟩:=str_of h0
 exact⟨v0,rfl,hv⟩
theorem si_of{r:List D}(h:TySs 1048576 [.str,.int .i64] r):∃ a:SI,r=a.row/\a.Tx:=by
 obtain⟨x0,r,rfl,h0,h⟩:=ss_cons h
 obtain⟨x1,r,rfl,h1,h⟩:=ss_cons h
 obtain rfl:=ss_nil h
 obtain⟨v0,rfl,t0⟩:=str_of h0
 obtain⟨v1,rfl,w1⟩:=int_of h1
 exact⟨⟨v0,v1⟩,rfl,⟨t0,wf64 w1⟩⟩
theorem node_of{r:List D}(h:TySs 1048576 [.int .i64,.str,.int .i64,.int .i64,.int .i64,.int .i64,.int .i64,.str] r):∃ a:Node,r=a.row/\a.Tx:=by
 obtain⟨x0,r,rfl,h0,h⟩:=ss_cons h
 obtain⟨x1,r,rfl,h1,h⟩:=ss_cons h
 obtain⟨x2,r,rfl,h2,h⟩:=ss_cons h
 obtain⟨x3,r,rfl,h3,h⟩:=ss_cons h
 obtain⟨x4,r,rfl,h4,h⟩:=ss_cons h
 obtain⟨x5,r,rfl,h5,h⟩:=ss_cons h
 obtain⟨x6,r,rfl,h6,h⟩:=ss_cons h
 obtain⟨x7,r,rfl,h7,h⟩:=ss_cons h
 obtain rfl:=ss_nil h
 obtain⟨v0,rfl,w0⟩:=int_of h0
 obtain⟨v1,rfl,t1⟩:=str_of h1
 obtain⟨v2,rfl,w2⟩:=int_of h2
 obtain⟨v3,rfl,w3⟩:=int_of h3
 obtain⟨v4,rfl,w4⟩:=int_of h4
 obtain⟨v5,rfl,w5⟩:=int_of h5
 obtain⟨v6,rfl,w6⟩:=int_of h6
 obtain⟨v7,rfl,t7⟩:=str_of h7
 exact⟨⟨v0,v1,v2,v3,v4,v5,v6,v7⟩,rfl,⟨wf64 w0,t1,wf64 w2,wf64 w3,wf64 w4,wf64 w5,wf64 w6,t7⟩⟩
theorem pfx_of{r:List D}(h:TySs 1048576 [.int .i64,.int .i64,.str] r):∃ a:Pfx,r=a.row/\a.Tx:=by
 obtain⟨x0,r,rfl,h0,h⟩:=ss_cons h
 obtain⟨x1,r,rfl,h1,h⟩:=ss_cons h
 obtain⟨x2,r,rfl,h2,h⟩:=ss_cons h
 obtain rfl:=ss_nil h
 obtain⟨v0,rfl,w0⟩:=int_of h0
 obtain⟨v1,rfl,w1⟩:=int_of h1
 obtain⟨v2,rfl,t2⟩:=str_of h2
 exact⟨⟨v0,v1,v2⟩,rfl,⟨wf64 w0,wf64 w1,t2⟩⟩
theorem link_of{r:List D}(h:TySs 1048576 [.str,.str,.int .i64] r):∃ a:Link,r=a.row/\a.Tx:=by
 obtain⟨x0,r,rfl,h0,h⟩:=ss_cons h
 obtain⟨x1,r,rfl,h1,h⟩:=ss_cons h
 obtain⟨x2,r,rfl,h2,h⟩:=ss_cons h
 obtain rfl:=ss_nil h
 obtain⟨v0,rfl,t0⟩:=str_of h0
 obtain⟨v1,rfl,t1⟩:=str_of h1
 obtain⟨v2,rfl,w2⟩:=int_of h2
 exact⟨⟨v0,v1,v2⟩,rfl,⟨t0,t1,wf64 w2⟩⟩
theorem line_of{r:List D}(h:TySs 1048576 [.str,.bool,.slice 174 [.int .i64,.str,.int .i64,.int .i64,.int .i64,.int .i64,.int .i64,.str]] r):∃ a:Line,r=a.row/\a.Ok/\a.Tx:=by
 obtain⟨x0,r,rfl,h0,h⟩:=ss_cons h
 obtain⟨x1,r,rfl,h1,h⟩:=ss_cons h
 obtain⟨x2,r,rfl,h2,h⟩:=ss_cons h
 obtain rfl:=ss_nil h
 obtain⟨v0,rfl,t0⟩:=str_of h0
 obtain⟨v1,rfl⟩:=bool_of h1
 obtain⟨v2,rfl,l2,q2⟩:=ls_of h2 node_of
 exact⟨⟨v0,v1,v2⟩,rfl,⟨l2⟩,⟨t0,q2⟩⟩
theorem rule_of{r:List D}(h:TySs 1048576 [.int .i64,.slice 9 [.str],.slice 174 [.int .i64,.str,.int .i64,.int .i64,.int .i64,.int .i64,.int .i64,.str],.slice 234 [.str,.int .i64],.slice 9 [.str]] r):∃ a:Rule,r=a.row/\a.Ok/\a.Tx:=by
 obtain⟨x0,r,rfl,h0,h⟩:=ss_cons h
 obtain⟨x1,r,rfl,h1,h⟩:=ss_cons h
 obtain⟨x2,r,rfl,h2,h⟩:=ss_cons h
 obtain⟨x3,r,rfl,h3,h⟩:=ss_cons h
 obtain⟨x4,r,rfl,h4,h⟩:=ss_cons h
 obtain rfl:=ss_nil h
 obtain⟨v0,rfl,w0⟩:=int_of h0
 obtain⟨v1,rfl,l1,q1⟩:=ls_of h1 str_row_of
 obtain⟨v2,rfl,l2,q2⟩:=ls_of h2 node_of
 obtain⟨v3,rfl,l3,q3⟩:=ls_of h3 si_of
 obtain⟨v4,rfl,l4,q4⟩:=ls_of h4 str_row_of
 exact⟨⟨v0,v1,v2,v3,v4⟩,rfl,⟨l1,l2,l3,l4⟩,⟨wf64 w0,q1,q2,q3,q4⟩⟩
theorem box_of{r:List D}(h:TySs 1048576 [.str,.slice 9 [.str],.slice 9 [.str],.slice 84 [.str,.bool,.slice 174 [.int .i64,.str,.int .i64,.int .i64,.int .i64,.int .i64,.int .i64,.str]],.slice 87 [.int .i64,.slice 9 [.str],.slice 174 [.int .i64,.str,.int .i64,.int .i64,.int .i64,.int .i64,.int .i64,.str],.slice 234 [.str,.int .i64],.slice 9 [.str]],.slice 49 [.int .i64,.int .i64,.str],.slice 49 [.int .i64,.int .i64,.str]] r):∃ a:Box,r=a.row/\a.Ok/\a.Tx:=by
 obtain⟨x0,r,rfl,h0,h⟩:=ss_cons h
 obtain⟨x1,r,rfl,h1,h⟩:=ss_cons h
 obtain⟨x2,r,rfl,h2,h⟩:=ss_cons h
 obtain⟨x3,r,rfl,h3,h⟩:=ss_cons h
 obtain⟨x4,r,rfl,h4,h⟩:=ss_cons h
 obtain⟨x5,r,rfl,h5,h⟩:=ss_cons h
 obtain⟨x6,r,rfl,h6,h⟩:=ss_cons h
 obtain rfl:=ss_nil h
 obtain⟨v0,rfl,t0⟩:=str_of h0
 obtain⟨v1,rfl,l1,q1⟩:=ls_of h1 str_row_of
 obtain⟨v2,rfl,l2,q2⟩:=ls_of h2 str_row_of
 obtain⟨v3,rfl,l3,q3⟩:=ls_of h3 line_of
 obtain⟨v4,rfl,l4,q4⟩:=ls_of h4 rule_of
 obtain⟨v5,rfl,l5,q5⟩:=ls_of h5 pfx_of
 obtain⟨v6,rfl,l6,q6⟩:=ls_of h6 pfx_of
 exact⟨⟨v0,v1,v2,v3,v4,v5,v6⟩,rfl,⟨l1,l2,l3,l4,l5,l6,fun x hx=>(q3 x hx).1,fun x hx=>(q4 x hx).1⟩,⟨t0,q1,q2,fun x hx=>(q3 x hx).2,fun x hx=>(q4 x hx).2,q5,q6⟩⟩
theorem slc_of{r:List D}(h:TySs 1048576 [.str,.slice 9 [.str],.slice 174 [.int .i64,.str,.int .i64,.int .i64,.int .i64,.int .i64,.int .i64,.str]] r):∃ a:Slc,r=a.row/\a.Ok/\a.Tx:=by
 obtain⟨x0,r,rfl,h0,h⟩:=ss_cons h
 obtain⟨x1,r,rfl,h1,h⟩:=ss_cons h
 obtain⟨x2,r,rfl,h2,h⟩:=ss_cons h
 obtain rfl:=ss_nil h
 obtain⟨v0,rfl,t0⟩:=str_of h0
 obtain⟨v1,rfl,l1,q1⟩:=ls_of h1 str_row_of
 obtain⟨v2,rfl,l2,q2⟩:=ls_of h2 node_of
 exact⟨⟨v0,v1,v2⟩,rfl,⟨l1,l2⟩,⟨t0,q1,q2⟩⟩
theorem config_of{r:List D}(h:TySs 1048576 [.str,.slice 93 [.str,.int .i64],.str,.bool,.slice 47 [.str,.slice 9 [.str],.slice 9 [.str],.slice 84 [.str,.bool,.slice 174 [.int .i64,.str,.int .i64,.int .i64,.int .i64,.int .i64,.int .i64,.str]],.slice 87 [.int .i64,.slice 9 [.str],.slice 174 [.int .i64,.str,.int .i64,.int .i64,.int .i64,.int .i64,.int .i64,.str],.slice 234 [.str,.int .i64],.slice 9 [.str]],.slice 49 [.int .i64,.int .i64,.str],.slice 49 [.int .i64,.int .i64,.str]],.slice 41 [.str,.str,.int .i64],.slice 89 [.str,.slice 9 [.str],.slice 174 [.int .i64,.str,.int .i64,.int .i64,.int .i64,.int .i64,.int .i64,.str]]] r):∃ a:Config,r=a.row/\a.Ok/\a.Tx:=by
 obtain⟨x0,r,rfl,h0,h⟩:=ss_cons h
 obtain⟨x1,r,rfl,h1,h⟩:=ss_cons h
 obtain⟨x2,r,rfl,h2,h⟩:=ss_cons h
 obtain⟨x3,r,rfl,h3,h⟩:=ss_cons h
 obtain⟨x4,r,rfl,h4,h⟩:=ss_cons h
 obtain⟨x5,r,rfl,h5,h⟩:=ss_cons h
 obtain⟨x6,r,rfl,h6,h⟩:=ss_cons h
 obtain rfl:=ss_nil h
 obtain⟨v0,rfl,t0⟩:=str_of h0
 obtain⟨v1,rfl,l1,q1⟩:=ls_of h1 si_of
 obtain⟨v2,rfl,t2⟩:=str_of h2
 obtain⟨v3,rfl⟩:=bool_of h3
 obtain⟨v4,rfl,l4,q4⟩:=ls_of h4 box_of
 obtain⟨v5,rfl,l5,q5⟩:=ls_of h5 link_of
 obtain⟨v6,rfl,l6,q6⟩:=ls_of h6 slc_of
 exact⟨⟨v0,v1,v2,v3,v4,v5,v6⟩,rfl,⟨l1,l4,l5,l6,fun x hx=>(q4 x hx).1,fun x hx=>(q6 x hx).1⟩,⟨t0,q1,t2,fun x hx=>(q4 x hx).2,q5,fun x hx=>(q6 x hx).2⟩⟩
end Go.Proofs.YtnlingegeangmaaGreatDoor
namespace Go.Proofs.YtnlingegeangmaaGreatDoor
open Go Go.Vx
structure Tst where
 f:Str
 op:Int
 form:Int
 lo:Int
 hi:Int
 len:Int
 pat:Str
structure Nd where
 kind:Int
 t:Tst
structure Fd where
 name:Str
 bits:Int
@[reducible] def tcells(t:Tst):List D:=[.s t.f,.i .i64 t.op,.i .i64 t.form,.i .i64 t.lo,.i .i64 t.hi,.i .i64 t.len,.s t.pat]
@[reducible] def nrow(x:Nd):List D:=.i .i64 x.kind :: tcells x.t
@[reducible] def frow(x:Fd):List D:=[.s x.name,.i .i64 x.bits]
theorem eqTest:EqT Tryz.prog 172 [.s,.i .i64,.i .i64,.i .i64,.i .i64,.i .i64,.s]:=EqT.of_b tok (ti:=_) rfl rfl (by kernel_rfl)
end Go.Proofs.YtnlingegeangmaaGreatDoor
namespace Go.Proofs.YtnlingegeangmaaGreatDoor
open Go Go.Vx
def Ltr(b:UInt8):Prop:=b.toNat=95\/(97<=b.toNat/\b.toNat<=122)\/(65<=b.toNat/\b.toNat<=90)
def Dgt(b:UInt8):Prop:=48<=b.toNat/\b.toNat<=57
def nameAt(i:Nat)(b:UInt8):Prop:=Ltr b\/(i ≠ 0/\Dgt b)
def NameP(s:Str):Prop:=s ≠ []/\s.length<=24/\∀ (i:Nat) b,s[i]? = some b->nameAt i b
theorem b_ff{p:Prop}(h:¬ p):D.b False=D.b p:=by congr 1;exact propext ⟨False.elim,h⟩
theorem b_tt{p:Prop}(h:p):D.b True=D.b p:=by congr 1;exact propext ⟨fun _=>h,fun _=>trivial⟩
theorem name_step{s:Str}{i:Nat}{b:UInt8}(h:∀ (j:Nat) c,j<i->s[j]? = some c->nameAt j c)(hb:s[i]? = some b)(hn:nameAt i b):∀ (j:Nat) c,j<i+1->s[j]? = some c->nameAt j c:=by
 intro j c hj hc
 by_cases hji:j=i
 . subst hji;rw[hb] at hc;cases hc;exact hn
 . exact h j c (by omega) hc
theorem name_at(s:Str):FSpec Tryz.prog T 146 [.s s] (fun d _=>d = .b (NameP s)):=by
 refine FSpec.of_ok tok Tryz.func146 rfl Tryz.call146 (by simp) ?_
 (try (conv=>whnf));repeat' (first|refine Ok.seq ?_|((first|refine Ok.region tok ?_|refine Ok.cond ?_);conv=>whnf)|refine Ok.block ?_|((first|refine Ok.skip ?_|refine Ok.ret ?_);conv=>whnf)|(refine bI ?_ ?_<;>intro<;>(conv=>whnf)<;>(try (exfalso;omega)))|fail)
 all_goals first
  | (rename_i h
     refine Or.inl ?_;(conv=>whnf)
     exact b_ff fun hn=>hn.1 (by simpa using h))
  | (rename_i h
     refine Or.inl ?_;(conv=>whnf)
     exact b_ff fun hn=>absurd hn.2.1 (by omega))
  | skip
 rename_i h0 h1
 have hne:s ≠ []:=fun e=>h0 (by simpa using e)
 have hle:s.length<=24:=by omega
 refine Ok.loopU [0,14] [15] 0 0 (fun (i:Nat)=>[.i .i64 (i:Nat)]) (fun _ b=>b) (fun _ r=>r) (fun (i:Nat)=>i<=s.length/\∀ (j:Nat) c,j<i->s[j]? = some c->nameAt j c) (fun (i:Nat)=>s.length - i) (0) (⟨Nat.zero_le _,fun j c hj=>absurd hj (by omega)⟩) ?_;(conv=>whnf);refine⟨by ((conv=>whnf);first|rfl|(simp[envCat,tkL0,nrow,frow];done)|(simp[envCat,tkL0,nrow,frow];rw[IntKind.wrap_i64];omega)),?_⟩
 rintro i ⟨hi,hall⟩
 (conv=>whnf)
 by_cases hil:i<s.length
 . obtain⟨b,hb⟩:∃ b,s[i]? = some b:=⟨_,gEt0 hil⟩
   have hbI:s[((i:Nat):Int).toNat]? = some b:=hb
   have hb255:=b.toNat_lt
   (try (conv=>whnf));repeat' (first|refine Ok.seq ?_|((first|refine Ok.region tok ?_|refine Ok.cond ?_);conv=>whnf)|refine Ok.block ?_|((first|refine Ok.skip ?_|refine Ok.ret ?_|refine nI ?_|refine⟨_,by assumption,?_⟩);conv=>whnf)|(refine bI ?_ ?_<;>intro<;>(conv=>whnf)<;>(try (exfalso;omega)))|((first|refine aJ ?_|refine num_any ?_);conv=>whnf)|fail)
   all_goals first
    | (exfalso;omega)
    | (refine Or.inl ?_;(conv=>whnf)
       refine b_ff fun hn=>?_
       have:=hn.2.2 i b hb
       unfold nameAt Ltr Dgt at this
       omega)
    | (refine⟨i+1,by omega,⟨by omega,name_step hall hb ?_⟩,?_⟩
       . unfold nameAt Ltr Dgt
         omega
       . (conv=>whnf)
         rfl)
 . have hie:i=s.length:=by omega
   subst hie
   (try (conv=>whnf));repeat' (first|refine Ok.seq ?_|((first|refine Ok.region tok ?_|refine Ok.cond ?_|refine Ok.exit ?_|refine Ok.ret ?_);conv=>whnf)|(refine bI ?_ ?_<;>intro<;>(conv=>whnf)<;>(try (exfalso;omega)))|fail)
   all_goals first
    | (exfalso;omega)
    | (refine Or.inl ?_;(conv=>whnf)
       exact b_tt ⟨hne,hle,fun j c hc=>hall j c (gSm0.1 hc).1 hc⟩)
end Go.Proofs.YtnlingegeangmaaGreatDoor
namespace Go.Proofs.YtnlingegeangmaaGreatDoor
open Go Go.Vx
theorem fdrop_at{α:Type}{l:List α}{i:Nat}{x:α}(h:l[i]? = some x):l.drop i=x :: l.drop (i+1):=by
 obtain⟨h1,rfl⟩:=gSm0.1 h
 exact List.drop_eq_getElem_cons h1
def findI(nm:Str):List Fd->Nat->Int
 | [],_=>-1
 | f :: l,k=>if f.name=nm then (k:Int) else findI nm l (k+1)
theorem findI_ge(nm:Str):∀ (l:List Fd) (k:Nat),(0<=findI nm l k ↔ ∃ f ∈ l,f.name=nm)/\-1<=findI nm l k/\findI nm l k<(k+l.length:Nat)
 | [],k=>by simp[findI];omega
 | f :: l,k=>by
  unfold findI
  split
  . rename_i h
    refine⟨⟨fun _=>⟨f,by simp,h⟩,fun _=>by omega⟩,by omega,by simp;omega⟩
  . rename_i h
    obtain⟨h1,h2,h3⟩:=findI_ge nm l (k+1)
    refine⟨h1.trans ⟨fun⟨g,hg,e⟩=>⟨g,by simp[hg],e⟩,fun⟨g,hg,e⟩=>?_⟩,h2,by simp at h3 ⊢;omega⟩
    rcases List.mem_cons.1 hg with rfl|hg
    . exact absurd e h
    . exact⟨g,hg,e⟩
theorem find_at(l:List Fd)(r:List (List D))(nm:Str)(hl:l.length<=2000000):FSpec Tryz.prog T 147 [.lst 93 (l.map frow) r,.s nm] (fun d _=>d = .i .i64 (findI nm l 0)):=by
 have h1:(l.map frow).length=l.length:=by simp
 refine FSpec.of_ok tok Tryz.func147 rfl Tryz.call147 (by simp) ?_
 (try (conv=>whnf));repeat' (first|refine Ok.seq ?_|(refine Ok.region tok ?_;conv=>whnf)|refine Ok.block ?_|fail)
 refine Ok.loopU [1,7,8] [9] 0 0 (fun (i:Nat)=>[.i .i64 (i:Nat)]) (fun _ b=>b) (fun _ r=>r) (fun (i:Nat)=>i<=l.length/\findI nm l 0=findI nm (l.drop i) i) (fun (i:Nat)=>l.length - i) (0) (⟨Nat.zero_le _,rfl⟩) ?_;(conv=>whnf);refine⟨by ((conv=>whnf);first|rfl|(simp[envCat,tkL0,nrow,frow];done)|(simp[envCat,tkL0,nrow,frow];rw[IntKind.wrap_i64];omega)),?_⟩
 rintro i ⟨hi,hf⟩
 (conv=>whnf)
 by_cases hil:i<l.length
 . obtain⟨c,hc⟩:∃ c,l[i]? = some c:=⟨_,gEt0 hil⟩
   have hcI:l[((i:Nat):Int).toNat]? = some c:=hc
   rw[fdrop_at hc] at hf
   (try (conv=>whnf));repeat' (first|refine Ok.seq ?_|((first|refine Ok.region tok ?_|refine Ok.cond ?_);conv=>whnf)|refine Ok.block ?_|((first|refine Ok.skip ?_|refine Ok.ret ?_|refine nI ?_|refine ix _ (by assumption) ?_);conv=>whnf)|(refine bI ?_ ?_<;>intro<;>(conv=>whnf)<;>(try (exfalso;omega)))|fail)
   all_goals first
    | (exfalso;omega)
    | (rename_i h
       refine Or.inl ?_;(conv=>whnf)
       rw[hf]
       unfold findI
       rw[if_pos h]
       rfl)
    | (rename_i h
       refine⟨i+1,by omega,⟨by omega,?_⟩,?_⟩
       . rw[hf]
         conv=>lhs;unfold findI
         rw[if_neg h]
       . (conv=>whnf)
         rfl)
 . have hie:i=l.length:=by omega
   subst hie
   rw[List.drop_length] at hf
   (try (conv=>whnf));repeat' (first|refine Ok.seq ?_|((first|refine Ok.region tok ?_|refine Ok.cond ?_|refine Ok.exit ?_|refine Ok.ret ?_);conv=>whnf)|(refine bI ?_ ?_<;>intro<;>(conv=>whnf)<;>(try (exfalso;omega)))|fail)
   all_goals first
    | (exfalso;omega)
    | (refine Or.inl ?_;(conv=>whnf)
       rw[hf]
       rfl)
def badF(pre:List Fd)(f:Fd)(sum:Int):Prop:=
 ¬ NameP f.name\/f.name=[97,110,121]\/f.name=[110,111,110,101]\/(∃ g ∈ pre,g.name=f.name)\/f.bits<1\/32<f.bits\/256<sum+f.bits
open Classical in
noncomputable def chkFrom(all:List Fd):List Fd->Nat->Int->Int × Int
 | [],_,_=>(0,0)
 | f :: r,i,sum=>if badF (all.take i) f sum then (40,(i:Int)) else chkFrom all r (i+1) (sum+f.bits)
noncomputable def chkO(l:List Fd):Int × Int:=if 12<l.length then (2,0) else if l=[] then (40,0) else chkFrom l l 0 0
theorem chkFrom_bad{all:List Fd}{f:Fd}{r:List Fd}{i:Nat}{sum:Int}(h:badF (all.take i) f sum):chkFrom all (f :: r) i sum=(40,(i:Int)):=by unfold chkFrom;rw[if_pos h]
theorem chkFrom_ok{all:List Fd}{f:Fd}{r:List Fd}{i:Nat}{sum:Int}(h:¬ badF (all.take i) f sum):chkFrom all (f :: r) i sum=chkFrom all r (i+1) (sum+f.bits):=by conv=>lhs;unfold chkFrom;rw[if_neg h]
theorem chkO_long{l:List Fd}(h:12<l.length):chkO l=(2,0):=by unfold chkO;rw[if_pos h]
theorem chkO_nil{l:List Fd}(h:l.length=0):chkO l=(40,0):=by unfold chkO;rw[if_neg (by omega),if_pos (List.eq_nil_of_length_eq_zero h)]
theorem chkO_of{l:List Fd}(h:¬ 12<l.length)(h2:l.length ≠ 0):chkO l=chkFrom l l 0 0:=by unfold chkO;rw[if_neg h,if_neg (fun e=>h2 (by rw[e];rfl))]
theorem check_at(l:List Fd)(r:List (List D))(hl:l.length<=2000000):FSpec Tryz.prog T 118 [.lst 93 (l.map frow) r] (fun d _=>d = .tup [.i .i64 (chkO l).1,.i .i64 (chkO l).2]):=by
 have h1:(l.map frow).length=l.length:=by simp
 refine FSpec.of_ok tok Tryz.func118 rfl Tryz.call118 (by simp) ?_
 (try (conv=>whnf));repeat' (first|refine Ok.seq ?_|((first|refine Ok.region tok ?_|refine Ok.cond ?_);conv=>whnf)|refine Ok.block ?_|((first|refine Ok.skip ?_|refine Ok.ret ?_);conv=>whnf)|(refine bI ?_ ?_<;>intro<;>(conv=>whnf)<;>(try (exfalso;omega)))|fail)
 all_goals first
  | (rename_i h
     refine Or.inl ?_;(conv=>whnf)
     rw[chkO_long (by omega)]
     rfl)
  | (rename_i h
     refine Or.inl ?_;(conv=>whnf)
     rw[chkO_nil (by omega)]
     rfl)
  | skip
 rename_i h2 h3
 rw[chkO_of (by omega) (by omega)]
 refine Ok.loopU [0,13,14] [4,15] 0 0 (fun (x:Nat × Int)=>[.i .i64 x.2,.i .i64 (x.1:Nat)]) (fun _ b=>b) (fun _ r=>r) (fun (x:Nat × Int)=>x.1<=l.length/\0<=x.2/\x.2<=256/\chkFrom l l 0 0=chkFrom l (l.drop x.1) x.1 x.2) (fun (x:Nat × Int)=>l.length - x.1) ((0,0)) (⟨Nat.zero_le _,by omega,by omega,rfl⟩) ?_;(conv=>whnf);refine⟨by ((conv=>whnf);first|rfl|(simp[envCat,tkL0,nrow,frow];done)|(simp[envCat,tkL0,nrow,frow];rw[IntKind.wrap_i64];omega)),?_⟩
 rintro⟨i,sum⟩ ⟨hi,hs0,hs1,hf⟩
 dsimp only at hi hs0 hs1 hf ⊢
 (conv=>whnf)
 by_cases hil:i<l.length
 . obtain⟨c,hc⟩:∃ c,l[i]? = some c:=⟨_,gEt0 hil⟩
   have hcI:l[((i:Nat):Int).toNat]? = some c:=hc
   rw[fdrop_at hc] at hf
   have hfg:=findI_ge c.name (l.take i) 0
   have hfa:=fun r=>find_at (l.take i) r c.name (by simp;omega)
   have hmt:(l.take i).map frow=((l.map frow++r).take i).drop 0:=by rw[List.drop_zero,List.take_append_of_le_length (by omega),List.map_take]
   (try (conv=>whnf));repeat' (first|(refine⟨(l.take i).map frow,_,hmt,rfl,?_⟩;conv=>whnf)|refine Ok.seq ?_|((first|refine Ok.region tok ?_|refine Ok.region_draw tok follows (by kernel_rfl) ?_|refine Ok.cond ?_);conv=>whnf)|refine Ok.block ?_|((first|refine Ok.skip ?_|refine Ok.ret ?_|refine nI ?_|refine ix _ (by assumption) ?_|refine⟨_,name_at c.name,rfl,?_⟩|refine⟨_,hfa _,rfl,?_⟩|refine⟨_,_,rfl,rfl,?_⟩);conv=>whnf)|(refine bI ?_ ?_<;>intro<;>(conv=>whnf)<;>(try (exfalso;omega)))|(refine aJ ?_;conv=>whnf)|fail)
   all_goals first
    | (exfalso;omega)
    | (refine Or.inl ?_;(conv=>whnf)
       rw[hf,chkFrom_bad (show badF (l.take i) c sum from by
        unfold badF
        first
         | exact .inl (by assumption)
         | exact .inr (.inl (by assumption))
         | exact .inr (.inr (.inl (by assumption)))
         | exact .inr (.inr (.inr (.inl (hfg.1.1 (by assumption)))))
         | exact .inr (.inr (.inr (.inr (by omega)))))]
       rfl)
    | skip
   all_goals
    refine⟨(i+1,sum+c.bits),by dsimp only;omega,⟨by dsimp only;omega,by dsimp only;omega,by dsimp only;omega,?_⟩,?_⟩
   . rw[hf]
     refine chkFrom_ok fun hb=>?_
     rcases hb with h|h|h|h|h
     . exact absurd h (by assumption)
     . exact absurd h (by assumption)
     . exact absurd h (by assumption)
     . exact absurd (hfg.1.2 h) (by assumption)
     . omega
   . (conv=>whnf)
     rfl
 . have hie:i=l.length:=by omega
   subst hie
   rw[List.drop_length] at hf
   (try (conv=>whnf));repeat' (first|refine Ok.seq ?_|((first|refine Ok.region tok ?_|refine Ok.cond ?_|refine Ok.exit ?_|refine Ok.ret ?_);conv=>whnf)|(refine bI ?_ ?_<;>intro<;>(conv=>whnf)<;>(try (exfalso;omega)))|fail)
   all_goals first
    | (exfalso;omega)
    | (refine Or.inl ?_;(conv=>whnf)
       rw[hf]
       rfl)
end Go.Proofs.YtnlingegeangmaaGreatDoor
namespace Go.Proofs.YtnlingegeangmaaGreatDoor
open Go Go.Vx
def bitC(v k:Nat):UInt8:=if v / 2 ^ k % 2=1 then 49 else 48
def binT(v bits n:Nat):Str:=(List.range n).map fun i=>bitC v (bits - 1 - i)
def xsT(n:Nat):Str:=List.replicate n 120
def pfxT(v bits n:Nat):Str:=binT v bits n++xsT (bits - n)
theorem binT_len(v bits n:Nat):(binT v bits n).length=n:=by simp[binT]
theorem xsT_len(n:Nat):(xsT n).length=n:=by simp[xsT]
theorem pfxT_len{v bits n:Nat}(h:n<=bits):(pfxT v bits n).length=bits:=by rw[pfxT,List.length_append,binT_len,xsT_len];omega
def freeF(bits lo H:Nat):Nat->Nat->Nat
 | 0,f=>f
 | k+1,f=>if f<bits/\lo % 2 ^ (f+1)=0/\lo+2 ^ (f+1)<=H then freeF bits lo H k (f+1) else f
def coverF(bits H:Nat):Nat->Nat->List Str
 | 0,_=>[]
 | k+1,lo=>if lo<H then pfxT lo bits (bits - freeF bits lo H bits 0) :: coverF bits H k (lo+2 ^ freeF bits lo H bits 0) else []
def halvesF(bits lo H:Nat):Nat->Nat->List Str
 | 0,base=>if lo<=base/\base+1<=H then [pfxT base bits bits] else []
 | d+1,base=>if lo<=base/\base+2 ^ (d+1)<=H then [pfxT base bits (bits - (d+1))] else if H<=base\/base+2 ^ (d+1)<=lo then [] else halvesF bits lo H d base++halvesF bits lo H d (base+2 ^ d)
theorem freeF_eq{bits lo H d:Nat}(hd:d<=bits)(h1:∀ g,g<d->lo % 2 ^ (g+1)=0/\lo+2 ^ (g+1)<=H)(h2:¬ (d<bits/\lo % 2 ^ (d+1)=0/\lo+2 ^ (d+1)<=H)) :
    ∀ (k f:Nat),f<=d->d - f<=k->freeF bits lo H k f=d
 | 0,f,hf,hk=>by unfold freeF;omega
 | k+1,f,hf,hk=>by
  unfold freeF
  by_cases hfd:f=d
  . subst hfd;rw[if_neg h2]
  . rw[if_pos ⟨by omega,h1 f (by omega)⟩]
    exact freeF_eq hd h1 h2 k (f+1) (by omega) (by omega)
theorem coverF_fuel(bits H:Nat):∀ (k lo:Nat),H - lo<=k->coverF bits H k lo=coverF bits H (H - lo) lo
 | 0,lo,h=>by rw[show H - lo=0 by omega]
 | k+1,lo,h=>by
  by_cases hlt:lo<H
  . obtain⟨m,hm⟩:∃ m,H - lo=m+1:=⟨H - lo - 1,by omega⟩
    rw[hm]
    unfold coverF
    rw[if_pos hlt,if_pos hlt]
    have hp:0<2 ^ freeF bits lo H bits 0:=Nat.two_pow_pos _
    rw[coverF_fuel bits H k _ (by omega),<- coverF_fuel bits H m _ (by omega)]
  . rw[show H - lo=0 by omega]
    unfold coverF
    rw[if_neg hlt]
def coverC(bits H lo:Nat):List Str:=coverF bits H (H - lo) lo
theorem coverC_step{bits H lo:Nat}(h:lo<H):coverC bits H lo=pfxT lo bits (bits - freeF bits lo H bits 0) :: coverC bits H (lo+2 ^ freeF bits lo H bits 0):=by
 unfold coverC
 obtain⟨m,hm⟩:∃ m,H - lo=m+1:=⟨H - lo - 1,by omega⟩
 rw[hm]
 conv=>lhs;unfold coverF
 rw[if_pos h]
 have hp:0<2 ^ freeF bits lo H bits 0:=Nat.two_pow_pos _
 rw[coverF_fuel bits H m _ (by omega)]
theorem coverC_end{bits H lo:Nat}(h:H<=lo):coverC bits H lo=[]:=by
 unfold coverC
 rw[show H - lo=0 by omega]
 rfl
theorem mod_pow_le{x g d:Nat}(h:x % 2 ^ d=0)(hg:g<=d):x % 2 ^ g=0:=
 Nat.mod_eq_zero_of_dvd (Nat.dvd_trans (Nat.pow_dvd_pow 2 hg) (Nat.dvd_of_mod_eq_zero h))
theorem cover_halves{bits lo H:Nat}(hH:H<=2 ^ bits):∀ (d base:Nat),d<=bits->base % 2 ^ d=0 ->
    (d=bits\/∃ par,(par=base\/par+2 ^ d=base)/\par % 2 ^ (d+1)=0/\¬ (lo<=par/\par+2 ^ (d+1)<=H)) ->
    coverC bits H (max lo base)=halvesF bits lo H d base++coverC bits H (max lo (base+2 ^ d)):=by
 have cov:∀ (d base:Nat),d<=bits->base % 2 ^ d=0->(d=bits\/∃ par,(par=base\/par+2 ^ d=base)/\par % 2 ^ (d+1)=0/\¬ (lo<=par/\par+2 ^ (d+1)<=H)) ->
     lo<=base->base+2 ^ d<=H->coverC bits H (max lo base)=pfxT base bits (bits - d) :: coverC bits H (max lo (base+2 ^ d)):=by
  intro d base hd hb hp h1 h2
  have hpos:0<2 ^ d:=Nat.two_pow_pos _
  have hfree:freeF bits base H bits 0=d:=by
   refine freeF_eq hd (fun g hg=>⟨mod_pow_le hb (by omega),?_⟩) ?_ bits 0 (by omega) (by omega)
   . have:=Nat.pow_le_pow_right (show 0<2 by decide) (show g+1<=d by omega)
     omega
   . rintro⟨k1,k2,k3⟩
     rcases hp with rfl|⟨par,rfl|hpar,hm,hn⟩
     . omega
     . exact hn ⟨h1,k3⟩
     . have e1:2 ^ (d+1)=2 ^ d+2 ^ d:=by rw[Nat.pow_succ];omega
       obtain⟨q,hq⟩:=Nat.dvd_of_mod_eq_zero hm
       rw[<- hpar,hq,Nat.mul_add_mod,Nat.mod_eq_of_lt (by omega)] at k2
       omega
  rw[Nat.max_eq_right h1,Nat.max_eq_right (by omega),coverC_step (by omega),hfree]
 intro d
 induction d with
 | zero=>
  intro base hd hb hp
  unfold halvesF
  split
  . rename_i h
    rw[cov 0 base hd hb hp h.1 (by simpa using h.2)]
    simp
  . rename_i h
    by_cases h1:H<=base
    . rw[coverC_end (show H<=max lo base by omega),coverC_end (show H<=max lo (base+2 ^ 0) by omega)]
      rfl
    . have:max lo base=max lo (base+2 ^ 0):=by simp;omega
      rw[this]
      rfl
 | succ d ih=>
  intro base hd hb hp
  have e1:2 ^ (d+1)=2 ^ d+2 ^ d:=by rw[Nat.pow_succ];omega
  unfold halvesF
  split
  . rename_i h
    rw[cov (d+1) base hd hb hp h.1 h.2]
    rfl
  . rename_i h
    split
    . rename_i h1
      rcases h1 with h1|h1
      . rw[coverC_end (show H<=max lo base by omega),coverC_end (show H<=max lo (base+2 ^ (d+1)) by omega)]
        rfl
      . rw[show max lo base=max lo (base+2 ^ (d+1)) by omega]
        rfl
    . rename_i h1
      rw[ih base (by omega) (mod_pow_le hb (by omega)) (.inr ⟨base,.inl rfl,hb,h⟩)]
      have hb2:(base+2 ^ d) % 2 ^ d=0:=by rw[Nat.add_mod_right];exact mod_pow_le hb (by omega)
      rw[ih (base+2 ^ d) (by omega) hb2 (.inr ⟨base,.inr rfl,hb,h⟩),<- List.append_assoc]
      rw[show base+2 ^ d+2 ^ d=base+2 ^ (d+1) by omega]
theorem cover_is_halves{bits lo H:Nat}(hH:H<=2 ^ bits):coverC bits H lo=halvesF bits lo H bits 0:=by
 have:=cover_halves (lo:=lo) hH bits 0 (Nat.le_refl _) (by simp) (.inl rfl)
 rw[coverC_end (show H<=max lo (0+2 ^ bits) by omega),List.append_nil,Nat.max_eq_left (Nat.zero_le _)] at this
 exact this
theorem halves_none{bits lo H:Nat}:∀ (d base:Nat),H<=base\/base+2 ^ d<=lo->halvesF bits lo H d base=[]
 | 0,base,h=>by unfold halvesF;rw[if_neg (by simp at h;omega)]
 | d+1,base,h=>by
  unfold halvesF
  have hp:0<2 ^ (d+1):=Nat.two_pow_pos _
  rw[if_neg (by omega),if_pos h]
theorem halves_full{bits lo H:Nat}:∀ (d base:Nat),lo<=base->base+2 ^ d<=H->(halvesF bits lo H d base).length=1
 | 0,base,h1,h2=>by unfold halvesF;rw[if_pos ⟨h1,by simpa using h2⟩];rfl
 | d+1,base,h1,h2=>by unfold halvesF;rw[if_pos ⟨h1,h2⟩];rfl
theorem halves_side{bits lo H:Nat}:∀ (d base:Nat),lo<=base\/base+2 ^ d<=H->(halvesF bits lo H d base).length<=d+1
 | 0,base,h=>by unfold halvesF;split<;>simp
 | d+1,base,h=>by
  have e1:2 ^ (d+1)=2 ^ d+2 ^ d:=by rw[Nat.pow_succ];omega
  unfold halvesF
  split
  . simp
  . rename_i hc
    split
    . simp
    . rename_i hn
      rw[List.length_append]
      rcases h with h|h
      . by_cases hb:base+2 ^ d<=H
        . have:=halves_full (bits:=bits) d base h hb
          have:=halves_side (bits:=bits) (lo:=lo) (H:=H) d (base+2 ^ d) (.inl (by omega))
          omega
        . rw[halves_none d (base+2 ^ d) (.inl (by omega))]
          have:=halves_side (bits:=bits) (lo:=lo) (H:=H) d base (.inl h)
          simp;omega
      . by_cases hb:lo<=base+2 ^ d
        . have:=halves_full (bits:=bits) (H:=H) d (base+2 ^ d) hb (by omega)
          have:=halves_side (bits:=bits) (lo:=lo) (H:=H) d base (.inr (by omega))
          omega
        . rw[halves_none d base (.inr (by omega))]
          have:=halves_side (bits:=bits) (lo:=lo) (H:=H) d (base+2 ^ d) (.inr (by omega))
          simp;omega
theorem halves_len{bits lo H:Nat}:∀ (d base:Nat),(halvesF bits lo H d base).length<=2*d+2
 | 0,base=>by unfold halvesF;split<;>simp
 | d+1,base=>by
  have e1:2 ^ (d+1)=2 ^ d+2 ^ d:=by rw[Nat.pow_succ];omega
  unfold halvesF
  split
  . simp
  . rename_i hc
    split
    . simp
    . rename_i hn
      rw[List.length_append]
      by_cases h1:base+2 ^ d<=H
      . by_cases h2:lo<=base+2 ^ d
        . have:=halves_side (bits:=bits) (lo:=lo) (H:=H) d base (.inr h1)
          have:=halves_side (bits:=bits) (lo:=lo) (H:=H) d (base+2 ^ d) (.inl h2)
          omega
        . rw[halves_none d base (.inr (by omega))]
          have:=halves_len (bits:=bits) (lo:=lo) (H:=H) d (base+2 ^ d)
          simp;omega
      . rw[halves_none d (base+2 ^ d) (.inl (by omega))]
        have:=halves_len (bits:=bits) (lo:=lo) (H:=H) d base
        simp;omega
theorem coverC_len{bits lo H:Nat}(hH:H<=2 ^ bits):(coverC bits H lo).length<=2*bits+2:=by
 rw[cover_is_halves hH];exact halves_len _ _
end Go.Proofs.YtnlingegeangmaaGreatDoor
namespace Go.Proofs.YtnlingegeangmaaGreatDoor
open Go Go.Vx
def tw(b:Nat):Nat:=2 ^ b
theorem tw_pos(b:Nat):0<tw b:=Nat.two_pow_pos b
theorem tw62{k:Nat}(h:k<=62):tw k<=4611686018427387904:=Nat.pow_le_pow_right (show 0<2 by decide) h
theorem tw_mono{j k:Nat}(h:j<=k):tw j<=tw k:=Nat.pow_le_pow_right (show 0<2 by decide) h
theorem wrap_nat{x:Nat}(h:x<9223372036854775808):IntKind.i64.wrap (x:Int)=(x:Int):=by rw[IntKind.wrap_i64];omega
theorem shl_i{p:Int->Prop}{b:Int}{k:Nat}(hb:b=(k:Int)/\k<=62)(h:p (tw k:Int)):∃ n,n=IntKind.i64.wrap (1*2 ^ (min b.toNat IntKind.i64.bits))/\p n:=by
 obtain⟨rfl,hk⟩:=hb
 refine⟨_,?_,h⟩
 have e1:min ((k:Int).toNat) IntKind.i64.bits=k:=by show min k 64=k;omega
 have e2:(1*2 ^ k:Int)=(tw k:Int):=by unfold tw;simp
 rw[e1,e2,wrap_nat (by have:=tw62 hk;omega)]
theorem shr_i{p:Int->Prop}{a b:Int}{v k:Nat}(ha:a=(v:Int))(hb:b=(k:Int)/\k<=62)(h:p ((v / tw k:Nat):Int)):∃ n,n=a.fdiv (2 ^ (min b.toNat IntKind.i64.bits))/\p n:=by
 obtain⟨rfl,hk⟩:=hb
 subst ha
 refine⟨_,?_,h⟩
 have e1:min ((k:Int).toNat) IntKind.i64.bits=k:=by show min k 64=k;omega
 rw[e1,Int.fdiv_eq_ediv_of_nonneg _ (by exact Int.pow_nonneg (by decide))]
 unfold tw
 simp
end Go.Proofs.YtnlingegeangmaaGreatDoor
