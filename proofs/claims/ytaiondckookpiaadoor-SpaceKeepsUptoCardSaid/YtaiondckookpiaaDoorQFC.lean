/- The walks and the plain laws that a law of spaces needs, part 3 of 5. -/
import Derived.Test.YtaiondckookpiaaDoorQFB
import Derived.Scope
import Derived.WalkSmall
import Derived.Defers
import Derived.Recover
import Derived.Shelf.SlSortFuncK.WholeK
import Derived.Shelf.GgSortFunc.Tiny
import Derived.Test.YtaiondckookpiaaDoorProg
import Derived.KernelRfl
import Derived.Shelf.Strings.Builder1
import Derived.Shelf.Strings.Split
import Derived.Ground.GgsProg
import Derived.Deep.QuietTactic
import Derived.Lib.RowBridge
import Derived.Lib.SortBridge
set_option linter.unusedVariables false
set_option linter.unusedSimpArgs false
namespace Go.Proofs.YtaiondckookpiaaDoor
open Go Go.Vx
theorem word_nz{x:BitVec 64}:((x.toNat:Int) ≠ 0) ↔ ∃ i,i<64/\x.getLsbD i=true:=by
 constructor
 . intro h
   apply Classical.byContradiction
   intro hn
   apply h
   have:x=0#64:=BitVec.eq_of_getLsbD_eq fun i hi=>by
    cases hx:x.getLsbD i
    . simp
    . exact absurd ⟨i,hi,hx⟩ hn
   rw[this]
   rfl
 . rintro⟨i,hi,h⟩ h0
   have:x=0#64:=BitVec.eq_of_toNat_eq (by simpa using h0)
   rw[this] at h
   simp at h
def dig(b:UInt8):Bool:=b == 48 || b == 49
def car(t:Str)(i:Nat):Bool:=match t[i]? with|some b=>dig b|none=>false
def one(t:Str)(i:Nat):Bool:=match t[i]? with|some b=>b == 49|none=>false
@[reducible] def cells9(n:Nat)(c o:Nat->Bool):List D:=[.i .i64 (n:Int),.i .u64 ((wof c 0).toNat:Int),.i .u64 ((wof c 1).toNat:Int),.i .u64 ((wof c 2).toNat:Int),.i .u64 ((wof c 3).toNat:Int),.i .u64 ((wof o 0).toNat:Int),.i .u64 ((wof o 1).toNat:Int),.i .u64 ((wof o 2).toNat:Int),.i .u64 ((wof o 3).toNat:Int)]
@[reducible] def crow(t:Str):List D:=cells9 t.length (car t) (one t)
structure CT(t:Str):Prop where
 len:t.length<=256
 cub:∀ b ∈ t,b=48\/b=49\/b=120
theorem CT.nil:CT []:=⟨by simp,by simp⟩
theorem crow_nil:crow []=[.i .i64 0,.i .u64 0,.i .u64 0,.i .u64 0,.i .u64 0,.i .u64 0,.i .u64 0,.i .u64 0,.i .u64 0]:=by
 have h:∀ k,wof (car []) k=0#64:=fun k=>BitVec.eq_of_getLsbD_eq fun i hi=>by rw[wof_get _ _ _ hi];simp[car]
 have h2:∀ k,wof (one []) k=0#64:=fun k=>BitVec.eq_of_getLsbD_eq fun i hi=>by rw[wof_get _ _ _ hi];simp[one]
 simp[h,h2]
theorem car_lt{t:Str}{i:Nat}(h:car t i=true):i<t.length:=by
 unfold car at h
 split at h
 . rename_i b hb;exact (List.getElem?_eq_some_iff.1 hb).1
 . cases h
theorem words_eq{f g:Nat->Bool}(h0:wof f 0=wof g 0)(h1:wof f 1=wof g 1)(h2:wof f 2=wof g 2)(h3:wof f 3=wof g 3):∀ i,i<256->f i=g i:=by
 intro i hi
 have e0:=wof_eq.1 h0
 have e1:=wof_eq.1 h1
 have e2:=wof_eq.1 h2
 have e3:=wof_eq.1 h3
 by_cases c0:i<64
 . have:=e0 i c0;rwa [show 64*0+i=i by omega] at this
 by_cases c1:i<128
 . have:=e1 (i - 64) (by omega);rwa [show 64*1+(i - 64)=i by omega] at this
 by_cases c2:i<192
 . have:=e2 (i - 128) (by omega);rwa [show 64*2+(i - 128)=i by omega] at this
 . have:=e3 (i - 192) (by omega);rwa [show 64*3+(i - 192)=i by omega] at this
theorem ct_ext{t u:Str}(ht:CT t)(hu:CT u)(hl:t.length=u.length)(hc:∀ i,i<256->car t i=car u i)(ho:∀ i,i<256->one t i=one u i):t=u:=by
 refine List.ext_getElem? fun i=>?_
 by_cases hi:i<t.length
 . have h1:t[i]? = some t[i]:=List.getElem?_eq_getElem hi
   have h2:u[i]? = some u[i]:=List.getElem?_eq_getElem (by omega)
   have hi2:i<256:=by have:=ht.len;omega
   have c:=hc i hi2
   have o:=ho i hi2
   unfold car at c
   unfold one at o
   rw[h1,h2] at c o ⊢
   simp only[] at c o
   have k1:=ht.cub t[i] (List.getElem_mem hi)
   have k2:=hu.cub u[i] (List.getElem_mem (by omega))
   rcases k1 with k1|k1|k1<;>rcases k2 with k2|k2|k2<;>rw[k1,k2] at c o ⊢<;>simp[dig] at c o
 . rw[List.getElem?_eq_none (by omega),List.getElem?_eq_none (by omega)]
theorem crow_inj{t u:Str}(ht:CT t)(hu:CT u)(h:eqDs (crow t) (crow u)):t=u:=by
 have key:∀ {x y:BitVec 64},(x.toNat:Int)=(y.toNat:Int)->x=y:=fun h=>BitVec.eq_of_toNat_eq (by omega)
 simp only[eqDs,eqD] at h
 obtain⟨hl,c0,c1,c2,c3,o0,o1,o2,o3⟩:=h
 exact ct_ext ht hu (by omega) (words_eq (key c0) (key c1) (key c2) (key c3)) (words_eq (key o0) (key o1) (key o2) (key o3))
theorem eqDs_self(t:Str):eqDs (crow t) (crow t):=by simp[eqDs,eqD]
theorem put_word{f g:Nat->Bool}{i q r:Nat}(hi:i=64*q+r)(hr:r<64)(hg:∀ j,g j=(f j || decide (j=i)))(k:Nat):wof g k=if k=q then wof f k ||| 1#64 <<< r else wof f k:=by
 refine BitVec.eq_of_getLsbD_eq fun j hj=>?_
 rw[wof_get _ _ _ hj,hg]
 split
 . rename_i hk
   subst hk
   rw[BitVec.getLsbD_or,wof_get _ _ _ hj,BitVec.getLsbD_shiftLeft,BitVec.getLsbD_one]
   congr 1
   by_cases hjr:j=r
   . subst hjr;simp[hi,hj]
   . have h1:¬ 64*k+j=i:=by omega
     have h2:¬ (j - r=0/\¬ j<r):=by omega
     simp[h1,hj]
     omega
 . rename_i hk
   rw[wof_get _ _ _ hj]
   have h1:¬ 64*k+j=i:=by omega
   simp[h1]
theorem take_get{t:Str}{i:Nat}{b:UInt8}(h:t[i]? = some b)(j:Nat):(t.take (i+1))[j]? = if j=i then some b else (t.take i)[j]?:=by
 rw[List.getElem?_take,List.getElem?_take]
 by_cases hj:j=i
 . subst hj;simp[h]
 . by_cases h2:j<i
   . simp[hj,h2,show j<i+1 by omega]
   . simp[hj,h2,show ¬ j<i+1 by omega]
theorem car_at_end(t:Str)(i:Nat):car (t.take i) i=false:=by
 unfold car
 rw[List.getElem?_take]
 simp
theorem one_at_end(t:Str)(i:Nat):one (t.take i) i=false:=by
 unfold one
 rw[List.getElem?_take]
 simp
theorem car_put{t:Str}{i:Nat}{b:UInt8}(h:t[i]? = some b)(hd:dig b=true)(j:Nat):car (t.take (i+1)) j=(car (t.take i) j || decide (j=i)):=by
 by_cases hj:j=i
 . subst hj
   rw[car_at_end]
   unfold car
   rw[take_get h]
   simp[hd]
 . unfold car
   rw[take_get h]
   simp[hj]
theorem one_put{t:Str}{i:Nat}(h:t[i]? = some 49)(j:Nat):one (t.take (i+1)) j=(one (t.take i) j || decide (j=i)):=by
 by_cases hj:j=i
 . subst hj
   rw[one_at_end]
   unfold one
   rw[take_get h]
   simp
 . unfold one
   rw[take_get h]
   simp[hj]
theorem car_same{t:Str}{i:Nat}{b:UInt8}(h:t[i]? = some b)(hd:dig b=false)(k:Nat):wof (car (t.take (i+1))) k=wof (car (t.take i)) k:=by
 refine wof_ext fun j _=>?_
 generalize 64*k+j=m
 by_cases hj:m=i
 . subst hj
   rw[car_at_end]
   unfold car
   rw[take_get h]
   simp[hd]
 . unfold car
   rw[take_get h]
   simp[hj]
theorem one_same{t:Str}{i:Nat}{b:UInt8}(h:t[i]? = some b)(hd:b ≠ 49)(k:Nat):wof (one (t.take (i+1))) k=wof (one (t.take i)) k:=by
 refine wof_ext fun j _=>?_
 generalize 64*k+j=m
 by_cases hj:m=i
 . subst hj
   rw[one_at_end]
   unfold one
   rw[take_get h]
   simp[hd]
 . unfold one
   rw[take_get h]
   simp[hj]
theorem at_word{f:Nat->Bool}{i q r:Nat}(hi:i=64*q+r)(hr:r<64):((((wof f q) >>> r) &&& 1#64).toNat:Int)=1 ↔ f i=true:=by
 rw[bit_at,wof_get _ _ _ hr,hi]
theorem split64(i:Nat)(h:i<256):∃ q r,i=64*q+r/\r<64/\(q=0\/q=1\/q=2\/q=3):=⟨i / 64,i % 64,by omega,by omega,by omega⟩
end Go.Proofs.YtaiondckookpiaaDoor
namespace Go.Vx
open Go.RowKit
inductive Pl where|nil|q (i:Nat) (r:Pl)|l (i:Nat) (r:Pl)|alt (i:Nat) (a r:Pl)
def Pl.heads:Pl->List Nat|.alt i _ r=>i :: r.heads|_=>[]
def Pl.depth:Pl->Nat|.nil=>0|.q _ r=>r.depth+1|.l _ r=>r.depth+1|.alt _ a _=>a.depth+1
def planT(ops:Array Oper):Pl->Bool->Nat->Array Bool->Bool
 | .nil,f,_,listed=>f || (Region.ready .any ops listed).isEmpty
 | .q i r,f,_,listed=>!f && (Region.ready .any ops listed).contains i && Region.free .any ops listed i && ((ops[i]?).map isQ).getD false && planT ops r false 0 (listed.setIfInBounds i true)
 | .l i r,f,_,listed=>!f && (Region.ready .any ops listed) == [i] && planT ops r false 0 (listed.setIfInBounds i true)
 | .alt i a r,f,n,listed=>(match f with|true=>Nat.beq a.depth n|false=>(Region.ready .any ops listed) == i :: r.heads) && (Region.ready .any ops listed).contains i && planT ops a false 0 (listed.setIfInBounds i true) && planT ops r true a.depth listed
def planTok(ops:Array Oper)(A:Waits)(p:Pl):Bool:=
 Region.noSelect ops && waitsB ops A && (p.depth == ops.size) && planT ops p false 0 (Array.replicate ops.size false)
def dopsT(P:Program)(T:Tab)(ops:List Oper)(A:Waits):Pl->Bool->List (Nat × Src)->St->(St->Prop)->Prop
 | .nil,f,_,s,K=>match f with|true=>True|false=>K s
 | .q i r,_,ps,s,K=>match ops[i]? with
  | none=>False
  | some o=>wantK ops s o.guard
   (fun s=>qop P T s o fun d s'=>putK s' o.dst d fun s'=>dopsT P T ops A r false ((i,srcQ s o) :: ps) s' K)
   (fun s=>putK s o.dst (.tup []) fun s=>dopsT P T ops A r false ((i,.none) :: ps) s K)
 | .l i r,_,ps,s,K=>match ops[i]? with
  | none=>False
  | some o=>wantK ops s o.guard
   (fun s=>clearK (befW A) i s (effOf s o) ps <| dop P T s o fun d s=>putK s o.dst d fun s=>dopsT P T ops A r false (filterP (befW A) i ps) s K)
   (fun s=>putK s o.dst (.tup []) fun s=>dopsT P T ops A r false (filterP (befW A) i ps) s K)
 | .alt i a r,_,ps,s,K=>(match ops[i]? with
  | none=>False
  | some o=>wantK ops s o.guard
   (fun s=>clearK (befW A) i s (effOf s o) ps <| dop P T s o fun d s=>putK s o.dst d fun s=>dopsT P T ops A a false (filterP (befW A) i ps) s K)
   (fun s=>putK s o.dst (.tup []) fun s=>dopsT P T ops A a false (filterP (befW A) i ps) s K))/\dopsT P T ops A r true ps s K
section
variable {w0 w w' : World} {V0 : Fr} {V : Vw} {μ : List Nat} {ω : List Value} {s : St} {a : Act} {P : Program} {T : Tab}
theorem dopsT_sound(hT:TOk P T){ops:List Oper}{A:Waits}(hns:Region.noSelect ops.toArray=true)(hA:waitsB ops.toArray A=true){Q:Exit->Act->World->Prop}(hQ:∀ c a w,¬ Q (.panic c) a w) :
    ∀ (p:Pl) (f:Bool) (n:Nat) (listed:Array Bool) (ps:Pends) (sps:List (Nat × Src)) (s:St) (V:Vw) (μ:List Nat) (ω:List Value) (a:Act) (w:World) (K:St->Prop),
     planT ops.toArray p f n listed=true->Closed ops.toArray listed->Sim (szOf T) w0 V0 V μ ω s a w->All2 (PendOK V μ ω w) ps sps->dopsT P T ops A p f sps s K ->
     (∀ s V μ ω a w,K s->Sim (szOf T) w0 V0 V μ ω s a w->Q .normal a w) ->
     match f with
     | false=>wpAnyP P ops.toArray (befW A) Q p.depth ps listed a w
     | true=>∀ j ∈ p.heads,wpOp P ops.toArray Q j (fun a' w'=>(∀ x ∈ ps,befW A x.1 j=false->x.2 w')/\wpAnyP P ops.toArray (befW A) Q n (ps.filter fun x=>!befW A x.1 j) (listed.setIfInBounds j true) a' w') a w
 | .nil,f,n,listed,ps,sps,s,V,μ,ω,a,w,K,hB,hcl,hS,hps,h,hq=>by
  cases f with
  | true=>intro j hj;cases hj
  | false=>exact⟨by simpa[planT] using hB,hq _ _ _ _ _ _ h hS⟩
 | .q i r,f,n,listed,ps,sps,s,V,μ,ω,a,w,K,hB,hcl,hS,hps,h,hq=>by
  cases f with
  | true=>intro j hj;cases hj
  | false=>
  simp only[planT,Bool.not_false,Bool.true_and,Bool.and_eq_true] at hB
  obtain⟨⟨⟨hr,hf⟩,hq1⟩,hB⟩:=hB
  simp only[dopsT] at h
  cases ho:ops[i]? with
  | none=>rw[ho] at h;exact h.elim
  | some o=>
   rw[ho] at h
   dsimp only at h
   have ho':ops.toArray[i]? = some o:=by simpa using ho
   rw[ho'] at hq1
   have hri:i ∈ Region.ready .any ops.toArray listed:=by simpa using hr
   have hall:∀ x ∈ ps,x.2 w:=fun x hx=>let ⟨y,hy⟩:=hps.left x hx;hy.mono_
   rcases wantK_sound (o:=o) hS h with⟨hw,s1,h,hS⟩|⟨hw,s1,h,hS⟩
   . obtain⟨d,v,s2,h,hr2,hS2,p,n,hsrc,hq2⟩:=qop_sound hT hS h
     obtain⟨s3,h,hS3⟩:=putK_sound hS2 hr2 h
     refine wpAnyP_first (C:=KeepN p n w) (v:=v) (fun i j=>befW_spec hA i j) ho' (Region.noSelect_spec hns) (fun c a w hc=>absurd hc (hQ _ _ _)) r.depth ps listed a w hcl (Region.free_spec ho' hf) hri
      (.inl ⟨hw,fun w' hk=>quiet_value (by simpa using hq1) (hq2 w' ?_)⟩) (fun _ _ _ h=>h) hall ?_
     . unfold QR
       split
       . exact hk
       . rename_i heq;simp[isQ,heq] at hq1
       . rename_i heq;simp[isQ,heq] at hq1
       . trivial
     . exact dopsT_sound hT hns hA hQ r false 0 _ _ _ s3 V μ ω _ w K hB (hcl.set hri) hS3 (.cons ⟨rfl,p,n,w,rfl,hsrc,fun _ _ _ h=>h⟩ hps) h hq
   . obtain⟨s3,h,hS3⟩:=putK_sound hS (v:=undef) (d:=.tup []) (RS.tup [] #[] rfl (fun j v d h=>by simp at h)) h
     refine wpAnyP_first (C:=KeepN ⟨0,0,none⟩ 0 w) (v:=undef) (fun i j=>befW_spec hA i j) ho' (Region.noSelect_spec hns) (fun c a w hc=>absurd hc (hQ _ _ _)) r.depth ps listed a w hcl (Region.free_spec ho' hf) hri
      (.inr ⟨hw,rfl⟩) (fun _ _ _ h=>h) hall ?_
     exact dopsT_sound hT hns hA hQ r false 0 _ _ _ s3 V μ ω _ w K hB (hcl.set hri) hS3 (.cons ⟨rfl,⟨0,0,none⟩,0,w,rfl,SrcP.zero _,fun _ _ _ h=>h⟩ hps) h hq
 | .l i r,f,n,listed,ps,sps,s,V,μ,ω,a,w,K,hB,hcl,hS,hps,h,hq=>by
  cases f with
  | true=>intro j hj;cases hj
  | false=>
  simp only[planT,Bool.not_false,Bool.true_and,Bool.and_eq_true,beq_iff_eq] at hB
  obtain⟨hr,hB⟩:=hB
  simp only[dopsT] at h
  cases ho:ops[i]? with
  | none=>rw[ho] at h;exact h.elim
  | some o=>
   rw[ho] at h
   dsimp only at h
   have ho':ops.toArray[i]? = some o:=by simpa using ho
   have hri:i ∈ Region.ready .any ops.toArray listed:=by rw[hr];simp
   refine⟨fun h0=>(by rw[hr] at h0;cases h0),fun j hj=>?_⟩
   rw[hr] at hj
   have hji:j=i:=by simpa using hj
   subst hji
   unfold wpOp
   rw[ho']
   dsimp only
   rcases wantK_sound (o:=o) hS h with⟨hw,s1,h,hS⟩|⟨hw,s1,h,hS⟩
   . rw[if_pos hw]
     obtain⟨h,hst⟩:=clearK_step hS.mem hps h
     refine .inl (dop_sound hT hS h _ _ fun d v s2 V2 μ2 ω2 w2 hk hr2 hS2 hstep=>?_)
     obtain⟨h1,h2⟩:=hst _ _ _ _ hstep
     obtain⟨s3,h,hS3⟩:=putK_sound hS2 hr2 hk
     exact⟨h1,dopsT_sound hT hns hA hQ r false 0 _ _ _ s3 _ _ _ _ w2 K hB (hcl.set hri) hS3 h2 h hq⟩
   . rw[if_neg (by rw[hw];simp)]
     obtain⟨s3,h,hS3⟩:=putK_sound hS (v:=undef) (d:=.tup []) (RS.tup [] #[] rfl (fun j v d h=>by simp at h)) h
     exact⟨fun x hx _=>let ⟨y,hy⟩:=hps.left x hx;hy.mono_,dopsT_sound hT hns hA hQ r false 0 _ _ _ s3 _ _ _ _ w K hB (hcl.set hri) hS3 (hps.filter fun _ _ h=>h.1) h hq⟩
 | .alt i b r,f,n,listed,ps,sps,s,V,μ,ω,a,w,K,hB,hcl,hS,hps,h,hq=>by
  simp only[planT,Bool.and_eq_true] at hB
  obtain⟨⟨⟨hf,hri⟩,hBa⟩,hBr⟩:=hB
  have hri:i ∈ Region.ready .any ops.toArray listed:=by simpa using hri
  simp only[dopsT] at h
  obtain⟨h,hrest⟩:=h
  have hone:wpOp P ops.toArray Q i (fun a' w'=>(∀ x ∈ ps,befW A x.1 i=false->x.2 w')/\wpAnyP P ops.toArray (befW A) Q b.depth (ps.filter fun x=>!befW A x.1 i) (listed.setIfInBounds i true) a' w') a w:=by
   cases ho:ops[i]? with
   | none=>rw[ho] at h;exact h.elim
   | some o=>
    rw[ho] at h
    dsimp only at h
    have ho':ops.toArray[i]? = some o:=by simpa using ho
    unfold wpOp
    rw[ho']
    dsimp only
    rcases wantK_sound (o:=o) hS h with⟨hw,s1,h,hS⟩|⟨hw,s1,h,hS⟩
    . rw[if_pos hw]
      obtain⟨h,hst⟩:=clearK_step hS.mem hps h
      refine .inl (dop_sound hT hS h _ _ fun d v s2 V2 μ2 ω2 w2 hk hr2 hS2 hstep=>?_)
      obtain⟨h1,h2⟩:=hst _ _ _ _ hstep
      obtain⟨s3,h,hS3⟩:=putK_sound hS2 hr2 hk
      exact⟨h1,dopsT_sound hT hns hA hQ b false 0 _ _ _ s3 _ _ _ _ w2 K hBa (hcl.set hri) hS3 h2 h hq⟩
    . rw[if_neg (by rw[hw];simp)]
      obtain⟨s3,h,hS3⟩:=putK_sound hS (v:=undef) (d:=.tup []) (RS.tup [] #[] rfl (fun j v d h=>by simp at h)) h
      exact⟨fun x hx _=>let ⟨y,hy⟩:=hps.left x hx;hy.mono_,dopsT_sound hT hns hA hQ b false 0 _ _ _ s3 _ _ _ _ w K hBa (hcl.set hri) hS3 (hps.filter fun _ _ h=>h.1) h hq⟩
  have hmore:=dopsT_sound hT hns hA hQ r true b.depth listed ps sps s V μ ω a w K hBr hcl hS hps hrest hq
  dsimp only at hmore
  cases f with
  | true=>
   intro j hj
   have hn:b.depth=n:=Nat.eq_of_beq_eq_true hf
   subst hn
   rcases List.mem_cons.1 hj with rfl|hj
   . exact hone
   . exact hmore j hj
  | false=>
   have hr:Region.ready .any ops.toArray listed=i :: r.heads:=by simpa using hf
   refine⟨fun h0=>(by rw[hr] at h0;cases h0),fun j hj=>?_⟩
   rw[hr] at hj
   rcases List.mem_cons.1 hj with rfl|hj
   . exact hone
   . exact hmore j hj
theorem Ok.region_tree(hT:TOk P T)(hm:P.follows .mixedOrders=true){s:St}{Q:Exit->St->Prop}{id:Nat}{l:List Oper}(A:Waits)(p:Pl)(hB:planTok l.toArray A p=true)(h:dopsT P T l A p false [] s (Q .normal)) :
    Ok P T (.region id l.toArray true) Q s:=by
 refine⟨fun w0 V0 V μ ω a w hS=>?_⟩
 simp only[planTok,Bool.and_eq_true,beq_iff_eq] at hB
 obtain⟨⟨⟨hns,hA⟩,hlen⟩,hB⟩:=hB
 have hd:Ext w { w with drawn:=w.drawn+1 }:=(Below.refl w.heap.size w).drew
 refine wp_mono (Q:=fun e a' w'=>e = .normal/\∃ s' V' μ' ω',Q .normal s'/\Sim (szOf T) w0 V0 V' μ' ω' s' a' w') (wp_region_any hm ?_) ?_
 . refine wpAny_of_P (bef:=befW A) _ [] _ _ _ ?_
   have hz:∀ m j:Nat,(Array.replicate m false).getD j false=false:=fun m j=>by
    rcases Nat.lt_or_ge j m with h|h<;>simp[h]
   have hw:=dopsT_sound hT hns hA (Q:=fun e a' w'=>e = .normal/\∃ s' V' μ' ω',Q .normal s'/\Sim (szOf T) w0 V0 V' μ' ω' s' a' w') (fun c a w h=>by cases h.1) p false 0 _ [] [] s V μ ω a _ _ hB
    (fun j o _ hl=>by rw[hz] at hl;cases hl) (hS.ext hd) .nil h fun s' V' μ' ω' a' w' hk hS'=>⟨rfl,s',V',μ',ω',hk,hS'⟩
   rw[hlen] at hw
   exact hw
 . rintro e a' w' ⟨rfl,s',V',μ',ω',hk,hS'⟩
   exact⟨s',V',μ',ω',hk,hS'⟩
end
end Go.Vx
namespace Go.Vx
open Go.RowKit
def scopeQ(Q:Exit->St->Prop):Exit->St->Prop
 | .normal,s=>Q .normal s
 | .exit i,s=>Q (.exit i) s
 | .goto _,_=>False
 | .ret,s=>Q .ret s
 | .panic c,s=>Q (.panic c) s
 | .outgrown,s=>Q .outgrown s
section
variable {P : Program} {T : Tab} {s : St} {Q : Exit → St → Prop}
theorem Ok.scope{c:Code}(h:Ok P T c (scopeQ Q) s):Ok P T (.scope c) Q s:=by
 refine⟨fun w0 V0 V μ ω a w hS=>wp_scope_straight (wp_mono (h.run w0 V0 V μ ω a w hS) ?_)⟩
 rintro e a' w' ⟨s',V',μ',ω',hk,hS'⟩
 cases e<;>first|exact⟨s',V',μ',ω',hk,hS'⟩|exact hk.elim
theorem Ok.label{l:Nat}(h:Q .normal s):Ok P T (.label l) Q s:=
 ⟨fun _ _ V μ ω _ _ hS=>wp_label ⟨s,V,μ,ω,h,hS⟩⟩
structure PSpec(P:Program)(T:Tab)(f:FuncId)(ds:List D)(v:Value):Prop where
 call:∀ args w,(callFunc f args).run P w = .ok (.enter f args) w
 run:∀ (V:Vw) (w:World) (args:Array Value),VOk V w->args.size=ds.length->(∀ (j:Nat) u d,args[j]? = some u->ds[j]? = some d->RI (szOf T) V u d) ->
  Calls P f args w fun e w'=>e = .panicked [{ v:=v,recovered:=false }]/\Below w.heap.size w w'
theorem start_sim{fn:Func}{ds:List D}{V:Vw}{w:World}{args:Array Value}{df:List Deferred}(hn:ds.length<=fn.ntmps)(hV:VOk V w)(hl:args.size=ds.length)
    (hR:∀ (j:Nat) v d,args[j]? = some v->ds[j]? = some d->RI (szOf T) V v d) :
    Sim (szOf T) w ⟨V,fun _=>undef,df,[],[]⟩ V [] [] ⟨envOf 0 ds,[],[],fn.ntmps⟩ { tmps:=args++Array.replicate (fn.ntmps - args.size) undef,defers:=df } w:=by
 refine⟨by simp;omega,.start,fun t=>?_,(Mem.start hV).fr rfl⟩
 show RS _ _ _ _ (slotV _ fn.ntmps _ t) (look (envOf 0 ds) t)
 rw[look_envOf,if_pos (Nat.zero_le _),Nat.sub_zero]
 unfold slotV
 split
 case isFalse hge=>
  rw[List.getD,List.getElem?_eq_none (by omega)]
  exact .imm _ _ (.u _)
 show RS _ _ _ _ ((args++Array.replicate (fn.ntmps - args.size) undef).getD t undef) _
 by_cases ht:t<ds.length
 . have hta:t<args.size:=by omega
   have hd:=List.getElem?_eq_getElem ht
   have ha:=Array.getElem?_eq_getElem hta
   have:=hR t _ _ ha hd
   have e1:(args++Array.replicate (fn.ntmps - args.size) undef).getD t undef=args[t]:=by
    simp[Array.getD,hta]
    omega
   rw[e1]
   simp only[List.getD,hd,Option.getD_some]
   exact .imm _ _ this
 . rw[List.getD,List.getElem?_eq_none (by omega)]
   exact .imm _ _ (.u _)
def panQ(v:Value):Exit->St->Prop
 | .panic c,_=>c=[{ v:=v,recovered:=false }]
 | _,_=>False
theorem PSpec.of_ok{f:FuncId}{fn:Func}{c:Code}(hf:P.funcs[f]? = some fn)(hb:fn.body=some c)(hcall:∀ args w,(callFunc f args).run P w = .ok (.enter f args) w){ds:List D}{v:Value}(hn:ds.length<=fn.ntmps)
    (h:Ok P T c (panQ v) ⟨envOf 0 ds,[],[],fn.ntmps⟩):PSpec P T f ds v:=by
 refine⟨hcall,fun V w args hV hl hR=>calls_of_wpM hf hb ?_⟩
 refine wp_mono (h.run w ⟨V,fun _=>undef,[],[],[]⟩ V [] [] _ w (start_sim hn hV hl hR)) ?_
 rintro e a' w' ⟨s',V',μ',ω',hq,hS'⟩
 cases e<;>simp only[panQ] at hq
 subst hq
 obtain⟨ms',e1,e2,e3,hS'⟩:=hS'.shut
 show LeavesInM _ _ _ _ _ _ a'.defers _ _
 rw[e1]
 have e4:ms'.map mkD++[]=ms'.map mkD:=List.append_nil _
 show LeavesInM _ _ _ _ _ _ (ms'.map mkD++[]) _ _
 rw[e4]
 exact leavesM (by simp) ms' w' e2 e3 ⟨rfl,hS'.mem.below⟩
def vopsCut(P:Program)(T:Tab)(ops:List Oper):Nat->List Oper->St->(Oper->St->Prop)->Prop
 | _,[],_,_=>False
 | 0,o :: _,s,K=>K o s
 | n+1,o :: rest,s,K=>wantK ops s o.guard
     (fun s=>vop P T s o fun d s=>putK s o.dst d fun s=>vopsCut P T ops n rest s K)
     (fun s=>putK s o.dst (.tup []) fun s=>vopsCut P T ops n rest s K)
end
end Go.Vx
namespace Go.Vx
open Go.RowKit
def flatC:Code->List Code
 | .seq a b=>flatC a++flatC b
 | c=>[c]
def wpL(P:Program)(Q:Exit->Act->World->Prop):List Code->Act->World->Prop
 | [],a,w=>Q .normal a w
 | c :: r,a,w=>c.wp P (Exit.then (wpL P Q r) Q) a w
theorem wpL_append{P:Program}{Q:Exit->Act->World->Prop}(m:List Code):∀ l:List Code,wpL P Q (l++m)=wpL P (Exit.then (wpL P Q m) Q) l
 | []=>rfl
 | c :: r=>by
  funext a w
  show c.wp P (Exit.then (wpL P Q (r++m)) Q) a w=c.wp P (Exit.then (wpL P (Exit.then (wpL P Q m) Q) r) (Exit.then (wpL P Q m) Q)) a w
  rw[wpL_append m r]
  congr 1
  funext e a w
  cases e<;>rfl
theorem wp_of_flat{P:Program}:∀ (c:Code) {Q:Exit->Act->World->Prop} {a:Act} {w:World},wpL P Q (flatC c) a w->c.wp P Q a w:=by
 have one:∀ (c:Code) {Q:Exit->Act->World->Prop} {a:Act} {w:World},wpL P Q [c] a w->c.wp P Q a w:=fun c Q a w h=>
  wp_mono h fun e a w hq=>by cases e<;>exact hq
 intro c
 induction c with
 | seq x y ihx ihy=>
  intro Q a w h
  rw[flatC,wpL_append] at h
  refine wp_seq (wp_mono (ihx h) fun e a w hq=>?_)
  cases e<;>first|exact ihy hq|exact hq
 | _=>intro Q a w h;exact one _ h
section
variable {P : Program} {T : Tab} {s : St} {Q : Exit → St → Prop}
structure OkL(P:Program)(T:Tab)(l:List Code)(Q:Exit->St->Prop)(s:St):Prop where
 run:∀ (w0:World) (V0:Fr) (V:Vw) (μ:List Nat) (ω:List Value) (a:Act) (w:World),Sim (szOf T) w0 V0 V μ ω s a w ->
  wpL P (fun e a' w'=>∃ s' V' μ' ω',Q e s'/\Sim (szOf T) w0 V0 V' μ' ω' s' a' w') l a w
theorem OkL.nil(h:Q .normal s):OkL P T [] Q s:=⟨fun _ _ V μ ω _ _ hS=>⟨s,V,μ,ω,h,hS⟩⟩
theorem OkL.cons{c:Code}{r:List Code}(h:Ok P T c (thenQ (OkL P T r Q) Q) s):OkL P T (c :: r) Q s:=by
 refine⟨fun w0 V0 V μ ω a w hS=>wp_mono (h.run w0 V0 V μ ω a w hS) ?_⟩
 rintro e a' w' ⟨s',V',μ',ω',hk,hS'⟩
 cases e with
 | normal=>exact hk.run w0 V0 V' μ' ω' a' w' hS'
 | _=>exact⟨s',V',μ',ω',hk,hS'⟩
structure DefSpec(P:Program)(g:FuncId)(pv:Value)(z1 z2:List Value):Prop where
 call:∀ args w,(callFunc g args).run P w = .ok (.enter g args) w
 idle:∀ p q w,CallsD P g #[.pointer (some p),.pointer (some q)] .returning w fun e u' w'=>e = .returned (.tuple #[])/\u' = .returning/\Ext w w'
 caught:∀ p q w,(∀ w1,Ext w w1->∃ w2,(storeCells p z1).run P w1 = .ok () w2/\∃ w3,(storeCells q z2).run P w2 = .ok () w3) ->
  CallsD P g #[.pointer (some p),.pointer (some q)] (.panicking [{ v:=pv,recovered:=false }]) w fun e u' w'=>e = .returned (.tuple #[])/\u' = .panicking [{ v:=pv,recovered:=true }] /\
   ∃ w1 w2,Ext w w1/\(storeCells p z1).run P w1 = .ok () w2/\(storeCells q z2).run P w2 = .ok () w'
def defB(T:Tab)(fn:Func)(R:D->Rows->Prop)(pv:Value)(z1 z2:List D):Exit->St->Prop
 | .normal,s=>retK T fn R s
 | .ret,s=>retK T fn R s
 | .panic c,s=>c=[{ v:=pv,recovered:=false }]/\(match s with
  | ⟨env,box,row,n⟩=>∃ i j cs1 cs2,look env n = .bp i 0/\look env (n+1) = .bp j 0/\box[i]? = some cs1/\box[j]? = some cs2/\z1.length=cs1.length/\z2.length=cs2.length/\i ≠ j/\n=fn.ntmps/\retK T fn R ⟨env,(box.set i z1).set j z2,row,n⟩)
 | _,_=>False
def defA(P:Program)(T:Tab)(fn:Func)(R:D->Rows->Prop)(pv:Value)(z1 z2:List D)(t p q:Nat)(Bs:List Code):Exit->St->Prop
 | .normal,s=>match s with
  | ⟨env,box,row,n⟩=>∃ i j,look env p = .bp i 0/\look env q = .bp j 0/\p<n/\q<n/\t<n/\n=fn.ntmps/\OkL P T Bs (defB T fn R pv z1 z2) ⟨(n,.bp i 0) :: (n+1,.bp j 0) :: (t,.u) :: env,box,row,n⟩
 | .ret,s=>retK T fn R s
 | _,_=>False
theorem retK_leaves(hT:TOk P T){fn:Func}{R:D->Rows->Prop}{s':St}{w:World}{V0:Fr}{V V':Vw}{μ':List Nat}{ω':List Value}{a':Act}{w':World}(hV0:V0.V=V)(hS':Sim (szOf T) w V0 V' μ' ω' s' a' w')(hr:retK T fn R s') :
    ∃ v,(results fn a'.tmps).run P w' = .ok v w'/\∃ V' ω row v' d,Ending.returned v = .returned v'/\R d row/\RS (szOf T) V' [] ω v' d/\Res (szOf T) V V' ω row w w':=by
 subst hV0
 obtain⟨vs,ds',hk,hv,hrun⟩:=resK_sound hT hS' _ _ hr
 refine⟨if h:vs.toArray.size=1 then vs.toArray[0] else .tuple vs.toArray,?_,?_⟩
 . rw[results_eq,Array.mapM_eq_mapM_toList]
   simp only[Sem.run_bind,Sem.run_map,hrun,Result.andThen_ok,Sem.run_pure]
 . rcases hk with hk|hk|hk
   . obtain⟨V1,ds1,s1,hk,hv1,hS1,_⟩:=pubsK_sound 8 hS' hv hk
     obtain⟨es,hk,hes,hri⟩:=exposN_sound _ _ _ _ hv1 hk
     refine⟨V1,[],[],_,_,rfl,hk,oneD_rel ⟨by rw[hv1.1,hes],fun j v d h1 h2=>.imm _ _ (hri j v d h1 h2)⟩,?_⟩
     exact Res.of_mem hS1.mem (Pick.start _ _)
   . obtain⟨row1,acc,es,ω0,f0,hk,hp,_,hes⟩:=gaths_sound _ _ _ _ _ _ _ _ (Pick.start _ _) hv hk
     exact⟨V',ω0,acc,_,_,rfl,hk,oneD_rel hes,Res.of_mem hS'.mem hp⟩
   . obtain⟨ω1,row0,ds1,hk,_,hM1,hv1⟩:=nilOwn_sound _ _ _ _ _ _ hS'.mem hv hk
     obtain⟨row1,acc,es,ω0,f0,hk,hp,_,hes⟩:=gaths_sound _ _ _ _ _ _ _ _ (Pick.start _ _) hv1 hk
     exact⟨V',ω0,acc,_,_,rfl,hk,oneD_rel hes,Res.of_mem hM1 hp⟩
def LeavesX(P:Program)(fn:Func)(tmps:Array Value)(R:Ending->World->Prop):List Deferred->FrameMode->World->Prop
 | [],u,w=>Leaves P fn tmps R [] u w
 | d :: ds,u,w=>u ≠ .run /\
     ((∃ r w',d.target = .collected r/\(Instr.takeDeferred r).run P w = .ok [] w'/\LeavesX P fn tmps R ds u w') \/
      (∃ fv cap f args,d.target = .fn fv cap/\(invoke d.target d.args).run P w = .ok (.enter f args) w /\
       CallsD P f args u w fun
        | .returned _,u',w'=>LeavesX P fn tmps R ds (settle u') w'
        | .panicked chain,u',w'=>LeavesX P fn tmps R ds (raised u' chain) w'
        | .outgrown,_,w'=>R .outgrown w'))
theorem leaves_stepsX{fn:Func}{tmps:Array Value}{R:Ending->World->Prop}:∀ (ds:List Deferred) (u:FrameMode) (w:World) (fr:Frame)
    (cs:List Frame),fr.mode=u->fr.defers=ds->fr.tmps=tmps->P.funcs[fr.fn]? = some fn->fr.kind = .normal->LeavesX P fn tmps R ds u w ->
    ∃ e w' fr',R e w'/\Comes P (lone fr cs w) (lone fr' cs w') e/\fr'.fn=fr.fn/\fr'.leaving P w' e:=by
 intro ds
 induction ds with
 | nil=>exact fun u w fr cs hu hd ht hf hk h=>leaves_steps [] u w fr cs hu hd ht hf hk h
 | cons d ds ih=>
  intro u w fr cs hu hd ht hf hk h
  obtain⟨hrun,h⟩:=h
  rcases h with⟨r,w',htar,htake,hrest⟩|⟨fv,cap,f,args,htar,hinv,hcall⟩
  . have h1:=step_collected (cs:=cs) (hu ▸ hrun) hd htar htake
    obtain⟨e',w'',fr',hR',hs',hfn',hl'⟩:=ih u w' { fr with defers:=[]++ds } cs hu rfl ht hf hk hrest
    exact⟨e',w'',fr',hR',Comes.of_steps (.one h1) hs',hfn',hl'⟩
  . have h1:=step_defer (cs:=cs) (hu ▸ hrun) hd htar hinv
    obtain⟨e,u',w',frX,hR,hsteps,hkX,hgo⟩:=hcall { fr with defers:=ds } cs hu
    cases e with
    | returned v=>
     have h2:=step_going_returned (c:={ { fr with defers:=ds } with mode:=u' }) (cs:=cs) hkX hgo
     obtain⟨e',w'',fr',hR',hs',hfn',hl'⟩:=ih (settle u') w' { { { fr with defers:=ds } with mode:=u' } with mode:=settle u' } cs rfl rfl ht hf hk hR
     exact⟨e',w'',fr',hR',Comes.of_steps (.head h1 (Steps.trans hsteps (.one h2))) hs',hfn',hl'⟩
    | panicked chain=>
     have h2:=step_going_panicked (c:={ { fr with defers:=ds } with mode:=u' }) (cs:=cs) hgo
     obtain⟨e',w'',fr',hR',hs',hfn',hl'⟩:=ih (raised u' chain) w' { { { fr with defers:=ds } with mode:=u' } with mode:=raised u' chain } cs rfl rfl ht hf hk hR
     exact⟨e',w'',fr',hR',Comes.of_steps (.head h1 (Steps.trans hsteps (.one h2))) hs',hfn',hl'⟩
    | outgrown=>exact⟨.outgrown,w',fr,hR,Outgrown.of_steps (.one h1) hsteps,rfl,trivial⟩
theorem leavesX_marks{fn:Func}{tmps:Array Value}{R:Ending->World->Prop}{u:FrameMode}(hu:u ≠ .run){ds:List Deferred}:∀ (ms:List Nat) (w:World),ms.Nodup->(∀ D ∈ ms,w.heap[D]? = some (.deferred (some []))) ->
    LeavesX P fn tmps R ds u (shut ms w)->LeavesX P fn tmps R (ms.map mkD++ds) u w
 | [],w,_,_,h=>h
 | D :: ms,w,hn,hd,h=>by
  obtain⟨h1,h2⟩:=List.nodup_cons.1 hn
  exact⟨hu,.inl ⟨D,_,rfl,run_takeDeferred (hd D (by simp)),leavesX_marks hu ms _ h2 (fun E hE=>(World.putObj_heap_other (r:=D) (k:=E) fun e=>h1 (e ▸ hE)).trans (hd E (by simp[hE]))) h⟩⟩
theorem leavesX_fn{fn:Func}{tmps:Array Value}{R:Ending->World->Prop}{fv:Fn}{cap dargs:Array Value}{ds:List Deferred}{u:FrameMode}
    {w:World}{f:FuncId}{args:Array Value}(hu:u ≠ .run)(hi:(invoke (.fn fv cap) dargs).run P w = .ok (.enter f args) w)
    (h:CallsD P f args u w fun
     | .returned _,u',w'=>LeavesX P fn tmps R ds (settle u') w'
     | .panicked chain,u',w'=>LeavesX P fn tmps R ds (raised u' chain) w'
     | .outgrown,_,w'=>R .outgrown w') :
    LeavesX P fn tmps R ({ target:=.fn fv cap,args:=dargs } :: ds) u w:=
 ⟨hu,.inr ⟨fv,cap,f,args,rfl,hi,h⟩⟩
theorem Sim.shutM{sz:TypeId->Nat}{w0 w:World}{F:Fr}{V:Vw}{μ:List Nat}{ω:List Value}{s:St}{a:Act}(hS:Sim sz w0 F V μ ω s a w)(ms:List Nat)(hn:ms.Nodup)(hd:∀ D ∈ ms,w.heap[D]? = some (.deferred (some []))/\w0.heap.size<=D) :
    Sim sz w0 ⟨F.V,F.gv,a.defers,[],F.kc⟩ V μ ω s a (Go.Vx.shut ms w):=⟨hS.tmps,.start,hS.env,(Mem.shut ms w hn hd hS.mem).1.fr rfl⟩
def bodyPostX(P:Program)(fn:Func)(R:Ending->World->Prop):Exit->Act->World->Prop
 | .normal,a,w|.ret,a,w=>LeavesX P fn a.tmps R a.defers .returning w
 | .panic chain,a,w=>LeavesX P fn a.tmps R a.defers (.panicking chain) w
 | .outgrown,_,w=>R .outgrown w
 | _,_,_=>False
theorem calls_of_wp_X{f:FuncId}{fn:Func}{c:Code}{args:Array Value}{w:World}{R:Ending->World->Prop}(hf:P.funcs[f]? = some fn)(hb:fn.body=some c)
    (h:c.wp P (bodyPostX P fn R) { tmps:=args++Array.replicate (fn.ntmps - args.size) undef,defers:=[] } w):Calls P f args w R:=by
 intro cs
 let b:Frame:={ (default:Frame) with fn:=f,kind:=.normal }
 have henter:Frame.enter P f args .normal =
     b.at { tmps:=args++Array.replicate (fn.ntmps - args.size) undef,defers:=[] } [.code c]:=by
  simp[Frame.enter,Frame.at,hf,hb,b]
 obtain⟨e,a',w',hq,harr⟩:=h b [] cs
 rw[<- henter] at harr
 cases e with
 | normal=>
  obtain⟨e',w'',fr',hR,hs,hfn,hl⟩:=leaves_stepsX a'.defers .returning w' { b.at a' [] with mode:=.returning } cs rfl rfl rfl hf rfl hq
  exact⟨e',w'',fr',hR,Comes.of_steps (Steps.trans harr (.one step_end)) hs,hfn,hl⟩
 | ret=>
  obtain⟨todo,hs₀⟩:=harr
  obtain⟨e',w'',fr',hR,hs,hfn,hl⟩:=leaves_stepsX a'.defers .returning w' { b.at a' todo with mode:=.returning } cs rfl rfl rfl hf rfl hq
  exact⟨e',w'',fr',hR,Comes.of_steps hs₀ hs,hfn,hl⟩
 | panic chain=>
  obtain⟨todo,hs₀⟩:=harr
  obtain⟨e',w'',fr',hR,hs,hfn,hl⟩:=leaves_stepsX a'.defers (.panicking chain) w' { b.at a' todo with mode:=.panicking chain } cs rfl rfl rfl hf rfl hq
  exact⟨e',w'',fr',hR,Comes.of_steps hs₀ hs,hfn,hl⟩
 | exit id=>exact hq.elim
 | goto l=>exact hq.elim
 | outgrown=>exact⟨.outgrown,w',b,hq,harr.resolve_left (by simp[b]),rfl,trivial⟩
theorem Sim.frame{sz:TypeId->Nat}{w0 w:World}{V0 V0':Fr}{V:Vw}{μ:List Nat}{ω:List Value}{a a':Act}{env env':List (Nat × D)}{box:List (List D)}{row:Rows}{n:Nat}(h:Sim sz w0 V0 V μ ω ⟨env,box,row,n⟩ a w)(hV:V0'.V=V0.V)
    (hn:a'.tmps.size=n)(hd:DefOk w0 V0' a'.defers w)(he:∀ t,RS sz V μ ω (slotV V0' n a' t) (look env' t))(hc:∀ x ∈ V0'.kc,x ∈ V0.kc:=by exact fun _ h=>h):Sim sz w0 V0' V μ ω ⟨env',box,row,n⟩ a' w:=
 ⟨hn,hd,he,h.mem.fr hV hc⟩
theorem z_agg{V:Vw}{μ:List Nat}{ω:List Value}{sz:TypeId->Nat}{z:List Value}{zd:List D}(hz:z.map ofVal=zd)(ho:∀ v ∈ z,v.oneCell'=true):AggR sz V μ ω z.toArray zd:=by
 subst hz
 refine⟨by simp,by simpa using ho,fun j v d h1 h2=>?_⟩
 simp only[List.getElem?_toArray] at h1
 simp only[List.getElem?_map,h1,Option.map_some,Option.some.injEq] at h2
 subst h2
 exact .imm _ _ (RI_ofVal v)
theorem noB_ofVal(z:List Value):noB (z.map ofVal)=true:=by
 cases z with
 | nil=>rfl
 | cons v r=>
  simp only[List.map_cons]
  unfold ofVal
  split<;>rfl
theorem FSpec.of_defer(hT:TOk P T){f:FuncId}{fn:Func}{c:Code}(hf:P.funcs[f]? = some fn)(hb:fn.body=some c)(hcall:∀ args w,(callFunc f args).run P w = .ok (.enter f args) w){ds:List D}{R:D->Rows->Prop}(hn:ds.length<=fn.ntmps)
    {pv:Value}{z1 z2:List Value}{zd1 zd2:List D}(hz1:z1.map ofVal=zd1)(hz2:z2.map ofVal=zd2)(ho1:∀ v ∈ z1,v.oneCell'=true)(ho2:∀ v ∈ z2,v.oneCell'=true){id g t p q:Nat}{ty1 ty2:TypeId}{p1 p2:String}{e1 e2:Array Edge}(hD:DefSpec P g pv z1 z2){As Bs:List Code}
    (hflat:flatC c=As++(.region id #[⟨some t,.makeFunc (.func g) #[] #[.tmp p,.tmp q],ty1,p1,e1,none⟩,⟨none,.defer ⟨.value (.tmp t),#[],#[]⟩,ty2,p2,e2,none⟩] false :: Bs))
    (h:OkL P T As (defA P T fn R pv zd1 zd2 t p q Bs) ⟨envOf 0 ds,[],[],fn.ntmps⟩):FSpec P T f ds R:=by
 refine⟨hcall,fun V w args hV hl hR=>calls_of_wp_X hf hb (wp_of_flat c ?_)⟩
 rw[hflat,wpL_append]
 have hA:=h.run w ⟨V,fun _=>undef,[],[],[]⟩ V [] [] _ w (start_sim hn hV hl hR)
 have mono:∀ (l:List Code) {Q Q':Exit->Act->World->Prop} (a:Act) (w:World),(∀ e a w,Q e a w->Q' e a w)->wpL P Q l a w->wpL P Q' l a w:=by
  intro l
  induction l with
  | nil=>intro Q Q' a w hq h;exact hq _ _ _ h
  | cons c r ih=>intro Q Q' a w hq h;exact wp_mono h fun e a w h=>by cases e<;>first|exact ih _ _ hq h|exact hq _ _ _ h
 refine mono As _ _ ?_ hA
 rintro e a' w' ⟨s',V',μ',ω',hq,hS'⟩
 cases e with
 | ret=>
  obtain⟨ms,h1,h2,h3,hS'⟩:=hS'.shut
  obtain⟨v,hv,hr⟩:=retK_leaves (P:=P) hT rfl hS' hq
  show LeavesX P fn a'.tmps _ a'.defers .returning w'
  rw[h1]
  exact leavesX_marks (by simp) ms w' h2 h3 ⟨v,hv,hr⟩
 | normal=>
  obtain⟨env,box,row,n⟩:=s'
  obtain⟨i,j,hp,hqq,hpn,hqn,htn,hnn,hB⟩:=hq
  obtain⟨msA,hmA1,hmA2,hmA3⟩:=hS'.defers.marks
  have rp:=hS'.slot hpn
  have rq:=hS'.slot hqn
  rw[hp] at rp
  rw[hqq] at rq
  obtain⟨g1,hg1,hv1⟩:=rp.bp_
  obtain⟨g2,hg2,hv2⟩:=rq.bp_
  show Code.wp P (.region id _ false) _ a' w'
  refine wp_region_lit ?_
  unfold wpList
  rw[if_pos (by simp[Region.wanted])]
  left
  unfold Oper.wp
  have r1:(execOp a'.eval ⟨some t,.makeFunc (.func g) #[] #[.tmp p,.tmp q],ty1,p1,e1,none⟩).run P w' = .ok (.value (.func (.func g) #[] #[.pointer (some ⟨g1,0,none⟩),.pointer (some ⟨g2,0,none⟩)])) w':=by
   simp only[execOp,Instr.makeFunc,Sem.run_bind,Sem.run_pure,Result.andThen_ok,List.map_toArray,List.map_cons,List.map_nil,Act.eval,hv1,hv2]
  rw[r1]
  show wpList P _ _ [_] (a'.put (some t) _) w'
  unfold wpList
  rw[if_pos (by simp[Region.wanted])]
  left
  unfold Oper.wp
  have r2:(execOp (a'.put (some t) (.func (.func g) #[] #[.pointer (some ⟨g1,0,none⟩),.pointer (some ⟨g2,0,none⟩)])).eval ⟨none,.defer ⟨.value (.tmp t),#[],#[]⟩,ty2,p2,e2,none⟩).run P w' =
      .ok (.defer { target:=.fn (.func g) #[.pointer (some ⟨g1,0,none⟩),.pointer (some ⟨g2,0,none⟩)],args:=#[] }) w':=by
   have hsz:t<a'.tmps.size:=by have:=hS'.tmps;dsimp only at this;omega
   have hev:(a'.put (some t) (.func (.func g) #[] #[.pointer (some ⟨g1,0,none⟩),.pointer (some ⟨g2,0,none⟩)])).eval (.tmp t) = .func (.func g) #[] #[.pointer (some ⟨g1,0,none⟩),.pointer (some ⟨g2,0,none⟩)]:=by
    simp[Act.put,Act.eval,Array.getD,hsz]
   simp only[execOp,resolve,hev,Deferred.ofValue,Sem.run_bind,Sem.run_pure,Result.andThen_ok,List.map_toArray,List.map_nil]
   rfl
  rw[r2]
  show wpL P _ Bs _ w'
  refine mono Bs _ _ ?_ (hB.run w ⟨V,fun x=>if x=n then .pointer (some ⟨g1,0,none⟩) else if x=n+1 then .pointer (some ⟨g2,0,none⟩) else undef,
   { target:=.fn (.func g) #[.pointer (some ⟨g1,0,none⟩),.pointer (some ⟨g2,0,none⟩)],args:=#[] } :: a'.defers,keptOf msA,[]⟩ V' μ' ω' _ w' (hS'.frame rfl ?_ ?_ ?_))
  . rintro e a2 w2 ⟨s2,V2,μ2,ω2,hq2,hS2⟩
    have tail:∀ {s3:St} {w3:World},retK T fn R s3->Sim (szOf T) w ⟨V,fun x=>if x=n then .pointer (some ⟨g1,0,none⟩) else if x=n+1 then .pointer (some ⟨g2,0,none⟩) else undef,{ target:=.fn (.func g) #[.pointer (some ⟨g1,0,none⟩),.pointer (some ⟨g2,0,none⟩)],args:=#[] } :: a'.defers,keptOf msA,[]⟩ V2 μ2 ω2 s3 { a2 with defers:={ target:=.fn (.func g) #[.pointer (some ⟨g1,0,none⟩),.pointer (some ⟨g2,0,none⟩)],args:=#[] } :: a'.defers } w3 ->
        LeavesX P fn a2.tmps (fun e w'=>∃ V' ω row v d,e = .returned v/\R d row/\RS (szOf T) V' [] ω v d/\Res (szOf T) V V' ω row w w') a'.defers .returning w3:=by
     intro s3 w3 hr hS3
     have hk:=fun D (hD:D ∈ msA)=>hS3.defers.kept (D,.deferred (some [])) (List.mem_map.2 ⟨D,hD,rfl⟩)
     obtain⟨v,hv,hr⟩:=retK_leaves (P:=P) hT rfl (hS3.shutM msA hmA2 fun D hD=>⟨(hk D hD).1,(hk D hD).2.2⟩) hr
     rw[hmA1]
     exact leavesX_marks (by simp) msA w3 hmA2 (fun D hD=>(hk D hD).1) ⟨v,hv,hr⟩
    obtain⟨msB,hmB1,hmB2,hmB3,hS2⟩:=hS2.shut
    have idle:retK T fn R s2->LeavesX P fn a2.tmps (fun e w'=>∃ V' ω row v d,e = .returned v/\R d row/\RS (szOf T) V' [] ω v d/\Res (szOf T) V V' ω row w w') a2.defers .returning w2:=by
     intro hr
     rw[hmB1]
     refine leavesX_marks (by simp) msB w2 hmB2 hmB3 (leavesX_fn (f:=g) (args:=#[.pointer (some ⟨g1,0,none⟩),.pointer (some ⟨g2,0,none⟩)]) (by simp) ?_ ((hD.idle _ _ _).mono ?_))
     . simp only[invoke]
       rw[hD.call]
       rfl
     . rintro e u' w3 ⟨rfl,rfl,hx⟩
       exact tail hr (hS2.ext hx)
    cases e with
    | normal=>exact idle hq2
    | ret=>exact idle hq2
    | panic ch=>
     obtain⟨rfl,hq2⟩:=hq2
     obtain⟨env2,box2,row2,n2⟩:=s2
     obtain⟨i2,j2,cs1,cs2,hi2,hj2,hb1,hb2,hl1,hl2,hij,hn2,hr⟩:=hq2
     have hnn2:n2=n:=by rw[hn2,hnn]
     subst hnn2
     have re1:=hS2.env n2
     have re2:=hS2.env (n2+1)
     dsimp only at re1 re2
     rw[hi2] at re1
     rw[hj2] at re2
     unfold slotV at re1 re2
     rw[if_neg (by omega)] at re1 re2
     simp only[if_true,show n2+1 ≠ n2 by omega,if_false] at re1 re2
     obtain⟨h1,hm1,hh1⟩:=re1.bp_
     cases hh1
     obtain⟨h2,hm2,hh2⟩:=re2.bp_
     cases hh2
     show LeavesX P fn a2.tmps _ a2.defers _ w2
     rw[hmB1]
     refine leavesX_marks (by simp) msB w2 hmB2 hmB3 ?_
     have stores:∀ w1,Ext (shut msB w2) w1->∃ w3,(storeCells ⟨g1,0,none⟩ z1).run P w1 = .ok () w3/\∃ w4,(storeCells ⟨g2,0,none⟩ z2).run P w3 = .ok () w4 /\
         Sim (szOf T) w ⟨V,fun x=>if x=n2 then .pointer (some ⟨g1,0,none⟩) else if x=n2+1 then .pointer (some ⟨g2,0,none⟩) else undef,
    { target:=.fn (.func g) #[.pointer (some ⟨g1,0,none⟩),.pointer (some ⟨g2,0,none⟩)],args:=#[] } :: a'.defers,keptOf msA,[]⟩ V2 μ2 ω2 ⟨env2,(box2.set i2 zd1).set j2 zd2,row2,n2⟩ { a2 with defers:={ target:=.fn (.func g) #[.pointer (some ⟨g1,0,none⟩),.pointer (some ⟨g2,0,none⟩)],args:=#[] } :: a'.defers } w4:=by
        intro w1 hx
        obtain⟨p1',w3,hp1,hst1,hS3,_⟩:=store_bp_sound (P:=P) (hS2.ext hx) (i:=i2) (off:=0) (RS.bp i2 0 g1 hm1) (z_agg hz1 ho1) hb1 (by omega) (by rw[setCells_all hl1,<- hz1];exact noB_ofVal z1)
        cases hp1
        have hb2':(box2.set i2 (setCells cs1 0 zd1))[j2]? = some cs2:=by rw[List.getElem?_set_ne hij];exact hb2
        obtain⟨p2',w4,hp2,hst2,hS4,_⟩:=store_bp_sound (P:=P) hS3 (i:=j2) (off:=0) (RS.bp j2 0 g2 hm2) (z_agg hz2 ho2) hb2' (by omega) (by rw[setCells_all hl2,<- hz2];exact noB_ofVal z2)
        cases hp2
        rw[setCells_all hl1,setCells_all hl2] at hS4
        exact⟨w3,by simpa using hst1,w4,by simpa using hst2,hS4⟩
     refine leavesX_fn (f:=g) (args:=#[.pointer (some ⟨g1,0,none⟩),.pointer (some ⟨g2,0,none⟩)]) (by simp) ?_ ((hD.caught _ _ _ fun w1 hx=>let ⟨w3,k1,w4,k2,_⟩:=stores w1 hx;⟨w3,k1,w4,k2⟩).mono ?_)
     . simp only[invoke]
       rw[hD.call]
       rfl
     . rintro e u' w5 ⟨rfl,rfl,w1,w3,hx,k1,k2⟩
       obtain⟨w3',k1',w4',k2',hS5⟩:=stores w1 hx
       rw[k1] at k1'
       cases k1'
       rw[k2] at k2'
       cases k2'
       exact tail hr hS5
    | _=>exact hq2.elim
  . simp only[Act.put]
    have:=hS'.tmps
    dsimp only at this
    simpa using this
  . refine⟨⟨[],by simp[Act.put],List.nodup_nil,by simp⟩,fun x hx=>?_⟩
    obtain⟨D,hD,rfl⟩:=List.mem_map.1 hx
    exact⟨(hmA3 D hD).1,(fun _ _ _ e=>by cases e),(hmA3 D hD).2.1⟩
  . intro x
    unfold look
    cases h1:Nat.beq n x with
    | true=>
     have:=beq_nat_true h1
     subst this
     unfold slotV
     rw[if_neg (by omega)]
     simp only[if_true]
     exact .bp i 0 g1 hg1
    | false=>
     have hxn:x ≠ n:=fun e=>by rw[e,Nat.beq_refl] at h1;cases h1
     show RS _ _ _ _ _ (look _ _)
     unfold look
     cases h2:Nat.beq (n+1) x with
     | true=>
      have:=beq_nat_true h2
      subst this
      unfold slotV
      rw[if_neg (by omega)]
      simp only[show n+1 ≠ n by omega,if_false,if_true]
      exact .bp j 0 g2 hg2
     | false=>
      have hxn2:x ≠ n+1:=fun e=>by rw[e,Nat.beq_refl] at h2;cases h2
      show RS _ _ _ _ _ (look _ _)
      unfold look
      cases h3:Nat.beq t x with
      | true=>exact .imm _ _ (.u _)
      | false=>
       have hxt:x ≠ t:=fun e=>by rw[e,Nat.beq_refl] at h3;cases h3
       have he:=hS'.env x
       dsimp only at he
       show RS _ _ _ _ _ (look env x)
       unfold slotV at he ⊢
       by_cases hx:x<n
       . rw[if_pos hx] at he ⊢
         have hsz:a'.tmps.size=n:=hS'.tmps
         have key:∀ (A:Array Value) (v:Value),(A.setIfInBounds t v).getD x undef=A.getD x undef:=fun A v=>by
          rw[Array.getD_eq_getD_getElem?,Array.getD_eq_getD_getElem?,Array.getElem?_setIfInBounds_ne (Ne.symm hxt)]
         have:=key a'.tmps (.func (.func g) #[] #[.pointer (some ⟨g1,0,none⟩),.pointer (some ⟨g2,0,none⟩)])
         show RS _ _ _ _ ((a'.tmps.setIfInBounds t (.func (.func g) #[] #[.pointer (some ⟨g1,0,none⟩),.pointer (some ⟨g2,0,none⟩)])).getD x undef) _
         rw[this]
         exact he
       . rw[if_neg hx] at he ⊢
         simp only[hxn,hxn2,if_false]
         exact he
 | _=>exact hq.elim
end
end Go.Vx
namespace Go.Vx
open Go.RowKit Go.Proofs Go.Sort
theorem sorted_row{w:World}{base g m N cap k q:Nat}{e:TypeId}{vals:List Value}{α:Type}[Inhabited α]{enc:α->List Value}{d:Array α}{os:Array Obj}(hown:w.ownsRow base e k (.slice (some ⟨g,0,none⟩) N cap) N vals)(hm:m<=N)(hd:d.size=m) :
    w.grownBy (grow (putRowK enc k (Sort.ahead w q) g 0 d) os) (some g)/\(grow (putRowK enc k (Sort.ahead w q) g 0 d) os).ownsRow base e k (.slice (some ⟨g,0,none⟩) N cap) N ((flatK enc k d).toList++vals.drop (m*k)):=by
 obtain⟨hl,hown⟩:=hown
 rcases hown with⟨h,_⟩|⟨g',cap',cur,h,hb,hg,hn,hc,hs,ht⟩
 . cases h
 cases h
 have hgl:g<w.heap.size:=(Array.getElem?_eq_some_iff.1 hg).1
 have hfl:(flatK enc k d).size=m*k:=by rw[size_flatK,hd]
 have hmk:m*k<=N*k:=Nat.mul_le_mul_right _ hm
 have hNk:N*k<=cap*k:=Nat.mul_le_mul_right _ hn
 have hheap:(grow (putRowK enc k (Sort.ahead w q) g 0 d) os).heap[g]? = some (.cells (putCells id 0 (flatK enc k d) cur) e (0,0)):=by
  show ((w.heap.modify g (onCells _))++os)[g]? = _
  rw[Array.getElem?_append_left (by simpa using hgl),Array.getElem?_modify,if_pos rfl,hg]
  rfl
 refine⟨⟨rfl,rfl,rfl,?_,fun j hj hne=>?_⟩,?_,.inr ⟨g,cap,_,rfl,hb,hheap,hn,hc,?_,?_⟩⟩
 . show w.heap.size<=((w.heap.modify g (onCells _))++os).size
   simp
 . show ((w.heap.modify g (onCells _))++os)[j]? = _
   rw[Array.getElem?_append_left (by simpa using hj),Array.getElem?_modify,if_neg (fun e=>hne (by rw[e]))]
 . rw[List.length_append,Array.length_toList,hfl,List.length_drop,hl];omega
 . simp[putCells,hs]
 . apply List.ext_getElem?
   intro j
   rw[List.getElem?_take]
   by_cases hj:j<N*k
   . rw[if_pos hj]
     have hjc:j<cur.size:=by rw[hs];omega
     simp only[putCells,Array.getElem?_toList,Array.getElem?_mapIdx,Array.getElem?_eq_getElem hjc,Option.map_some,Nat.zero_le,true_and,Nat.zero_add,Nat.sub_zero,hfl]
     by_cases hjm:j<m*k
     . rw[if_pos hjm,List.getElem?_append_left (by rw[Array.length_toList,hfl];exact hjm),Array.getElem?_toList]
       have hjf:j<(flatK enc k d).size:=by rw[hfl];exact hjm
       rw[Array.getElem?_eq_getElem hjf]
       exact congrArg some (getElem!_pos (flatK enc k d) j hjf)
     . rw[if_neg hjm,List.getElem?_append_right (by rw[Array.length_toList,hfl];omega),Array.length_toList,hfl,List.getElem?_drop,show m*k+(j - m*k)=j by omega,<- ht,List.getElem?_take_of_lt hj,Array.getElem?_toList,Array.getElem?_eq_getElem hjc]
   . rw[if_neg hj,List.getElem?_eq_none]
     rw[List.length_append,Array.length_toList,hfl,List.length_drop,hl];omega
structure SortC(P:Program)(f ty:Nat)(k fo g:Nat):Prop where
 call:∀ args w,(callFunc f args).run P w = .ok (.enter f args) w
 conc:P.concrete ty=true
 big:∀ (α:Type) [Inhabited α] (enc:α->List Value) (key:α->List UInt8),(∀ x,(enc x).length=k)->(∀ x,∀ v ∈ enc x,v.oneCell'=true)->(∀ x,(enc x)[fo]? = some (.string (bstr (key x)))) ->
  ∀ (blk c Bs:Nat) (d:Array α),2<=d.size->d.size<4611686018427387904->∀ w,HoldsK enc k w blk 0 d->blk<w.heap.size->w.cell? ⟨Bs,0,none⟩=some (.slice (some ⟨blk,0,none⟩) d.size c)->Bs<w.heap.size->Bs ≠ blk ->
  Calls P f #[.iface ty (.slice (some ⟨blk,0,none⟩) d.size c),.func (.func g) #[] #[.pointer (some ⟨Bs,0,none⟩)]] w fun e w'=>
   e = .returned (.tuple #[])/\∃ d' n os,PermIn 0 d.size d d'/\SortedIn (fun x y=>Op.bytesLess (key x) (key y)) 0 d.size d'/\w'=grow (putRowK enc k (Sort.ahead w n) blk 0 d') os
 tiny:∀ p n c lb w,n<=1->Calls P f #[.iface ty (.slice p n c),.func (.func g) #[] lb] w fun e w'=>e = .returned (.tuple #[])/\∃ os,w'=grow w os
def RowsUp(fo:Nat)(ys:List (List D)):Prop:=ys.Pairwise fun x y=>∀ a b,x[fo]? = some (.s a)->y[fo]? = some (.s b)->Op.bytesLess b a=false
def SRow(sz:TypeId->Nat)(V:Vw)(k fo:Nat):Type:=
 { p:List Value × List D // p.1.length=k/\p.2.length=k/\(∀ v ∈ p.1,v.oneCell'=true)/\(∀ (j:Nat) v d,p.1[j]? = some v->p.2[j]? = some d->RI sz V v d)/\∃ l,p.2[fo]? = some (.s l) }
def SRow.key{sz:TypeId->Nat}{V:Vw}{k fo:Nat}(x:SRow sz V k fo):List UInt8:=match x.1.2[fo]? with|some (.s l)=>l|_=>[]
theorem put_same{a:Act}{t:Nat}{v:Value}(h:t<a.tmps.size):(a.put (some t) v).eval (.tmp t)=v:=by
 simp[Act.put,Act.eval,Array.getD,h]
theorem put_other{a:Act}{t t':Nat}{v:Value}(h:t ≠ t'):(a.put (some t) v).eval (.tmp t')=a.eval (.tmp t'):=by
 show (a.tmps.setIfInBounds t v).getD t' undef=a.tmps.getD t' undef
 rw[Array.getD_eq_getD_getElem?,Array.getD_eq_getD_getElem?,Array.getElem?_setIfInBounds_ne h]
theorem put_size{a:Act}{t:Nat}{v:Value}:(a.put (some t) v).tmps.size=a.tmps.size:=by simp[Act.put]
section
variable {P : Program} {T : Tab} {Q : Exit → St → Prop}
theorem Ok.sortSlice(hT:TOk P T){id:Nat}{t1 t2 t3 t4 p:Nat}{f ty g k fo i r m:Nat}{e:TypeId}{xs:List (List D)}{env:List (Nat × D)}{box:List (List D)}{row:Rows}{n:Nat}
    {y1 y2 y3 y4:TypeId}{p1 p2 p3 p4:String}{a1 a2 a3 a4:Array Edge}{tys:Array TypeId}(hC:SortC P f ty k fo g)
    (hload:qop P T ⟨env,box,row,n⟩ ⟨some t1,.load ty (.tmp p),y1,p1,a1,none⟩ (fun d s'=>d = .own r m/\s'=⟨env,box,row,n⟩))
    (hp:look env p = .bp i 0)(hb:box[i]? = some [.own r m])(hr:row[r]? = some (some (e,xs)))(hm:m<=xs.length)(hk:szOf T e=k)
    (hn:p<n/\t1<n/\t2<n/\t3<n/\t4<n)(hd:t1 ≠ p/\t2 ≠ p/\t2 ≠ t3/\t3 ≠ t2)
    (hkeys:∀ x ∈ xs.take m,∃ l,x[fo]? = some (.s l))(hm2:m<4611686018427387904)
    (h:∀ ys,ys.Perm (xs.take m)->RowsUp fo ys->Q .normal ⟨(t4,.u) :: (t3,.u) :: (t2,.u) :: (t1,.u) :: env,box,row.set r (some (e,ys++xs.drop m)),n⟩)(he:e<BIG:=by decide) :
    Ok P T (.region id #[⟨some t1,.load ty (.tmp p),y1,p1,a1,none⟩,⟨some t2,.makeInterface ty (.tmp t1),y2,p2,a2,none⟩,⟨some t3,.makeFunc (.func g) #[] #[.tmp p],y3,p3,a3,none⟩,
     ⟨some t4,.call ⟨.value (.func f),#[.tmp t2,.tmp t3],tys⟩,y4,p4,a4,none⟩] false) Q ⟨env,box,row,n⟩:=by
 refine⟨fun w0 V0 V μ ω a w hS=>wp_region_lit ?_⟩
 obtain⟨hpn,hn1,hn2,hn3,hn4⟩:=hn
 obtain⟨hd1,hd2,hd3,hd4⟩:=hd
 unfold wpList
 rw[if_pos (by simp[Region.wanted])]
 left
 refine (Vok.of_qop (E:=.none) hT hS hload) _ _ ?_
 clear hS
 rintro _ v1 _ V μ ω w ⟨rfl,rfl⟩ hv1 hS _
 have rp:=hS.slot hpn
 rw[hp] at rp
 obtain⟨g1,hg1,hpv⟩:=rp.bp_
 have hsz:a.tmps.size=n:=hS.tmps
 obtain⟨A,N,c,hω,hnN,rfl⟩:=hv1.own_
 show wpList P _ _ [_,_,_] (a.put (some t1) _) w
 unfold wpList
 rw[if_pos (by simp[Region.wanted])]
 left
 unfold Oper.wp
 have r2:(execOp (a.put (some t1) (.slice A m c)).eval ⟨some t2,.makeInterface ty (.tmp t1),y2,p2,a2,none⟩).run P w = .ok (.value (.iface ty (.slice A m c))) w:=by
  simp only[execOp,put_same (a:=a) (t:=t1) (v:=.slice A m c) (by omega),Sem.run_bind,run_makeInterface w ty _ hC.conc,Result.andThen_ok,Sem.run_pure]
 rw[r2]
 show wpList P _ _ [_,_] ((a.put (some t1) _).put (some t2) _) w
 unfold wpList
 rw[if_pos (by simp[Region.wanted])]
 left
 unfold Oper.wp
 have hpe:((a.put (some t1) (.slice A m c)).put (some t2) (.iface ty (.slice A m c))).eval (.tmp p) = .pointer (some ⟨g1,0,none⟩):=by
  rw[put_other hd2,put_other hd1];exact hpv
 have r3:(execOp ((a.put (some t1) (.slice A m c)).put (some t2) (.iface ty (.slice A m c))).eval ⟨some t3,.makeFunc (.func g) #[] #[.tmp p],y3,p3,a3,none⟩).run P w = .ok (.value (.func (.func g) #[] #[.pointer (some ⟨g1,0,none⟩)])) w:=by
  simp only[execOp,Instr.makeFunc,Sem.run_bind,Sem.run_pure,Result.andThen_ok,List.map_toArray,List.map_cons,List.map_nil,hpe]
 rw[r3]
 show wpList P _ _ [_] (((a.put (some t1) _).put (some t2) _).put (some t3) _) w
 generalize hA3:((a.put (some t1) (.slice A m c)).put (some t2) (.iface ty (.slice A m c))).put (some t3) (.func (.func g) #[] #[.pointer (some ⟨g1,0,none⟩)])=a3'
 have hs3:a3'.tmps.size=n:=by rw[<- hA3,put_size,put_size,put_size,hsz]
 have e2:a3'.eval (.tmp t2) = .iface ty (.slice A m c):=by rw[<- hA3,put_other hd4,put_same (by rw[put_size];omega)]
 have e3:a3'.eval (.tmp t3) = .func (.func g) #[] #[.pointer (some ⟨g1,0,none⟩)]:=by rw[<- hA3,put_same (by rw[put_size,put_size];omega)]
 have hS3:Sim (szOf T) w0 V0 V μ ω ⟨(t3,.u) :: (t2,.u) :: (t1,.u) :: env,box,row,n⟩ a3' w:=by
  rw[<- hA3]
  exact ((hS.put hn1 (.imm _ _ (.u _))).put hn2 (.imm _ _ (.u _))).put hn3 (.imm _ _ (.u _))
 unfold wpList
 rw[if_pos (by simp[Region.wanted])]
 left
 unfold Oper.wp
 have r4:(execOp a3'.eval ⟨some t4,.call ⟨.value (.func f),#[.tmp t2,.tmp t3],tys⟩,y4,p4,a4,none⟩).run P w = .ok (.enter f #[.iface ty (.slice A m c),.func (.func g) #[] #[.pointer (some ⟨g1,0,none⟩)]]) w:=by
  simp only[execOp,resolve,Act.eval,Deferred.ofValue,invoke,Sem.run_bind,Sem.run_pure,Result.andThen_ok,List.map_toArray,List.map_cons,List.map_nil] at e2 e3 ⊢
  rw[e2,e3,hC.call]
  rfl
 rw[r4]
 show Calls P f _ w _
 have fin:∀ (w':World) (ys:List (List D)),(∀ ds,DefOk w0 V0 ds w->DefOk w0 V0 ds w')->ys.Perm (xs.take m)->RowsUp fo ys->Mem (szOf T) w0 V0 V μ ω box (row.set r (some (e,ys++xs.drop m))) w' ->
     ∃ s' V' μ' ω',Q .normal s'/\Sim (szOf T) w0 V0 V' μ' ω' s' (a3'.put (some t4) (.tuple #[])) w':=fun w' ys hx h1 h2 hM=>
  let hP:=hS3.put (v:=.tuple #[]) hn4 (.imm _ _ (.u _))
  ⟨_,V,μ,ω,h ys h1 h2,Sim.mk hP.tmps (hx _ hP.defers) hP.env hM⟩
 by_cases hm1:m<=1
 . refine (hC.tiny A m c _ w hm1).mono ?_
   rintro e' w' ⟨rfl,os,rfl⟩
   have hrl:r<row.length:=(List.getElem?_eq_some_iff.1 hr).1
   have hEx:Ext w (grow w os):=⟨rfl,rfl,rfl,by show w.heap.size<=(w.heap++os).size;simp,fun j hj=>by show (w.heap++os)[j]? = _;rw[Array.getElem?_append_left hj]⟩
   refine fin _ (xs.take m) (fun ds h=>h.ext hEx) (.refl _) ?_ ?_
   . have hl:(xs.take m).length<=1:=by rw[List.length_take];omega
     unfold RowsUp
     match xs.take m,hl with
     | [],_=>simp
     | [_],_=>simp
   . rw[List.take_append_drop]
     have hrow:row.set r (some (e,xs))=row:=by
      apply List.ext_getElem?
      intro q
      by_cases hq:q=r
      . subst hq;rw[List.getElem?_set_self hrl,hr]
      . rw[List.getElem?_set_ne (Ne.symm hq)]
     rw[hrow]
     exact hS.mem.ext hEx
 . have hm2':2<=m:=by omega
   obtain⟨A2,c2,vals,e1,hc,hmx,hA,hA2,hown,hR⟩:=hS.mem.rowShape he hω hr
   cases e1
   subst hk
   obtain⟨blk,hblk⟩:∃ blk,A=some ⟨blk,0,none⟩:=by
    rcases hown.2 with⟨q,q2⟩|⟨g',cap,cur,q,_⟩
    . omega
    . cases q;exact⟨g',rfl⟩
   subst hblk
   have hvl:vals.length=xs.length*szOf T e:=hown.1
   have hF:∀ i:Fin m,∃ x:SRow (szOf T) V (szOf T e) fo,xs[i.1]? = some x.1.2/\∀ j,j<szOf T e->x.1.1[j]? = vals[i.1*szOf T e+j]?:=by
    intro i
    have hi:i.1<xs.length:=by omega
    have hx:=List.getElem?_eq_getElem hi
    have hle:(i.1+1)*szOf T e<=xs.length*szOf T e:=Nat.mul_le_mul_right _ hi
    rw[Nat.add_mul,Nat.one_mul] at hle
    have hget:∀ j,j<szOf T e->((vals.drop (i.1*szOf T e)).take (szOf T e))[j]? = vals[i.1*szOf T e+j]?:=fun j hj=>by
     rw[List.getElem?_take_of_lt hj,List.getElem?_drop]
    have hlen:=hR.len i.1 _ hx
    refine⟨⟨((vals.drop (i.1*szOf T e)).take (szOf T e),xs[i.1]),?_,hlen,?_,?_,?_⟩,hx,hget⟩
    . rw[List.length_take,List.length_drop];omega
    . intro v hv
      exact hR.one v (List.mem_of_mem_drop (List.mem_of_mem_take hv))
    . intro j v d h1 h2
      have hj:j<szOf T e:=by rw[<- hlen];exact (List.getElem?_eq_some_iff.1 h2).1
      dsimp only at h1
      rw[hget j hj] at h1
      obtain⟨u,hu1,hu2⟩:=hR.rel i.1 _ j d hx h2
      rw[h1] at hu1
      cases hu1
      exact hu2
    . exact hkeys _ (by
        have:(xs.take m)[i.1]? = some xs[i.1]:=by rw[List.getElem?_take_of_lt i.2];exact hx
        exact List.mem_of_getElem? this)
   let F:Fin m->SRow (szOf T) V (szOf T e) fo:=fun i=>Classical.choose (hF i)
   have hF1:∀ i,xs[i.1]? = some (F i).1.2:=fun i=>(Classical.choose_spec (hF i)).1
   have hF2:∀ i j,j<szOf T e->(F i).1.1[j]? = vals[i.1*szOf T e+j]?:=fun i=>(Classical.choose_spec (hF i)).2
   letI:Inhabited (SRow (szOf T) V (szOf T e) fo):=⟨F ⟨0,by omega⟩⟩
   let d:=Array.ofFn F
   have hds:d.size=m:=Array.size_ofFn
   have hdg:∀ i (hi:i<m),d[i]! = F ⟨i,hi⟩:=fun i hi=>by
    rw[getElem!_pos d i (by rw[hds];exact hi)]
    simp[d]
   have hkey:∀ x:SRow (szOf T) V (szOf T e) fo,x.1.1[fo]? = some (.string (bstr x.key)):=by
    intro x
    obtain⟨l,hl⟩:=x.2.2.2.2.2
    have hfo:fo<szOf T e:=by rw[<- x.2.2.1];exact (List.getElem?_eq_some_iff.1 hl).1
    have hfo1:fo<x.1.1.length:=by rw[x.2.1];exact hfo
    have hv:x.1.1[fo]? = some x.1.1[fo]:=List.getElem?_eq_getElem hfo1
    have hri:=x.2.2.2.2.1 fo _ _ hv hl
    have hke:x.key=l:=by unfold SRow.key;rw[hl]
    have hs:=(RS.imm (μ:=[]) (ω:=[]) _ _ hri).str_
    rw[hke,hv,hs]
   have hpos:0<szOf T e:=by
    obtain⟨l,hl⟩:=(F ⟨0,by omega⟩).2.2.2.2.2
    have:=(List.getElem?_eq_some_iff.1 hl).1
    rw[(F ⟨0,by omega⟩).2.2.1] at this
    omega
   have hheap:∃ cur,w.heap[blk]? = some (.cells cur e (0,0)):=by
    rcases hown.2 with⟨q,_⟩|⟨g',cap,cur,q,_,hh,_⟩
    . cases q
    . cases q;exact⟨cur,hh⟩
   obtain⟨cur,hheap⟩:=hheap
   have hHold:HoldsK (fun x:SRow (szOf T) V (szOf T e) fo=>x.1.1) (szOf T e) w blk 0 d:=by
    intro j hj
    rw[size_flatK,hds] at hj
    have hjk:j / szOf T e<m:=Nat.div_lt_of_lt_mul (by rw[Nat.mul_comm];exact hj)
    have hjm:=Nat.mod_lt j hpos
    refine⟨?_,by simp[World.frozen?,hheap]⟩
    rw[get_flatK _ _ _ _ (by rw[hds];exact hj),hdg _ hjk]
    have h3:=hF2 ⟨j / szOf T e,hjk⟩ (j % szOf T e) hjm
    have h4:(F ⟨j / szOf T e,hjk⟩).1.1[j % szOf T e]? = some (F ⟨j / szOf T e,hjk⟩).1.1[j % szOf T e]!:=by
     rw[getElem!_pos _ _ (by rw[(F ⟨j / szOf T e,hjk⟩).2.1];exact hjm)]
     exact List.getElem?_eq_getElem _
    rw[h4,Nat.mul_comm,Nat.div_add_mod] at h3
    have:=hown.cells (g:=blk) rfl j _ h3.symm
    rw[add_lit] at this
    exact this
   obtain⟨vs,tb,hh,hs,ho,hRb,_⟩:=hS.mem.hbox i g1 _ hg1 hb
   have hvs0:0<vs.size:=by rw[hs];simp
   have hvs:∃ v,vs[0]? = some v:=⟨vs[0],Array.getElem?_eq_getElem hvs0⟩
   obtain⟨v0,hv0⟩:=hvs
   obtain⟨Ab,Nb,cb,hωb,_,hvb⟩:=(hRb 0 v0 _ hv0 rfl).own_
   rw[hω] at hωb
   cases hωb
   have hBs:w.cell? ⟨g1,0,none⟩=some (.slice (some ⟨blk,0,none⟩) m c):=by
    rw[cell_of_row w g1 0 vs tb (0,0) hh,hv0,hvb]
   have hgl:g1<w.heap.size:=(Array.getElem?_eq_some_iff.1 hh).1
   have hne:g1 ≠ blk:=fun e'=>by
    have:=hS.mem.uniq (.inl i) (.inr r) g1 hg1 ⟨_,_,hω,hr,by rw[e'];rfl⟩
    cases this
   have hcall:=hC.big (SRow (szOf T) V (szOf T e) fo) (fun x=>x.1.1) SRow.key (fun x=>x.2.1) (fun x=>x.2.2.2.1) hkey blk c g1 d (by rw[hds];exact hm2') (by rw[hds];exact hm2) w hHold (Array.getElem?_eq_some_iff.1 hheap).1 (by rw[hds];exact hBs) hgl hne
   rw[hds] at hcall
   refine hcall.mono ?_
   rintro e' w' ⟨rfl,d',q,os,hperm,hsort,rfl⟩
   have hds':d'.size=m:=by rw[hperm.1,hds]
   obtain⟨hgrow,hown'⟩:=sorted_row (q:=q) (enc:=fun x:SRow (szOf T) V (szOf T e) fo=>x.1.1) (d:=d') (os:=os) hown hm hds'
   have hdmap:d.toList.map (fun x=>x.1.2)=xs.take m:=by
    apply List.ext_getElem?
    intro j
    rw[List.getElem?_map,Array.getElem?_toList]
    by_cases hj:j<m
    . rw[Array.getElem?_eq_getElem (by rw[hds];exact hj),List.getElem?_take_of_lt hj,hF1 ⟨j,hj⟩]
      simp[d]
    . rw[Array.getElem?_eq_none (by rw[hds];omega),List.getElem?_take,if_neg hj]
      rfl
   have hpl:d'.toList.Perm d.toList:=by
    have:=hperm.2.2
    rwa [show d'.extract 0 m=d' from by rw[<- hds'];simp,show d.extract 0 m=d from by rw[<- hds];simp] at this
   have hdg':∀ (j:Nat) (x:SRow (szOf T) V (szOf T e) fo),d'.toList[j]? = some x->d'[j]! = x:=fun j x hx=>by
    rw[Array.getElem?_toList] at hx
    obtain⟨hj,rfl⟩:=Array.getElem?_eq_some_iff.1 hx
    exact getElem!_pos d' j hj
   refine fin _ (d'.toList.map fun x=>x.1.2) (fun ds h=>h.ownGrown hS.mem hω hr hgrow) (by rw[<- hdmap];exact hpl.map _) ?_ ?_
   . unfold RowsUp
     rw[List.pairwise_map,List.pairwise_iff_getElem]
     intro i1 j1 hi1 hj1 hij a b ha hb'
     have s1:=hsort i1 j1 (Nat.zero_le _) hij (by simpa[hds'] using hj1)
     rw[hdg' i1 _ (List.getElem?_eq_getElem hi1),hdg' j1 _ (List.getElem?_eq_getElem hj1)] at s1
     have k1:SRow.key d'.toList[i1]=a:=by unfold SRow.key;rw[ha]
     have k2:SRow.key d'.toList[j1]=b:=by unfold SRow.key;rw[hb']
     dsimp only at s1
     rw[k1,k2] at s1
     exact s1
   . have hlen':((d'.toList.map fun x=>x.1.2)++xs.drop m).length=xs.length:=by
       rw[List.length_append,List.length_map,Array.length_toList,hds',List.length_drop];omega
     have hωs:ω.set r (.slice (some ⟨blk,0,none⟩) xs.length c)=ω:=by
      apply List.ext_getElem?
      intro q
      by_cases hq:q=r
      . subst hq;rw[List.getElem?_set_self (List.getElem?_eq_some_iff.1 hω).1,hω]
      . rw[List.getElem?_set_ne (Ne.symm hq)]
     have hfl:(flatK (fun x:SRow (szOf T) V (szOf T e) fo=>x.1.1) (szOf T e) d').toList.length=m*szOf T e:=by rw[Array.length_toList,size_flatK,hds']
     have hflg:∀ j,j<m*szOf T e->(flatK (fun x:SRow (szOf T) V (szOf T e) fo=>x.1.1) (szOf T e) d').toList[j]? = some (d'[j / szOf T e]!.1.1[j % szOf T e]!):=fun j hj=>by
      rw[Array.getElem?_toList,Array.getElem?_eq_getElem (by rw[size_flatK,hds'];exact hj)]
      have:=get_flatK (fun x:SRow (szOf T) V (szOf T e) fo=>x.1.1) (szOf T e) d' j (by rw[hds'];exact hj)
      rw[getElem!_pos _ _ (by rw[size_flatK,hds'];exact hj)] at this
      rw[this]
     have hM:=hS.mem.setRow_ (w':=grow (putRowK (fun x:SRow (szOf T) V (szOf T e) fo=>x.1.1) (szOf T e) (Sort.ahead w q) blk 0 d') os) (v':=.slice (some ⟨blk,0,none⟩) xs.length c) (e:=e) (ys:=(d'.toList.map fun x=>x.1.2)++xs.drop m)
      (vals:=(flatK (fun x:SRow (szOf T) V (szOf T e) fo=>x.1.1) (szOf T e) d').toList++vals.drop (m*szOf T e)) hω hr hgrow (by rw[hlen'];exact hown') ?_ (.inl rfl) (box':=box) rfl ?_ (fun i cs cs' h1 h2 t h=>by rw[h1] at h2;cases h2;exact h)
     . rw[hωs] at hM
       exact hM
     . refine⟨fun u hu=>?_,fun i1 rw1 h1=>?_,fun i1 rw1 j1 d1 h1 h2=>?_⟩
       . rcases List.mem_append.1 hu with hu|hu
         . obtain⟨j,hj⟩:=List.mem_iff_getElem?.1 hu
           have hjl:j<m*szOf T e:=by rw[<- hfl];exact (List.getElem?_eq_some_iff.1 hj).1
           rw[hflg j hjl] at hj
           cases hj
           generalize d'[j / szOf T e]! = x
           refine x.2.2.2.1 _ ?_
           have hx:j % szOf T e<x.1.1.length:=by rw[x.2.1];exact Nat.mod_lt j hpos
           rw[getElem!_pos x.1.1 _ hx]
           exact List.getElem_mem hx
         . exact hR.one u (List.mem_of_mem_drop hu)
       . by_cases hi1:i1<m
         . rw[List.getElem?_append_left (by rw[List.length_map,Array.length_toList,hds'];exact hi1),List.getElem?_map] at h1
           obtain⟨x,_,rfl⟩:=Option.map_eq_some_iff.1 h1
           exact x.2.2.1
         . rw[List.getElem?_append_right (by rw[List.length_map,Array.length_toList,hds'];omega),List.getElem?_drop] at h1
           exact hR.len _ rw1 h1
       . by_cases hi1:i1<m
         . rw[List.getElem?_append_left (by rw[List.length_map,Array.length_toList,hds'];exact hi1),List.getElem?_map] at h1
           obtain⟨x,hx,rfl⟩:=Option.map_eq_some_iff.1 h1
           have hj1:j1<szOf T e:=by rw[<- x.2.2.1];exact (List.getElem?_eq_some_iff.1 h2).1
           have hlt:i1*szOf T e+j1<m*szOf T e:=by
            have:(i1+1)*szOf T e<=m*szOf T e:=Nat.mul_le_mul_right _ hi1
            rw[Nat.add_mul] at this;omega
           have hdv:(i1*szOf T e+j1) / szOf T e=i1:=by rw[Nat.mul_comm,Nat.mul_add_div hpos,Nat.div_eq_of_lt hj1,Nat.add_zero]
           have hmd:(i1*szOf T e+j1) % szOf T e=j1:=by rw[Nat.mul_comm,Nat.mul_add_mod,Nat.mod_eq_of_lt hj1]
           have hdx:=hdg' i1 x hx
           have hx1:x.1.1[j1]? = some x.1.1[j1]!:=by
            rw[getElem!_pos _ _ (by rw[x.2.1];exact hj1)]
            exact List.getElem?_eq_getElem _
           refine⟨x.1.1[j1]!,?_,x.2.2.2.2.1 j1 _ d1 hx1 h2⟩
           rw[List.getElem?_append_left (by rw[hfl];exact hlt),hflg _ hlt,hdv,hmd,hdx]
         . rw[List.getElem?_append_right (by rw[List.length_map,Array.length_toList,hds'];omega),List.getElem?_drop,List.length_map,Array.length_toList,hds',show m+(i1 - m)=i1 by omega] at h1
           obtain⟨u,hu1,hu2⟩:=hR.rel i1 rw1 j1 d1 h1 h2
           have hge:m*szOf T e<=i1*szOf T e:=Nat.mul_le_mul_right _ (by omega)
           exact⟨u,by rw[List.getElem?_append_right (by rw[hfl];omega),hfl,List.getElem?_drop,show m*szOf T e+(i1*szOf T e+j1 - m*szOf T e)=i1*szOf T e+j1 by omega];exact hu1,hu2⟩
     . intro i1 cs cs' h1 h2
       rw[h1] at h2
       cases h2
       refine⟨rfl,fun j u dd dd' h3 h4 hrs=>?_⟩
       rw[h3] at h4
       cases h4
       rw[hωs]
       exact hrs
end
end Go.Vx
namespace Go.Proofs.YtaiondckookpiaaDoor
open Go Go.Vx
def T:Tab:=fun t=>match t with
 | 3=>some ⟨1,8,.int .i64,[.i .i64 0]⟩
 | 4=>some ⟨1,1,.bool,[.ff]⟩
 | 5=>some ⟨1,1,.int .u8,[.i .u8 0]⟩
 | 9=>some ⟨1,16,.str,[.s []]⟩
 | 20=>some ⟨1,16,.other,[.nilI]⟩
 | 22=>some ⟨1,24,.slice 81,[.nilS]⟩
 | 24=>some ⟨2,32,.struct [(0,3),(1,22)],[.i .i64 0,.nilS]⟩
 | 25=>some ⟨1,24,.slice 111,[.nilS]⟩
 | 27=>some ⟨2,32,.struct [(0,3),(1,25)],[.i .i64 0,.nilS]⟩
 | 33=>some ⟨1,8,.int .i64,[.i .i64 0]⟩
 | 40=>some ⟨1,24,.slice 9,[.nilS]⟩
 | 43=>some ⟨1,8,.other,[.nilF]⟩
 | 50=>some ⟨1,24,.slice 3,[.nilS]⟩
 | 51=>some ⟨1,24,.slice 24,[.nilS]⟩
 | 52=>some ⟨1,24,.slice 69,[.nilS]⟩
 | 56=>some ⟨1,24,.slice 59,[.nilS]⟩
 | 59=>some ⟨4,72,.struct [(0,52),(1,52),(2,3),(3,9)],[.nilS,.nilS,.i .i64 0,.s []]⟩
 | 65=>some ⟨1,8,.int .u64,[.i .u64 0]⟩
 | 67=>some ⟨4,32,.array 4 65,[.i .u64 0,.i .u64 0,.i .u64 0,.i .u64 0]⟩
 | 69=>some ⟨9,72,.struct [(0,3),(1,67),(5,67)],[.i .i64 0,.i .u64 0,.i .u64 0,.i .u64 0,.i .u64 0,.i .u64 0,.i .u64 0,.i .u64 0,.i .u64 0]⟩
 | 76=>some ⟨1,24,.slice 52,[.nilS]⟩
 | 81=>some ⟨11,112,.struct [(0,69),(9,52),(10,9)],[.i .i64 0,.i .u64 0,.i .u64 0,.i .u64 0,.i .u64 0,.i .u64 0,.i .u64 0,.i .u64 0,.i .u64 0,.nilS,.s []]⟩
 | 85=>some ⟨1,8,.ptr 88,[.nilP]⟩
 | 86=>some ⟨1,24,.slice 5,[.nilS]⟩
 | 88=>some ⟨2,32,.struct [(0,85),(1,86)],[.nilP,.nilS]⟩
 | 94=>some ⟨1,8,.other,[.nilF]⟩
 | 100=>some ⟨1,8,.other,[.nilF]⟩
 | 106=>some ⟨1,8,.other,[.nilF]⟩
 | 111=>some ⟨2,40,.struct [(0,9),(1,40)],[.s [],.nilS]⟩
 | 116=>some ⟨0,0,.struct [],[]⟩
 | 120=>some ⟨1,8,.other,[.nilF]⟩
 | 121=>some ⟨1,24,.slice 123,[.nilS]⟩
 | 123=>some ⟨10,88,.struct [(0,69),(9,9)],[.i .i64 0,.i .u64 0,.i .u64 0,.i .u64 0,.i .u64 0,.i .u64 0,.i .u64 0,.i .u64 0,.i .u64 0,.s []]⟩
 | 126=>some ⟨1,8,.other,[.nilF]⟩
 | 128=>some ⟨1,8,.other,[.nilF]⟩
 | 132=>some ⟨1,8,.ptr 67,[.nilP]⟩
 | _=>none
theorem good3:Vx.Good Tryd.prog 3 ⟨1,8,.int .i64,[.i .i64 0]⟩:=
 ⟨⟨Tryd.t3,.int .i64 0,by kernel_rfl,rfl,rfl,rfl,rfl,rfl,by simp[Value.cells,Value.oneCell']⟩,Tryd.underlying3,fun w=>Tryd.isAgg3 w,by decide⟩
theorem good4:Vx.Good Tryd.prog 4 ⟨1,1,.bool,[.ff]⟩:=
 ⟨⟨Tryd.t4,.bool false,by kernel_rfl,rfl,rfl,rfl,rfl,rfl,by simp[Value.cells,Value.oneCell']⟩,Tryd.underlying4,fun w=>Tryd.isAgg4 w,by decide⟩
theorem good5:Vx.Good Tryd.prog 5 ⟨1,1,.int .u8,[.i .u8 0]⟩:=
 ⟨⟨Tryd.t5,.int .u8 0,by kernel_rfl,rfl,rfl,rfl,rfl,rfl,by simp[Value.cells,Value.oneCell']⟩,Tryd.underlying5,fun w=>Tryd.isAgg5 w,by decide⟩
theorem good9:Vx.Good Tryd.prog 9 ⟨1,16,.str,[.s []]⟩:=
 ⟨⟨Tryd.t9,.string ⟨#[]⟩,by kernel_rfl,rfl,rfl,rfl,rfl,rfl,by simp[Value.cells,Value.oneCell']⟩,Tryd.underlying9,fun w=>Tryd.isAgg9 w,by decide⟩
theorem good20:Vx.Good Tryd.prog 20 ⟨1,16,.other,[.nilI]⟩:=
 ⟨⟨Tryd.t20,.nilIface,by kernel_rfl,rfl,rfl,rfl,rfl,rfl,by simp[Value.cells,Value.oneCell']⟩,trivial,fun w=>Tryd.isAgg20 w,by decide⟩
theorem good22:Vx.Good Tryd.prog 22 ⟨1,24,.slice 81,[.nilS]⟩:=
 ⟨⟨Tryd.t22,.slice none 0 0,by kernel_rfl,rfl,rfl,rfl,rfl,rfl,by simp[Value.cells,Value.oneCell']⟩,Tryd.underlying22,fun w=>Tryd.isAgg22 w,by decide⟩
theorem good24:Vx.Good Tryd.prog 24 ⟨2,32,.struct [(0,3),(1,22)],[.i .i64 0,.nilS]⟩:=
 ⟨⟨Tryd.t24,.agg #[.int .i64 0,.slice none 0 0],by kernel_rfl,rfl,rfl,rfl,rfl,rfl,by simp[Value.cells,Value.oneCell']⟩,⟨_,Tryd.underlying24,rfl⟩,fun w=>Tryd.isAgg24 w,by decide⟩
theorem good25:Vx.Good Tryd.prog 25 ⟨1,24,.slice 111,[.nilS]⟩:=
 ⟨⟨Tryd.t25,.slice none 0 0,by kernel_rfl,rfl,rfl,rfl,rfl,rfl,by simp[Value.cells,Value.oneCell']⟩,Tryd.underlying25,fun w=>Tryd.isAgg25 w,by decide⟩
theorem good27:Vx.Good Tryd.prog 27 ⟨2,32,.struct [(0,3),(1,25)],[.i .i64 0,.nilS]⟩:=
 ⟨⟨Tryd.t27,.agg #[.int .i64 0,.slice none 0 0],by kernel_rfl,rfl,rfl,rfl,rfl,rfl,by simp[Value.cells,Value.oneCell']⟩,⟨_,Tryd.underlying27,rfl⟩,fun w=>Tryd.isAgg27 w,by decide⟩
theorem good33:Vx.Good Tryd.prog 33 ⟨1,8,.int .i64,[.i .i64 0]⟩:=
 ⟨⟨Tryd.t33,.int .i64 0,by kernel_rfl,rfl,rfl,rfl,rfl,rfl,by simp[Value.cells,Value.oneCell']⟩,Tryd.underlying33,fun w=>Tryd.isAgg33 w,by decide⟩
theorem good40:Vx.Good Tryd.prog 40 ⟨1,24,.slice 9,[.nilS]⟩:=
 ⟨⟨Tryd.t40,.slice none 0 0,by kernel_rfl,rfl,rfl,rfl,rfl,rfl,by simp[Value.cells,Value.oneCell']⟩,Tryd.underlying40,fun w=>Tryd.isAgg40 w,by decide⟩
theorem good43:Vx.Good Tryd.prog 43 ⟨1,8,.other,[.nilF]⟩:=
 ⟨⟨Tryd.t43,.nilFunc,by kernel_rfl,rfl,rfl,rfl,rfl,rfl,by simp[Value.cells,Value.oneCell']⟩,trivial,fun w=>Tryd.isAgg43 w,by decide⟩
theorem good50:Vx.Good Tryd.prog 50 ⟨1,24,.slice 3,[.nilS]⟩:=
 ⟨⟨Tryd.t50,.slice none 0 0,by kernel_rfl,rfl,rfl,rfl,rfl,rfl,by simp[Value.cells,Value.oneCell']⟩,Tryd.underlying50,fun w=>Tryd.isAgg50 w,by decide⟩
theorem good51:Vx.Good Tryd.prog 51 ⟨1,24,.slice 24,[.nilS]⟩:=
 ⟨⟨Tryd.t51,.slice none 0 0,by kernel_rfl,rfl,rfl,rfl,rfl,rfl,by simp[Value.cells,Value.oneCell']⟩,Tryd.underlying51,fun w=>Tryd.isAgg51 w,by decide⟩
theorem good52:Vx.Good Tryd.prog 52 ⟨1,24,.slice 69,[.nilS]⟩:=
 ⟨⟨Tryd.t52,.slice none 0 0,by kernel_rfl,rfl,rfl,rfl,rfl,rfl,by simp[Value.cells,Value.oneCell']⟩,Tryd.underlying52,fun w=>Tryd.isAgg52 w,by decide⟩
theorem good56:Vx.Good Tryd.prog 56 ⟨1,24,.slice 59,[.nilS]⟩:=
 ⟨⟨Tryd.t56,.slice none 0 0,by kernel_rfl,rfl,rfl,rfl,rfl,rfl,by simp[Value.cells,Value.oneCell']⟩,Tryd.underlying56,fun w=>Tryd.isAgg56 w,by decide⟩
theorem good59:Vx.Good Tryd.prog 59 ⟨4,72,.struct [(0,52),(1,52),(2,3),(3,9)],[.nilS,.nilS,.i .i64 0,.s []]⟩:=
 ⟨⟨Tryd.t59,.agg #[.slice none 0 0,.slice none 0 0,.int .i64 0,.string ⟨#[]⟩],by kernel_rfl,rfl,rfl,rfl,rfl,rfl,by simp[Value.cells,Value.oneCell']⟩,⟨_,Tryd.underlying59,rfl⟩,fun w=>Tryd.isAgg59 w,by decide⟩
theorem good65:Vx.Good Tryd.prog 65 ⟨1,8,.int .u64,[.i .u64 0]⟩:=
 ⟨⟨Tryd.t65,.int .u64 0,by kernel_rfl,rfl,rfl,rfl,rfl,rfl,by simp[Value.cells,Value.oneCell']⟩,Tryd.underlying65,fun w=>Tryd.isAgg65 w,by decide⟩
theorem good67:Vx.Good Tryd.prog 67 ⟨4,32,.array 4 65,[.i .u64 0,.i .u64 0,.i .u64 0,.i .u64 0]⟩:=
 ⟨⟨Tryd.t67,.agg #[.int .u64 0,.int .u64 0,.int .u64 0,.int .u64 0],by kernel_rfl,rfl,rfl,rfl,rfl,rfl,by simp[Value.cells,Value.oneCell']⟩,Tryd.underlying67,fun w=>Tryd.isAgg67 w,by decide⟩
theorem good69:Vx.Good Tryd.prog 69 ⟨9,72,.struct [(0,3),(1,67),(5,67)],[.i .i64 0,.i .u64 0,.i .u64 0,.i .u64 0,.i .u64 0,.i .u64 0,.i .u64 0,.i .u64 0,.i .u64 0]⟩:=
 ⟨⟨Tryd.t69,.agg #[.int .i64 0,.int .u64 0,.int .u64 0,.int .u64 0,.int .u64 0,.int .u64 0,.int .u64 0,.int .u64 0,.int .u64 0],by kernel_rfl,rfl,rfl,rfl,rfl,rfl,by simp[Value.cells,Value.oneCell']⟩,⟨_,Tryd.underlying69,rfl⟩,fun w=>Tryd.isAgg69 w,by decide⟩
theorem good76:Vx.Good Tryd.prog 76 ⟨1,24,.slice 52,[.nilS]⟩:=
 ⟨⟨Tryd.t76,.slice none 0 0,by kernel_rfl,rfl,rfl,rfl,rfl,rfl,by simp[Value.cells,Value.oneCell']⟩,Tryd.underlying76,fun w=>Tryd.isAgg76 w,by decide⟩
theorem good81:Vx.Good Tryd.prog 81 ⟨11,112,.struct [(0,69),(9,52),(10,9)],[.i .i64 0,.i .u64 0,.i .u64 0,.i .u64 0,.i .u64 0,.i .u64 0,.i .u64 0,.i .u64 0,.i .u64 0,.nilS,.s []]⟩:=
 ⟨⟨Tryd.t81,.agg #[.int .i64 0,.int .u64 0,.int .u64 0,.int .u64 0,.int .u64 0,.int .u64 0,.int .u64 0,.int .u64 0,.int .u64 0,.slice none 0 0,.string ⟨#[]⟩],by kernel_rfl,rfl,rfl,rfl,rfl,rfl,by simp[Value.cells,Value.oneCell']⟩,⟨_,Tryd.underlying81,rfl⟩,fun w=>Tryd.isAgg81 w,by decide⟩
theorem good85:Vx.Good Tryd.prog 85 ⟨1,8,.ptr 88,[.nilP]⟩:=
 ⟨⟨Tryd.t85,.pointer none,by kernel_rfl,rfl,rfl,rfl,rfl,rfl,by simp[Value.cells,Value.oneCell']⟩,Tryd.underlying85,fun w=>Tryd.isAgg85 w,by decide⟩
theorem good86:Vx.Good Tryd.prog 86 ⟨1,24,.slice 5,[.nilS]⟩:=
 ⟨⟨Tryd.t86,.slice none 0 0,by kernel_rfl,rfl,rfl,rfl,rfl,rfl,by simp[Value.cells,Value.oneCell']⟩,Tryd.underlying86,fun w=>Tryd.isAgg86 w,by decide⟩
theorem good88:Vx.Good Tryd.prog 88 ⟨2,32,.struct [(0,85),(1,86)],[.nilP,.nilS]⟩:=
 ⟨⟨Tryd.t88,.agg #[.pointer none,.slice none 0 0],by kernel_rfl,rfl,rfl,rfl,rfl,rfl,by simp[Value.cells,Value.oneCell']⟩,⟨_,Tryd.underlying88,rfl⟩,fun w=>Tryd.isAgg88 w,by decide⟩
theorem good94:Vx.Good Tryd.prog 94 ⟨1,8,.other,[.nilF]⟩:=
 ⟨⟨Tryd.t94,.nilFunc,by kernel_rfl,rfl,rfl,rfl,rfl,rfl,by simp[Value.cells,Value.oneCell']⟩,trivial,fun w=>Tryd.isAgg94 w,by decide⟩
theorem good100:Vx.Good Tryd.prog 100 ⟨1,8,.other,[.nilF]⟩:=
 ⟨⟨Tryd.t100,.nilFunc,by kernel_rfl,rfl,rfl,rfl,rfl,rfl,by simp[Value.cells,Value.oneCell']⟩,trivial,fun w=>Tryd.isAgg100 w,by decide⟩
theorem good106:Vx.Good Tryd.prog 106 ⟨1,8,.other,[.nilF]⟩:=
 ⟨⟨Tryd.t106,.nilFunc,by kernel_rfl,rfl,rfl,rfl,rfl,rfl,by simp[Value.cells,Value.oneCell']⟩,trivial,fun w=>Tryd.isAgg106 w,by decide⟩
theorem good111:Vx.Good Tryd.prog 111 ⟨2,40,.struct [(0,9),(1,40)],[.s [],.nilS]⟩:=
 ⟨⟨Tryd.t111,.agg #[.string ⟨#[]⟩,.slice none 0 0],by kernel_rfl,rfl,rfl,rfl,rfl,rfl,by simp[Value.cells,Value.oneCell']⟩,⟨_,Tryd.underlying111,rfl⟩,fun w=>Tryd.isAgg111 w,by decide⟩
theorem good116:Vx.Good Tryd.prog 116 ⟨0,0,.struct [],[]⟩:=
 ⟨⟨Tryd.t116,.agg #[],by kernel_rfl,rfl,rfl,rfl,rfl,rfl,by simp[Value.cells,Value.oneCell']⟩,⟨_,Tryd.underlying116,rfl⟩,fun w=>Tryd.isAgg116 w,by decide⟩
theorem good120:Vx.Good Tryd.prog 120 ⟨1,8,.other,[.nilF]⟩:=
 ⟨⟨Tryd.t120,.nilFunc,by kernel_rfl,rfl,rfl,rfl,rfl,rfl,by simp[Value.cells,Value.oneCell']⟩,trivial,fun w=>Tryd.isAgg120 w,by decide⟩
theorem good121:Vx.Good Tryd.prog 121 ⟨1,24,.slice 123,[.nilS]⟩:=
 ⟨⟨Tryd.t121,.slice none 0 0,by kernel_rfl,rfl,rfl,rfl,rfl,rfl,by simp[Value.cells,Value.oneCell']⟩,Tryd.underlying121,fun w=>Tryd.isAgg121 w,by decide⟩
theorem good123:Vx.Good Tryd.prog 123 ⟨10,88,.struct [(0,69),(9,9)],[.i .i64 0,.i .u64 0,.i .u64 0,.i .u64 0,.i .u64 0,.i .u64 0,.i .u64 0,.i .u64 0,.i .u64 0,.s []]⟩:=
 ⟨⟨Tryd.t123,.agg #[.int .i64 0,.int .u64 0,.int .u64 0,.int .u64 0,.int .u64 0,.int .u64 0,.int .u64 0,.int .u64 0,.int .u64 0,.string ⟨#[]⟩],by kernel_rfl,rfl,rfl,rfl,rfl,rfl,by simp[Value.cells,Value.oneCell']⟩,⟨_,Tryd.underlying123,rfl⟩,fun w=>Tryd.isAgg123 w,by decide⟩
theorem good126:Vx.Good Tryd.prog 126 ⟨1,8,.other,[.nilF]⟩:=
 ⟨⟨Tryd.t126,.nilFunc,by kernel_rfl,rfl,rfl,rfl,rfl,rfl,by simp[Value.cells,Value.oneCell']⟩,trivial,fun w=>Tryd.isAgg126 w,by decide⟩
theorem good128:Vx.Good Tryd.prog 128 ⟨1,8,.other,[.nilF]⟩:=
 ⟨⟨Tryd.t128,.nilFunc,by kernel_rfl,rfl,rfl,rfl,rfl,rfl,by simp[Value.cells,Value.oneCell']⟩,trivial,fun w=>Tryd.isAgg128 w,by decide⟩
theorem good132:Vx.Good Tryd.prog 132 ⟨1,8,.ptr 67,[.nilP]⟩:=
 ⟨⟨Tryd.t132,.pointer none,by kernel_rfl,rfl,rfl,rfl,rfl,rfl,by simp[Value.cells,Value.oneCell']⟩,Tryd.underlying132,fun w=>Tryd.isAgg132 w,by decide⟩
set_option maxRecDepth 10000 in
theorem tok:TOk Tryd.prog T:=by
 intro t ti h
 unfold T at h
 split at h
 . cases h;exact good3
 . cases h;exact good4
 . cases h;exact good5
 . cases h;exact good9
 . cases h;exact good20
 . cases h;exact good22
 . cases h;exact good24
 . cases h;exact good25
 . cases h;exact good27
 . cases h;exact good33
 . cases h;exact good40
 . cases h;exact good43
 . cases h;exact good50
 . cases h;exact good51
 . cases h;exact good52
 . cases h;exact good56
 . cases h;exact good59
 . cases h;exact good65
 . cases h;exact good67
 . cases h;exact good69
 . cases h;exact good76
 . cases h;exact good81
 . cases h;exact good85
 . cases h;exact good86
 . cases h;exact good88
 . cases h;exact good94
 . cases h;exact good100
 . cases h;exact good106
 . cases h;exact good111
 . cases h;exact good116
 . cases h;exact good120
 . cases h;exact good121
 . cases h;exact good123
 . cases h;exact good126
 . cases h;exact good128
 . cases h;exact good132
 . cases h
theorem follows:Tryd.prog.follows .mixedOrders=true:=by kernel_rfl
end Go.Proofs.YtaiondckookpiaaDoor
namespace Go.Proofs.YtaiondckookpiaaDoor
open Go Go.Vx
def okC(t:Str):Prop:=CT t/\t ≠ []
open Classical in
noncomputable def zer(t:Str):Str:=if okC t then t else []
open Classical in
noncomputable def perr(t:Str):Int:=if 256<t.length then 2 else if okC t then 0 else 10
theorem zer_of{t:Str}(h:okC t):zer t=t:=by unfold zer;rw[if_pos h]
theorem zer_not{t:Str}(h:¬ okC t):zer t=[]:=by unfold zer;rw[if_neg h]
theorem eqCube:EqT Tryd.prog 69 [.i .i64,.i .u64,.i .u64,.i .u64,.i .u64,.i .u64,.i .u64,.i .u64,.i .u64]:=EqT.of_b tok (ti:=_) rfl rfl (by kernel_rfl)
@[simp] theorem wof_car_nil(k:Nat):wof (car []) k=0#64:=BitVec.eq_of_getLsbD_eq fun i hi=>by rw[wof_get _ _ _ hi];simp[car]
@[simp] theorem wof_one_nil(k:Nat):wof (one []) k=0#64:=BitVec.eq_of_getLsbD_eq fun i hi=>by rw[wof_get _ _ _ hi];simp[one]
def cubOk(t:Str):Prop:=∀ b ∈ t,b=48\/b=49\/b=120
theorem cubOk_step{t:Str}{i:Nat}{b:UInt8}(h:cubOk (t.take i))(hb:t[i]? = some b)(hd:b=48\/b=49\/b=120):cubOk (t.take (i+1)):=by
 intro x hx
 rw[List.take_add_one,hb] at hx
 rcases List.mem_append.1 hx with hx|hx
 . exact h x hx
 . simp at hx;rw[hx];exact hd
theorem u8_ne{b c:UInt8}(h:b ≠ c):¬ ((b.toNat:Nat):Int)=((c.toNat:Nat):Int):=fun e=>h (UInt8.toNat_inj.1 (by omega))
set_option maxHeartbeats 4000000 in
theorem parse_at(t:Str):FSpec Tryd.prog T 44 [.s t] (fun d rows=>d = .tup [.agg (crow (zer t)),.i .i64 (perr t)]/\rows=[]):=by
 refine FSpec.of_ok tok Tryd.func44 rfl Tryd.call44 (by simp) ?_
 (try (conv=>whnf));repeat' (first|refine Ok.seq ?_|((first|refine Ok.region tok ?_|refine Ok.cond ?_);conv=>whnf)|refine Ok.block ?_|((first|refine Ok.skip ?_|refine Ok.ret ?_);conv=>whnf)|(refine bI ?_ ?_<;>intro<;>(conv=>whnf)<;>(try (exfalso;omega)))|fail)
 . rename_i h
   refine Or.inl ?_;(conv=>whnf)
   refine⟨?_,rfl⟩
   rw[zer_not (fun h2=>by have:=h2.1.len;omega),crow_nil]
   unfold perr
   rw[if_pos (by omega)]
   rfl
 . rename_i h0 h
   refine Or.inl ?_;(conv=>whnf)
   refine⟨?_,rfl⟩
   rw[zer_not (fun h2=>h2.2 h),crow_nil]
   unfold perr
   rw[if_neg (by omega),if_neg (fun h2=>h2.2 h)]
   rfl
 . rename_i h0 h1
   have hlen:t.length<=256:=by omega
   have hne:t ≠ []:=h1
   refine Ok.loopU [0,2,4,17] [18] 0 2 (fun (i:Nat)=>[.i .i64 (i:Nat)]) (fun (i:Nat) (_:List (List D))=>[[.i .i64 0,.i .u64 0,.i .u64 0,.i .u64 0,.i .u64 0,.i .u64 0,.i .u64 0,.i .u64 0,.i .u64 0],cells9 t.length (car (t.take i)) (one (t.take i))]) (fun _ r=>r) (fun (i:Nat)=>i<=t.length/\cubOk (t.take i)) (fun (i:Nat)=>t.length - i) (0) (⟨Nat.zero_le _,by simp[cubOk]⟩) ?_;(conv=>whnf);refine⟨by ((conv=>whnf);first|rfl|(simp[envCat,List.take_of_length_le,cells9];done)|(simp[envCat,List.take_of_length_le,cells9];rw[IntKind.wrap_i64];omega)),?_⟩
   rintro i ⟨hi,hok⟩
   (conv=>whnf)
   by_cases hit:i<t.length
   . obtain⟨b,hb⟩:∃ b,t[i]? = some b:=⟨_,List.getElem?_eq_getElem hit⟩
     have hbI:t[((i:Nat):Int).toNat]? = some b:=hb
     obtain⟨q,r,hqr,hr,hq⟩:=split64 i (by omega)
     have hrem:=rem64 hqr hr
     have hquo:=quo64 hqr hr (by omega)
     have hrr:((r:Nat):Int)=((r:Nat):Int)/\r<64:=⟨rfl,hr⟩
     by_cases h49:b=49
     . subst h49
       have hn:(((49:UInt8).toNat:Nat):Int)=49:=rfl
       rcases hq with rfl|rfl|rfl|rfl
       all_goals
        (try (conv=>whnf));repeat' (first|refine Ok.seq ?_|((first|refine Ok.region tok ?_|refine Ok.cond ?_);conv=>whnf)|refine Ok.block ?_|((first|refine Ok.skip ?_|refine⟨_,by assumption,?_⟩);conv=>whnf)|(refine bI ?_ ?_<;>intro<;>(conv=>whnf)<;>(try (exfalso;omega)))|(refine aJ ?_;conv=>whnf)|fail)
        refine Or.inr (Or.inr (Or.inl ?_));(conv=>whnf);refine⟨_,_,Tryd.func70,rfl,Tryd.call70,?_⟩;(conv=>whnf)
        (try (conv=>whnf));repeat' (first|((first|(with_reducible_and_instances (first|refine nShl1' rfl (by assumption) ?_|refine nOr ?_))|refine Ok.region tok ?_|refine Ok.region_plan (id:=0) tok follows [(5,12,[])] [.q 0,.q 1,.q 2,.q 3,.q 4,.q 5,.q 6,.q 7,.q 8,.q 9,.q 10,.q 11,.l 12] (by kernel_rfl) ?_|refine⟨_,(hquo.symm).symm,?_⟩|refine⟨_,(hrem.symm).symm,?_⟩|refine aJ ?_|refine⟨_,rfl,?_⟩);conv=>whnf)|fail)
        refine Or.inr (Or.inr (Or.inl ?_));(conv=>whnf);refine⟨_,_,Tryd.func70,rfl,Tryd.call70,?_⟩;(conv=>whnf)
        (try (conv=>whnf));repeat' (first|((first|(with_reducible_and_instances (first|refine nShl1' rfl (by assumption) ?_|refine nOr ?_))|refine Ok.region tok ?_|refine Ok.region_plan (id:=0) tok follows [(5,12,[])] [.q 0,.q 1,.q 2,.q 3,.q 4,.q 5,.q 6,.q 7,.q 8,.q 9,.q 10,.q 11,.l 12] (by kernel_rfl) ?_|refine⟨_,(hquo.symm).symm,?_⟩|refine⟨_,(hrem.symm).symm,?_⟩|refine nI ?_|refine aJ ?_|refine⟨_,rfl,?_⟩);conv=>whnf)|fail)
        refine⟨i+1,by omega,⟨by omega,cubOk_step hok hb (by simp)⟩,?_⟩
        have c0:=(put_word (f:=car (t.take i)) (g:=car (t.take (i+1))) hqr hr (car_put hb rfl) 0).trans (by first|exact if_pos rfl|exact if_neg (by decide))
        have c1:=(put_word (f:=car (t.take i)) (g:=car (t.take (i+1))) hqr hr (car_put hb rfl) 1).trans (by first|exact if_pos rfl|exact if_neg (by decide))
        have c2:=(put_word (f:=car (t.take i)) (g:=car (t.take (i+1))) hqr hr (car_put hb rfl) 2).trans (by first|exact if_pos rfl|exact if_neg (by decide))
        have c3:=(put_word (f:=car (t.take i)) (g:=car (t.take (i+1))) hqr hr (car_put hb rfl) 3).trans (by first|exact if_pos rfl|exact if_neg (by decide))
        have o0:=(put_word (f:=one (t.take i)) (g:=one (t.take (i+1))) hqr hr (one_put hb) 0).trans (by first|exact if_pos rfl|exact if_neg (by decide))
        have o1:=(put_word (f:=one (t.take i)) (g:=one (t.take (i+1))) hqr hr (one_put hb) 1).trans (by first|exact if_pos rfl|exact if_neg (by decide))
        have o2:=(put_word (f:=one (t.take i)) (g:=one (t.take (i+1))) hqr hr (one_put hb) 2).trans (by first|exact if_pos rfl|exact if_neg (by decide))
        have o3:=(put_word (f:=one (t.take i)) (g:=one (t.take (i+1))) hqr hr (one_put hb) 3).trans (by first|exact if_pos rfl|exact if_neg (by decide))
        (conv=>whnf)
        simp only[envCat,cells9,c0,c1,c2,c3,o0,o1,o2,o3]
        rfl
     by_cases h48:b=48
     . subst h48
       have hn:(((48:UInt8).toNat:Nat):Int)=48:=rfl
       rcases hq with rfl|rfl|rfl|rfl
       all_goals
        (try (conv=>whnf));repeat' (first|refine Ok.seq ?_|((first|refine Ok.region tok ?_|refine Ok.cond ?_);conv=>whnf)|refine Ok.block ?_|((first|refine Ok.skip ?_|refine⟨_,by assumption,?_⟩);conv=>whnf)|(refine bI ?_ ?_<;>intro<;>(conv=>whnf)<;>(try (exfalso;omega)))|(refine aJ ?_;conv=>whnf)|fail)
        refine Or.inr (Or.inr (Or.inl ?_));(conv=>whnf);refine⟨_,_,Tryd.func70,rfl,Tryd.call70,?_⟩;(conv=>whnf)
        (try (conv=>whnf));repeat' (first|((first|(with_reducible_and_instances (first|refine nShl1' rfl (by assumption) ?_|refine nOr ?_))|refine Ok.region tok ?_|refine Ok.region_plan (id:=0) tok follows [(5,12,[])] [.q 0,.q 1,.q 2,.q 3,.q 4,.q 5,.q 6,.q 7,.q 8,.q 9,.q 10,.q 11,.l 12] (by kernel_rfl) ?_|refine⟨_,(hquo.symm).symm,?_⟩|refine⟨_,(hrem.symm).symm,?_⟩|refine nI ?_|refine aJ ?_|refine⟨_,rfl,?_⟩);conv=>whnf)|fail)
        refine⟨i+1,by omega,⟨by omega,cubOk_step hok hb (by simp)⟩,?_⟩
        have c0:=(put_word (f:=car (t.take i)) (g:=car (t.take (i+1))) hqr hr (car_put hb rfl) 0).trans (by first|exact if_pos rfl|exact if_neg (by decide))
        have c1:=(put_word (f:=car (t.take i)) (g:=car (t.take (i+1))) hqr hr (car_put hb rfl) 1).trans (by first|exact if_pos rfl|exact if_neg (by decide))
        have c2:=(put_word (f:=car (t.take i)) (g:=car (t.take (i+1))) hqr hr (car_put hb rfl) 2).trans (by first|exact if_pos rfl|exact if_neg (by decide))
        have c3:=(put_word (f:=car (t.take i)) (g:=car (t.take (i+1))) hqr hr (car_put hb rfl) 3).trans (by first|exact if_pos rfl|exact if_neg (by decide))
        have o0:=one_same hb (by decide) 0
        have o1:=one_same hb (by decide) 1
        have o2:=one_same hb (by decide) 2
        have o3:=one_same hb (by decide) 3
        (conv=>whnf)
        simp only[envCat,cells9,c0,c1,c2,c3,o0,o1,o2,o3]
        rfl
     have hn49:=u8_ne h49
     have hn48:=u8_ne h48
     have e49:(((49:UInt8).toNat:Nat):Int)=49:=rfl
     have e48:(((48:UInt8).toNat:Nat):Int)=48:=rfl
     rw[e49] at hn49
     rw[e48] at hn48
     by_cases h120:b=120
     . subst h120
       have hn:(((120:UInt8).toNat:Nat):Int)=120:=rfl
       (try (conv=>whnf));repeat' (first|refine Ok.seq ?_|((first|refine Ok.region tok ?_|refine Ok.cond ?_);conv=>whnf)|refine Ok.block ?_|((first|refine Ok.skip ?_|refine nI ?_|refine⟨_,by assumption,?_⟩);conv=>whnf)|(refine bI ?_ ?_<;>intro<;>(conv=>whnf)<;>(try (exfalso;omega)))|(refine aJ ?_;conv=>whnf)|fail)
       refine⟨i+1,by omega,⟨by omega,cubOk_step hok hb (by simp)⟩,?_⟩
       have c0:=car_same hb rfl 0
       have c1:=car_same hb rfl 1
       have c2:=car_same hb rfl 2
       have c3:=car_same hb rfl 3
       have o0:=one_same hb (by decide) 0
       have o1:=one_same hb (by decide) 1
       have o2:=one_same hb (by decide) 2
       have o3:=one_same hb (by decide) 3
       (conv=>whnf)
       simp only[envCat,cells9,c0,c1,c2,c3,o0,o1,o2,o3]
       rfl
     . have hn120:=u8_ne h120
       have e120:(((120:UInt8).toNat:Nat):Int)=120:=rfl
       rw[e120] at hn120
       (try (conv=>whnf));repeat' (first|refine Ok.seq ?_|((first|refine Ok.region tok ?_|refine Ok.cond ?_);conv=>whnf)|refine Ok.block ?_|((first|refine Ok.skip ?_|refine Ok.ret ?_|refine⟨_,by assumption,?_⟩);conv=>whnf)|(refine bI ?_ ?_<;>intro<;>(conv=>whnf)<;>(try (exfalso;omega)))|((first|refine aJ ?_|refine num_any ?_);conv=>whnf)|fail)
       refine Or.inl ?_;(conv=>whnf)
       refine⟨?_,rfl⟩
       have hno:¬ okC t:=fun h2=>by
        rcases h2.1.cub b (List.mem_of_getElem? hb) with e|e|e
        . exact h48 e
        . exact h49 e
        . exact h120 e
       rw[zer_not hno,crow_nil]
       unfold perr
       rw[if_neg (by omega),if_neg hno]
       rfl
   . have he:i=t.length:=by omega
     subst he
     rw[List.take_length] at *
     (try (conv=>whnf));repeat' (first|refine Ok.seq ?_|((first|refine Ok.region tok ?_|refine Ok.cond ?_|refine Ok.exit ?_|refine Ok.ret ?_);conv=>whnf)|(refine bI ?_ ?_<;>intro<;>(conv=>whnf)<;>(try (exfalso;omega)))|fail)
     refine Or.inl ?_;(conv=>whnf)
     refine⟨?_,rfl⟩
     have hyes:okC t:=⟨⟨hlen,hok⟩,hne⟩
     rw[zer_of hyes]
     unfold perr
     rw[if_neg (by omega),if_pos hyes]
     rfl
end Go.Proofs.YtaiondckookpiaaDoor
namespace Go.Proofs.YtaiondckookpiaaDoor
open Go Go.Vx
theorem meetL_get:∀ {c d m:Str},meetL c d=some m->∀ (i:Nat) a b,c[i]? = some a->d[i]? = some b->∃ x,m[i]? = some x/\meet1 a b=some x
 | [],[],_,_,i,a,b,ha,_=>by simp at ha
 | [],_ :: _,_,h,_,_,_,_,_=>by cases h
 | _ :: _,[],_,h,_,_,_,_,_=>by cases h
 | a0 :: c,b0 :: d,m,h,i,a,b,ha,hb=>by
  unfold meetL at h
  cases h1:meet1 a0 b0 with
  | none=>rw[h1] at h;cases h
  | some x=>cases h2:meetL c d with
   | none=>rw[h1,h2] at h;cases h
   | some r=>
    rw[h1,h2] at h
    cases h
    cases i with
    | zero=>simp at ha hb;subst ha hb;exact⟨x,rfl,h1⟩
    | succ i=>exact meetL_get h2 i a b (by simpa using ha) (by simpa using hb)
theorem meetL_ex:∀ {c d:Str},c.length=d.length->(∀ (i:Nat) a b,c[i]? = some a->d[i]? = some b->meet1 a b ≠ none)->∃ m,meetL c d=some m
 | [],[],_,_=>⟨[],rfl⟩
 | [],_ :: _,h,_=>by simp at h
 | _ :: _,[],h,_=>by simp at h
 | a :: c,b :: d,h,hh=>by
  obtain⟨m,hm⟩:=meetL_ex (c:=c) (d:=d) (by simpa using h) fun i a b ha hb=>hh (i+1) a b (by simpa using ha) (by simpa using hb)
  have:=hh 0 a b rfl rfl
  cases h1:meet1 a b with
  | none=>exact absurd h1 this
  | some x=>exact⟨x :: m,by unfold meetL;rw[h1,hm]⟩
theorem meetL_ct:∀ {c d m:Str},meetL c d=some m->(∀ b ∈ c,b=48\/b=49\/b=120)->(∀ b ∈ d,b=48\/b=49\/b=120)->∀ b ∈ m,b=48\/b=49\/b=120
 | [],[],m,h,_,_=>by cases h;simp
 | [],_ :: _,_,h,_,_=>by cases h
 | _ :: _,[],_,h,_,_=>by cases h
 | a0 :: c,b0 :: d,m,h,hc,hd=>by
  unfold meetL at h
  cases h1:meet1 a0 b0 with
  | none=>rw[h1] at h;cases h
  | some x=>cases h2:meetL c d with
   | none=>rw[h1,h2] at h;cases h
   | some r=>
    rw[h1,h2] at h
    cases h
    intro b hb
    rcases List.mem_cons.1 hb with rfl|hb
    . unfold meet1 at h1
      split at h1
      . cases h1;exact hd _ (by simp)
      . split at h1
        . cases h1;exact hc _ (by simp)
        . cases h1
    . exact meetL_ct h2 (fun b hb=>hc b (by simp[hb])) (fun b hb=>hd b (by simp[hb])) b hb
theorem meetT_ct{c d m:Str}(h:meetT c d=some m)(hc:CT c)(hd:CT d):CT m/\m.length=c.length/\c ≠ []:=by
 unfold meetT at h
 split at h
 . cases h
 . rename_i hne
   have hl:=meetL_len h
   exact⟨⟨by rw[<- hl.1];exact hc.len,meetL_ct h hc.cub hd.cub⟩,hl.1.symm,hne⟩
theorem meetT_eq{c d:Str}(h:c ≠ []):meetT c d=meetL c d:=by unfold meetT;rw[if_neg h]
def cfl(c d:Str)(i:Nat):Bool:=(xor (one c i) (one d i) && car c i) && car d i
theorem word_cfl(c d:Str)(k:Nat):(((wof (one c) k ^^^ wof (one d) k) &&& wof (car c) k) &&& wof (car d) k)=wof (cfl c d) k:=by
 refine BitVec.eq_of_getLsbD_eq fun i hi=>?_
 rw[BitVec.getLsbD_and,BitVec.getLsbD_and,BitVec.getLsbD_xor,wof_get _ _ _ hi,wof_get _ _ _ hi,wof_get _ _ _ hi,wof_get _ _ _ hi,wof_get _ _ _ hi]
 rfl
theorem at_b{t:Str}{i:Nat}{b:UInt8}(h:t[i]? = some b):car t i=dig b/\one t i=(b == 49):=by
 unfold car one
 rw[h]
 exact⟨rfl,rfl⟩
theorem at_out{t:Str}{i:Nat}(h:t.length<=i):car t i=false/\one t i=false:=by
 unfold car one
 rw[List.getElem?_eq_none h]
 exact⟨rfl,rfl⟩
theorem meet1_cfl{a b:UInt8}(ha:a=48\/a=49\/a=120)(hb:b=48\/b=49\/b=120):meet1 a b=none ↔ ((xor (a == 49) (b == 49) && dig a) && dig b)=true:=by
 rcases ha with rfl|rfl|rfl<;>rcases hb with rfl|rfl|rfl<;>simp[meet1,dig]
theorem meet1_bits{a b x:UInt8}(ha:a=48\/a=49\/a=120)(hb:b=48\/b=49\/b=120)(h:meet1 a b=some x):dig x=(dig a || dig b)/\(x == 49)=((a == 49) || (b == 49)):=by
 rcases ha with rfl|rfl|rfl<;>rcases hb with rfl|rfl|rfl<;>simp[meet1] at h<;>subst h<;>simp[dig]
theorem cfl_none{c d:Str}(hc:CT c)(hd:CT d){i:Nat}(h:cfl c d i=true):meetT c d=none:=by
 unfold meetT
 split
 . rfl
 . cases hm:meetL c d with
   | none=>rfl
   | some m=>
    exfalso
    unfold cfl at h
    simp only[Bool.and_eq_true] at h
    have h1:=car_lt h.1.2
    have h2:=car_lt h.2
    have e1:=List.getElem?_eq_getElem h1
    have e2:=List.getElem?_eq_getElem h2
    obtain⟨x,_,hx⟩:=meetL_get hm i _ _ e1 e2
    have:=(meet1_cfl (hc.cub _ (List.getElem_mem h1)) (hd.cub _ (List.getElem_mem h2))).2 (by
     rw[(at_b e1).2,(at_b e2).2,(at_b e1).1,(at_b e2).1] at h
     simp[h.1.1,h.1.2,h.2])
    rw[this] at hx
    cases hx
theorem cfl_some{c d:Str}(hc:CT c)(hd:CT d)(hl:c.length=d.length)(hne:c ≠ [])(h:∀ i,cfl c d i=false):∃ m,meetT c d=some m/\(∀ i,car m i=(car c i || car d i))/\∀ i,one m i=(one c i || one d i):=by
 obtain⟨m,hm⟩:=meetL_ex hl fun i a b ha hb hn=>by
  have h1:=(meet1_cfl (hc.cub _ (List.mem_of_getElem? ha)) (hd.cub _ (List.mem_of_getElem? hb))).1 hn
  have h2:=h i
  unfold cfl at h2
  rw[(at_b ha).2,(at_b hb).2,(at_b ha).1,(at_b hb).1,h1] at h2
  cases h2
 have key:∀ i,car m i=(car c i || car d i)/\one m i=(one c i || one d i):=fun i=>by
  have hlm:=meetL_len hm
  by_cases hi:i<c.length
  . have e1:=List.getElem?_eq_getElem hi
    have e2:=List.getElem?_eq_getElem (show i<d.length by omega)
    obtain⟨x,hx,hxx⟩:=meetL_get hm i _ _ e1 e2
    have:=meet1_bits (hc.cub _ (List.getElem_mem hi)) (hd.cub _ (List.getElem_mem (show i<d.length by omega))) hxx
    rw[(at_b e1).1,(at_b e2).1,(at_b e1).2,(at_b e2).2,(at_b hx).1,(at_b hx).2]
    exact this
  . have h1:=at_out (t:=c) (i:=i) (by omega)
    have h2:=at_out (t:=d) (i:=i) (by omega)
    have h3:=at_out (t:=m) (i:=i) (by omega)
    rw[h1.1,h1.2,h2.1,h2.2,h3.1,h3.2]
    exact⟨rfl,rfl⟩
 exact⟨m,by rw[meetT_eq hne,hm],fun i=>(key i).1,fun i=>(key i).2⟩
theorem wof_or{f g h:Nat->Bool}(e:∀ i,h i=(f i || g i))(k:Nat):wof h k=wof f k ||| wof g k:=by
 refine BitVec.eq_of_getLsbD_eq fun i hi=>?_
 rw[BitVec.getLsbD_or,wof_get _ _ _ hi,wof_get _ _ _ hi,wof_get _ _ _ hi,e]
theorem wof_zero{f:Nat->Bool}{k:Nat}(h:((wof f k).toNat:Int)=0)(i:Nat)(hi:i<64):f (64*k+i)=false:=by
 rw[<- wof_get f k i hi]
 cases hb:(wof f k).getLsbD i
 . rfl
 . exact absurd h (word_nz.2 ⟨i,hi,hb⟩)
theorem wof_nz{f:Nat->Bool}{k:Nat}(h:¬ ((wof f k).toNat:Int)=0):∃ i,f i=true:=by
 obtain⟨i,hi,hb⟩:=word_nz.1 h
 exact⟨_,by rw[wof_get _ _ _ hi] at hb;exact hb⟩
theorem no_cfl{c d:Str}(hc:CT c)(h:∀ k,k<4->((wof (cfl c d) k).toNat:Int)=0)(i:Nat):cfl c d i=false:=by
 by_cases hi:i<256
 . obtain⟨q,r,rfl,hr,hq⟩:=split64 i hi
   exact wof_zero (h q (by omega)) r hr
 . unfold cfl
   have:=(at_out (t:=c) (i:=i) (by have:=hc.len;omega)).1
   rw[this]
   simp
theorem inT_meet{c d:Str}:inT c d ↔ meetT c d=some c:=by
 unfold inT
 constructor
 . rintro⟨h1,h2⟩
   rw[meetT_eq h1]
   exact meetL_self.2 h2
 . intro h
   have hne:c ≠ []:=fun e=>by rw[e] at h;simp[meetT] at h
   rw[meetT_eq hne] at h
   exact⟨hne,meetL_self.1 h⟩
def mw(w:Nat)(f g:Nat->Bool)(k:Nat):BitVec 64:=if k<w then wof f k ||| wof g k else wof f k
@[reducible] def mcells(n w:Nat)(c d:Str):List D:=[.i .i64 (n:Int),.i .u64 ((mw w (car c) (car d) 0).toNat:Int),.i .u64 ((mw w (car c) (car d) 1).toNat:Int),.i .u64 ((mw w (car c) (car d) 2).toNat:Int),.i .u64 ((mw w (car c) (car d) 3).toNat:Int),.i .u64 ((mw w (one c) (one d) 0).toNat:Int),.i .u64 ((mw w (one c) (one d) 1).toNat:Int),.i .u64 ((mw w (one c) (one d) 2).toNat:Int),.i .u64 ((mw w (one c) (one d) 3).toNat:Int)]
theorem mcells_end{c d m:Str}(hl:m.length=c.length)(h1:∀ i,car m i=(car c i || car d i))(h2:∀ i,one m i=(one c i || one d i)):mcells c.length 4 c d=crow m:=by
 simp only[mcells,crow,cells9,mw,wof_or h1,wof_or h2,hl]
 rfl
end Go.Proofs.YtaiondckookpiaaDoor
namespace Go.Proofs.YtaiondckookpiaaDoor
open Go Go.Vx
theorem fits_at(c d:Str):FSpec Tryd.prog T 80 [.agg (crow c),.agg (crow d)] (fun r _=>r = .b (c.length=d.length/\0<c.length)):=by
 refine FSpec.of_ok tok Tryd.func80 rfl Tryd.call80 (by simp) ?_
 (try (conv=>whnf));repeat' (first|refine Ok.seq ?_|((first|refine Ok.region tok ?_|refine Ok.ret ?_);conv=>whnf)|(refine bI ?_ ?_<;>intro<;>(conv=>whnf)<;>(try (exfalso;omega)))|fail)
 all_goals
  refine Or.inl ?_;(conv=>whnf)
  simp[oneD]
  omega
theorem mt_none{c d:Str}(h:meetT c d=none):(D.tup [.agg [.i .i64 0,.i .u64 0,.i .u64 0,.i .u64 0,.i .u64 0,.i .u64 0,.i .u64 0,.i .u64 0,.i .u64 0],.b False]) = .tup [.agg (crow ((meetT c d).getD [])),.b ((meetT c d).isSome=true)]:=by
 rw[h]
 simp[crow_nil]
set_option maxHeartbeats 4000000 in
theorem meet_at(c d:Str)(hc:CT c)(hd:CT d):FSpec Tryd.prog T 55 [.agg (crow c),.agg (crow d)] (fun r rows=>r = .tup [.agg (crow ((meetT c d).getD [])),.b ((meetT c d).isSome=true)]/\rows=[]):=by
 refine FSpec.of_ok tok Tryd.func55 rfl Tryd.call55 (by simp) ?_
 (try (conv=>whnf));repeat' (first|refine Ok.seq ?_|((first|refine Ok.region tok ?_|refine Ok.cond ?_);conv=>whnf)|refine Ok.block ?_|((first|refine Ok.skip ?_|refine Ok.ret ?_);conv=>whnf)|(refine Or.inl ?_;(conv=>whnf);(repeat (refine aI ?_;conv=>whnf));refine⟨_,fits_at c d,rfl,?_⟩;conv=>whnf)|(refine bI ?_ ?_<;>intro<;>(conv=>whnf)<;>(try (exfalso;omega)))|fail)
 . rename_i h
   refine Or.inl ?_;(conv=>whnf)
   refine⟨mt_none ?_,rfl⟩
   unfold meetT
   split
   . rfl
   . rename_i hne
     cases hm:meetL c d with
     | none=>rfl
     | some m=>exact absurd ⟨by have:=meetL_len hm;omega,List.length_pos_iff.2 hne⟩ h
 . rename_i h
   have hfit:c.length=d.length/\0<c.length:=Classical.not_not.1 h
   have hne:c ≠ []:=List.length_pos_iff.1 hfit.2
   refine Ok.loopU [2,3,4] [12] 0 3 (fun (w:Nat)=>[.i .i64 (w:Nat)]) (fun (w:Nat) (_:List (List D))=>[mcells c.length w c d,crow d,[.i .i64 0,.i .u64 0,.i .u64 0,.i .u64 0,.i .u64 0,.i .u64 0,.i .u64 0,.i .u64 0,.i .u64 0]]) (fun _ r=>r) (fun (w:Nat)=>w<=4/\∀ k,k<w->((wof (cfl c d) k).toNat:Int)=0) (fun (w:Nat)=>4 - w) (0) (⟨by omega,fun k hk=>absurd hk (by omega)⟩) ?_;(conv=>whnf);refine⟨by ((conv=>whnf);first|rfl|(simp[envCat,List.take_of_length_le,cells9,mcells];done)|(simp[envCat,List.take_of_length_le,cells9,mcells];rw[IntKind.wrap_i64];omega)),?_⟩
   rintro w ⟨hw,hz⟩
   (conv=>whnf)
   by_cases hw4:w=4
   . subst hw4
     obtain⟨m,hm,m1,m2⟩:=cfl_some hc hd hfit.1 hne (no_cfl hc hz)
     have hml:=(meetT_ct hm hc hd).2.1
     (try (conv=>whnf));repeat' (first|refine Ok.seq ?_|((first|refine Ok.region tok ?_|refine Ok.cond ?_|refine Ok.exit ?_|refine Ok.ret ?_);conv=>whnf)|(refine bI ?_ ?_<;>intro<;>(conv=>whnf)<;>(try (exfalso;omega)))|fail)
     refine Or.inl ?_;(conv=>whnf)
     refine⟨?_,rfl⟩
     have hme:=mcells_end hml m1 m2
     rw[hm]
     show D.tup [.agg (mcells c.length 4 c d),.b True]=_
     rw[hme]
     simp
   . rcases (by omega:w=0\/w=1\/w=2\/w=3) with rfl|rfl|rfl|rfl
     . (try (conv=>whnf));repeat' (first|((with_reducible_and_instances (first|refine nAnd ?_|refine nOr ?_|refine nXor ?_));conv=>whnf)|refine Ok.seq ?_|((first|refine Ok.region tok ?_|refine Ok.region_plan (id:=8) tok follows [(3,11,[]),(7,11,[])] [.q 0,.q 1,.q 2,.q 3,.q 4,.q 5,.q 6,.q 7,.q 8,.q 9,.q 10,.l 11] (by kernel_rfl) ?_|refine Ok.region_plan (id:=9) tok follows [(3,11,[]),(7,11,[])] [.q 0,.q 1,.q 2,.q 3,.q 4,.q 5,.q 6,.q 7,.q 8,.q 9,.q 10,.l 11] (by kernel_rfl) ?_|refine Ok.region_draw tok follows (by kernel_rfl) ?_|refine Ok.cond ?_);conv=>whnf)|refine Ok.block ?_|((first|refine Ok.skip ?_|refine Ok.ret ?_|refine nI ?_);conv=>whnf)|(refine bI ?_ ?_<;>intro<;>(conv=>whnf)<;>(try (exfalso;omega)))|((first|refine aJ ?_|refine⟨_,rfl,?_⟩);conv=>whnf)|fail)
       . rename_i hx
         refine Or.inl ?_;(conv=>whnf)
         have hx2:¬ ((wof (cfl c d) 0).toNat:Int)=0:=by
          rw[<- word_cfl]
          exact hx
         obtain⟨i,hi⟩:=wof_nz hx2
         exact⟨mt_none (cfl_none hc hd hi),rfl⟩
       . rename_i hx
         have hx2:((wof (cfl c d) 0).toNat:Int)=0:=by
          rw[<- word_cfl]
          exact Classical.not_not.1 hx
         refine⟨1,by omega,⟨by omega,fun k hk=>?_⟩,?_⟩
         . by_cases hk2:k=0
           . rw[hk2];exact hx2
           . exact hz k (by omega)
         . (conv=>whnf)
           rfl
     . (try (conv=>whnf));repeat' (first|((with_reducible_and_instances (first|refine nAnd ?_|refine nOr ?_|refine nXor ?_));conv=>whnf)|refine Ok.seq ?_|((first|refine Ok.region tok ?_|refine Ok.region_plan (id:=8) tok follows [(3,11,[]),(7,11,[])] [.q 0,.q 1,.q 2,.q 3,.q 4,.q 5,.q 6,.q 7,.q 8,.q 9,.q 10,.l 11] (by kernel_rfl) ?_|refine Ok.region_plan (id:=9) tok follows [(3,11,[]),(7,11,[])] [.q 0,.q 1,.q 2,.q 3,.q 4,.q 5,.q 6,.q 7,.q 8,.q 9,.q 10,.l 11] (by kernel_rfl) ?_|refine Ok.region_draw tok follows (by kernel_rfl) ?_|refine Ok.cond ?_);conv=>whnf)|refine Ok.block ?_|((first|refine Ok.skip ?_|refine Ok.ret ?_|refine nI ?_);conv=>whnf)|(refine bI ?_ ?_<;>intro<;>(conv=>whnf)<;>(try (exfalso;omega)))|((first|refine aJ ?_|refine⟨_,rfl,?_⟩);conv=>whnf)|fail)
       . rename_i hx
         refine Or.inl ?_;(conv=>whnf)
         have hx2:¬ ((wof (cfl c d) 1).toNat:Int)=0:=by
          rw[<- word_cfl]
          exact hx
         obtain⟨i,hi⟩:=wof_nz hx2
         exact⟨mt_none (cfl_none hc hd hi),rfl⟩
       . rename_i hx
         have hx2:((wof (cfl c d) 1).toNat:Int)=0:=by
          rw[<- word_cfl]
          exact Classical.not_not.1 hx
         refine⟨2,by omega,⟨by omega,fun k hk=>?_⟩,?_⟩
         . by_cases hk2:k=1
           . rw[hk2];exact hx2
           . exact hz k (by omega)
         . (conv=>whnf)
           rfl
     . (try (conv=>whnf));repeat' (first|((with_reducible_and_instances (first|refine nAnd ?_|refine nOr ?_|refine nXor ?_));conv=>whnf)|refine Ok.seq ?_|((first|refine Ok.region tok ?_|refine Ok.region_plan (id:=8) tok follows [(3,11,[]),(7,11,[])] [.q 0,.q 1,.q 2,.q 3,.q 4,.q 5,.q 6,.q 7,.q 8,.q 9,.q 10,.l 11] (by kernel_rfl) ?_|refine Ok.region_plan (id:=9) tok follows [(3,11,[]),(7,11,[])] [.q 0,.q 1,.q 2,.q 3,.q 4,.q 5,.q 6,.q 7,.q 8,.q 9,.q 10,.l 11] (by kernel_rfl) ?_|refine Ok.region_draw tok follows (by kernel_rfl) ?_|refine Ok.cond ?_);conv=>whnf)|refine Ok.block ?_|((first|refine Ok.skip ?_|refine Ok.ret ?_|refine nI ?_);conv=>whnf)|(refine bI ?_ ?_<;>intro<;>(conv=>whnf)<;>(try (exfalso;omega)))|((first|refine aJ ?_|refine⟨_,rfl,?_⟩);conv=>whnf)|fail)
       . rename_i hx
         refine Or.inl ?_;(conv=>whnf)
         have hx2:¬ ((wof (cfl c d) 2).toNat:Int)=0:=by
          rw[<- word_cfl]
          exact hx
         obtain⟨i,hi⟩:=wof_nz hx2
         exact⟨mt_none (cfl_none hc hd hi),rfl⟩
       . rename_i hx
         have hx2:((wof (cfl c d) 2).toNat:Int)=0:=by
          rw[<- word_cfl]
          exact Classical.not_not.1 hx
         refine⟨3,by omega,⟨by omega,fun k hk=>?_⟩,?_⟩
         . by_cases hk2:k=2
           . rw[hk2];exact hx2
           . exact hz k (by omega)
         . (conv=>whnf)
           rfl
     . (try (conv=>whnf));repeat' (first|((with_reducible_and_instances (first|refine nAnd ?_|refine nOr ?_|refine nXor ?_));conv=>whnf)|refine Ok.seq ?_|((first|refine Ok.region tok ?_|refine Ok.region_plan (id:=8) tok follows [(3,11,[]),(7,11,[])] [.q 0,.q 1,.q 2,.q 3,.q 4,.q 5,.q 6,.q 7,.q 8,.q 9,.q 10,.l 11] (by kernel_rfl) ?_|refine Ok.region_plan (id:=9) tok follows [(3,11,[]),(7,11,[])] [.q 0,.q 1,.q 2,.q 3,.q 4,.q 5,.q 6,.q 7,.q 8,.q 9,.q 10,.l 11] (by kernel_rfl) ?_|refine Ok.region_draw tok follows (by kernel_rfl) ?_|refine Ok.cond ?_);conv=>whnf)|refine Ok.block ?_|((first|refine Ok.skip ?_|refine Ok.ret ?_|refine nI ?_);conv=>whnf)|(refine bI ?_ ?_<;>intro<;>(conv=>whnf)<;>(try (exfalso;omega)))|((first|refine aJ ?_|refine⟨_,rfl,?_⟩);conv=>whnf)|fail)
       . rename_i hx
         refine Or.inl ?_;(conv=>whnf)
         have hx2:¬ ((wof (cfl c d) 3).toNat:Int)=0:=by
          rw[<- word_cfl]
          exact hx
         obtain⟨i,hi⟩:=wof_nz hx2
         exact⟨mt_none (cfl_none hc hd hi),rfl⟩
       . rename_i hx
         have hx2:((wof (cfl c d) 3).toNat:Int)=0:=by
          rw[<- word_cfl]
          exact Classical.not_not.1 hx
         refine⟨4,by omega,⟨by omega,fun k hk=>?_⟩,?_⟩
         . by_cases hk2:k=3
           . rw[hk2];exact hx2
           . exact hz k (by omega)
         . (conv=>whnf)
           rfl
set_option maxRecDepth 100000 in
theorem within_at(c d:Str)(hc:CT c)(hd:CT d):FSpec Tryd.prog T 94 [.agg (crow c),.agg (crow d)] (fun r _=>r = .b (inT c d)):=by
 refine FSpec.of_ok tok Tryd.func94 rfl Tryd.call94 (by simp) ?_
 (try (conv=>whnf));repeat' (first|refine Ok.seq ?_|((first|refine Ok.region tok ?_|refine Ok.ret ?_);conv=>whnf)|(refine Or.inr (Or.inl ?_);(conv=>whnf);(repeat (refine aI ?_;conv=>whnf));refine⟨_,meet_at c d hc hd,?_⟩;rintro _ _ ⟨rfl,rfl⟩;conv=>whnf)|(refine bI ?_ ?_<;>intro<;>(conv=>whnf)<;>(try (exfalso;omega)))|fail)
 . rename_i h
   refine⟨_,eqCube,by kernel_rfl,?_⟩
   (conv=>whnf)
   (try (conv=>whnf));repeat' (first|(refine Ok.ret ?_;conv=>whnf)|fail)
   refine Or.inl ?_;(conv=>whnf)
   obtain⟨m,hm⟩:=Option.isSome_iff_exists.1 h
   have hmc:=(meetT_ct hm hc hd).1
   show D.b (eqDs (crow ((meetT c d).getD [])) (crow c))=D.b (inT c d)
   rw[hm,inT_meet,hm]
   refine congrArg D.b (propext ⟨fun h=>?_,fun h=>?_⟩)
   . rw[crow_inj hmc hc h]
   . cases h
     exact eqDs_self _
 . rename_i h
   refine Or.inl ?_;(conv=>whnf)
   show D.b False=D.b (inT c d)
   refine congrArg D.b (propext ⟨fun h=>h.elim,fun h2=>?_⟩)
   rw[inT_meet] at h2
   rw[h2] at h
   exact h rfl
end Go.Proofs.YtaiondckookpiaaDoor
namespace Go.Proofs.YtaiondckookpiaaDoor
open Go Go.Vx
theorem fill_at{t:Str}{i:Nat}(hi:i<t.length):(t.take i++List.replicate (t.length - i) (0:UInt8))[i]? = some 0:=by
 rw[List.getElem?_append_right (by simp;omega)]
 simp[List.getElem?_replicate]
 omega
theorem fill_set{t:Str}{i:Nat}{b:UInt8}(h:t[i]? = some b):(t.take i++List.replicate (t.length - i) (0:UInt8)).set i b=t.take (i+1)++List.replicate (t.length - (i+1)) 0:=by
 have hi:i<t.length:=(List.getElem?_eq_some_iff.1 h).1
 rw[List.set_append,if_neg (by simp;omega)]
 rw[show t.length - i=(t.length - (i+1))+1 by omega,List.replicate_succ]
 rw[show i - (t.take i).length=0 by simp;omega]
 rw[List.set_cons_zero,List.take_add_one,h]
 simp
set_option maxHeartbeats 4000000 in
theorem text_at(t:Str)(ht:CT t):FSpec Tryd.prog T 36 [.agg (crow t)] (fun r _=>r = .s t):=by
 have hlen:=ht.len
 refine FSpec.of_ok tok Tryd.func36 rfl Tryd.call36 (by simp) ?_
 (try (conv=>whnf));repeat' (first|refine Ok.seq ?_|(refine Ok.region tok ?_;conv=>whnf)|refine Ok.block ?_|((first|refine⟨_,_,rfl,rfl,?_⟩|refine aJ ?_|refine⟨_,rfl,?_⟩);conv=>whnf)|fail)
 refine Ok.loopU [1,3,9] [10] 1 1 (fun (i:Nat)=>[.i .i64 (i:Nat)]) (fun (i:Nat) (_:List (List D))=>[crow t]) (fun (i:Nat) (_:Vx.Rows)=>[some (5,(t.take i++List.replicate (t.length - i) 0).map bcell)]) (fun (i:Nat)=>i<=t.length) (fun (i:Nat)=>t.length - i) (0) (Nat.zero_le _) ?_;(conv=>whnf);refine⟨by ((conv=>whnf);first|rfl|(simp[envCat,List.take_of_length_le,cells9,bcell];done)|(simp[envCat,List.take_of_length_le,cells9,bcell];rw[IntKind.wrap_i64];omega)),?_⟩
 rintro i hi
 have hll:(t.take i++List.replicate (t.length - i) (0:UInt8)).length=t.length:=by simp;omega
 have hlm:((t.take i++List.replicate (t.length - i) (0:UInt8)).map bcell).length=t.length:=by rw[List.length_map,hll]
 (conv=>whnf)
 by_cases hit:i<t.length
 . obtain⟨b,hb⟩:∃ b,t[i]? = some b:=⟨_,List.getElem?_eq_getElem hit⟩
   obtain⟨q,r,hqr,hr,hq⟩:=split64 i (by omega)
   have hrem:=rem64 hqr hr
   have hquo:=quo64 hqr hr (by omega)
   have hrr:((r:Nat):Int)=((r:Nat):Int)/\r<64:=⟨rfl,hr⟩
   have hca:=at_word (f:=car t) hqr hr
   have hoa:=at_word (f:=one t) hqr hr
   rw[(at_b hb).1] at hca
   rw[(at_b hb).2] at hoa
   have hfa:=fill_at hit
   have hfs:=fill_set hb
   rcases ht.cub b (List.mem_of_getElem? hb) with rfl|rfl|rfl
   . have hc:=hca.2 rfl
     have ho:¬ _:=fun e=>absurd (hoa.1 e) (by decide)
     clear hca hoa
     rcases hq with rfl|rfl|rfl|rfl
     all_goals
      (try (conv=>whnf));repeat' (first|refine Ok.seq ?_|((first|refine Ok.region tok ?_|refine Ok.cond ?_);conv=>whnf)|refine Ok.block ?_|(refine Ok.skip ?_;conv=>whnf)|(refine bI ?_ ?_<;>intro<;>(conv=>whnf)<;>(try (exfalso;omega)))|fail)
      refine Or.inr (Or.inr (Or.inl ?_));(conv=>whnf);refine⟨_,_,Tryd.func64,rfl,Tryd.call64,?_⟩;(conv=>whnf)
      (try (conv=>whnf));repeat' (first|((with_reducible_and_instances (first|refine nShr (by assumption) ?_|refine nAnd1' rfl ?_));conv=>whnf)|refine Ok.seq ?_|((first|refine Ok.region tok ?_|refine⟨_,(hquo.symm).symm,?_⟩|refine⟨_,(hrem.symm).symm,?_⟩|refine Ok.cond ?_|refine Ok.ret ?_);conv=>whnf)|(refine bI ?_ ?_<;>intro<;>(conv=>whnf)<;>(try (exfalso;omega)))|((first|refine aJ ?_|refine⟨_,rfl,?_⟩);conv=>whnf)|fail)
      refine Or.inr (Or.inr (Or.inl ?_));(conv=>whnf);refine⟨_,_,Tryd.func64,rfl,Tryd.call64,?_⟩;(conv=>whnf)
      (try (conv=>whnf));repeat' (first|((with_reducible_and_instances (first|refine nShr (by assumption) ?_|refine nAnd1' rfl ?_));conv=>whnf)|refine Ok.seq ?_|((first|refine Ok.region tok ?_|refine⟨_,(hquo.symm).symm,?_⟩|refine⟨_,(hrem.symm).symm,?_⟩|refine Ok.cond ?_|refine Ok.ret ?_);conv=>whnf)|(refine bI ?_ ?_<;>intro<;>(conv=>whnf)<;>(try (exfalso;omega)))|((first|refine aJ ?_|refine⟨_,rfl,?_⟩);conv=>whnf)|fail)
      refine st 48 hfa (by simp[bcell]) (by simp[setCells,bcell]) ?_
      (try (conv=>whnf));repeat' (first|((first|refine Ok.region tok ?_|refine nI ?_);conv=>whnf)|fail)
      refine⟨i+1,by omega,by omega,?_⟩
      (conv=>whnf)
      simp only[toNat_cast,hfs,envCat]
      rfl
   . have hc:=hca.2 rfl
     have ho:=hoa.2 rfl
     clear hca hoa
     rcases hq with rfl|rfl|rfl|rfl
     all_goals
      (try (conv=>whnf));repeat' (first|refine Ok.seq ?_|((first|refine Ok.region tok ?_|refine Ok.cond ?_);conv=>whnf)|refine Ok.block ?_|(refine Ok.skip ?_;conv=>whnf)|(refine bI ?_ ?_<;>intro<;>(conv=>whnf)<;>(try (exfalso;omega)))|fail)
      refine Or.inr (Or.inr (Or.inl ?_));(conv=>whnf);refine⟨_,_,Tryd.func64,rfl,Tryd.call64,?_⟩;(conv=>whnf)
      (try (conv=>whnf));repeat' (first|((with_reducible_and_instances (first|refine nShr (by assumption) ?_|refine nAnd1' rfl ?_));conv=>whnf)|refine Ok.seq ?_|((first|refine Ok.region tok ?_|refine⟨_,(hquo.symm).symm,?_⟩|refine⟨_,(hrem.symm).symm,?_⟩|refine Ok.cond ?_|refine Ok.ret ?_);conv=>whnf)|(refine bI ?_ ?_<;>intro<;>(conv=>whnf)<;>(try (exfalso;omega)))|((first|refine aJ ?_|refine⟨_,rfl,?_⟩);conv=>whnf)|fail)
      refine Or.inr (Or.inr (Or.inl ?_));(conv=>whnf);refine⟨_,_,Tryd.func64,rfl,Tryd.call64,?_⟩;(conv=>whnf)
      (try (conv=>whnf));repeat' (first|((with_reducible_and_instances (first|refine nShr (by assumption) ?_|refine nAnd1' rfl ?_));conv=>whnf)|refine Ok.seq ?_|((first|refine Ok.region tok ?_|refine⟨_,(hquo.symm).symm,?_⟩|refine⟨_,(hrem.symm).symm,?_⟩|refine Ok.cond ?_|refine Ok.ret ?_);conv=>whnf)|(refine bI ?_ ?_<;>intro<;>(conv=>whnf)<;>(try (exfalso;omega)))|((first|refine aJ ?_|refine⟨_,rfl,?_⟩);conv=>whnf)|fail)
      refine st 49 hfa (by simp[bcell]) (by simp[setCells,bcell]) ?_
      (try (conv=>whnf));repeat' (first|((first|refine Ok.region tok ?_|refine nI ?_);conv=>whnf)|fail)
      refine⟨i+1,by omega,by omega,?_⟩
      (conv=>whnf)
      simp only[toNat_cast,hfs,envCat]
      rfl
   . have hc:¬ _:=fun e=>absurd (hca.1 e) (by decide)
     clear hca hoa
     rcases hq with rfl|rfl|rfl|rfl
     all_goals
      (try (conv=>whnf));repeat' (first|refine Ok.seq ?_|((first|refine Ok.region tok ?_|refine Ok.cond ?_);conv=>whnf)|refine Ok.block ?_|(refine Ok.skip ?_;conv=>whnf)|(refine bI ?_ ?_<;>intro<;>(conv=>whnf)<;>(try (exfalso;omega)))|fail)
      refine Or.inr (Or.inr (Or.inl ?_));(conv=>whnf);refine⟨_,_,Tryd.func64,rfl,Tryd.call64,?_⟩;(conv=>whnf)
      (try (conv=>whnf));repeat' (first|((with_reducible_and_instances (first|refine nShr (by assumption) ?_|refine nAnd1' rfl ?_));conv=>whnf)|refine Ok.seq ?_|((first|refine Ok.region tok ?_|refine⟨_,(hquo.symm).symm,?_⟩|refine⟨_,(hrem.symm).symm,?_⟩|refine Ok.cond ?_|refine Ok.ret ?_);conv=>whnf)|(refine bI ?_ ?_<;>intro<;>(conv=>whnf)<;>(try (exfalso;omega)))|((first|refine aJ ?_|refine⟨_,rfl,?_⟩);conv=>whnf)|fail)
      refine st 120 hfa (by simp[bcell]) (by simp[setCells,bcell]) ?_
      (try (conv=>whnf));repeat' (first|((first|refine Ok.region tok ?_|refine nI ?_);conv=>whnf)|fail)
      refine⟨i+1,by omega,by omega,?_⟩
      (conv=>whnf)
      simp only[toNat_cast,hfs,envCat]
      rfl
 . have he:i=t.length:=by omega
   subst he
   rw[List.take_length,Nat.sub_self,List.replicate_zero,List.append_nil] at *
   (try (conv=>whnf));repeat' (first|refine Ok.seq ?_|((first|refine Ok.region tok ?_|refine Ok.cond ?_|refine Ok.exit ?_);conv=>whnf)|(refine bI ?_ ?_<;>intro<;>(conv=>whnf)<;>(try (exfalso;omega)))|(refine aJ ?_;conv=>whnf)|fail)
   refine⟨t,take_all bcell t,?_⟩
   (try (conv=>whnf));repeat' (first|(refine Ok.ret ?_;conv=>whnf)|fail)
   refine Or.inl ?_;(conv=>whnf)
   rfl
end Go.Proofs.YtaiondckookpiaaDoor
namespace Go.Proofs.YtaiondckookpiaaDoor
open Go Go.Vx
section
variable {α : Type} {R : α → α → Prop}
theorem grG_take{l:List α}{i:Nat}{x:α}(h:l[i]? = some x):grG R (l.take (i+1))=addG R (grG R (l.take i)) x:=by
 unfold grG
 rw[List.take_add_one,h]
 simp
theorem addG_in{k:List α}{x:α}(h:∃ y ∈ k,R x y):addG R k x=k:=by
 unfold addG
 rw[if_pos h]
open Classical in
theorem addG_out{k:List α}{x:α}(h:∀ y ∈ k,¬ R x y):addG R k x=k.filter (fun y=>decide (¬ R y x))++[x]:=by
 unfold addG
 rw[if_neg fun⟨y,hy,hxy⟩=>h y hy hxy]
theorem filter_take{p:α->Bool}{k:List α}{j:Nat}{y:α}(h:k[j]? = some y):(k.take (j+1)).filter p=(k.take j).filter p++(if p y then [y] else []):=by
 rw[List.take_add_one,h,List.filter_append]
 congr 1
 cases hp:p y<;>simp[hp]
structure Kept(R:α->α->Prop)(l:List α)(i:Nat)(W:List α):Prop where
 le:i<=l.length
 tk:W.take (grG R (l.take i)).length=grG R (l.take i)
 n:(grG R (l.take i)).length<=W.length
 w:W.length<=i
theorem Kept.zero{l:List α}:Kept R l 0 []:=⟨Nat.zero_le _,by simp[grG],by simp[grG],by simp⟩
theorem Kept.get{l:List α}{i:Nat}{W:List α}(h:Kept R l i W){j:Nat}(hj:j<(grG R (l.take i)).length):W[j]? = (grG R (l.take i))[j]?:=by
 have:=congrArg (fun z:List α=>z[j]?) h.tk
 simp only[List.getElem?_take,if_pos hj] at this
 exact this
theorem Kept.skip{l:List α}{i:Nat}{W:List α}(h:Kept R l i W){x:α}(hx:l[i]? = some x)(hy:∃ y ∈ grG R (l.take i),R x y):Kept R l (i+1) W/\grG R (l.take (i+1))=grG R (l.take i):=by
 have e:grG R (l.take (i+1))=grG R (l.take i):=by rw[grG_take hx,addG_in hy]
 have:=(List.getElem?_eq_some_iff.1 hx).1
 exact⟨⟨by omega,by rw[e];exact h.tk,by rw[e];exact h.n,by have:=h.w;omega⟩,e⟩
open Classical in
/-- Those of the first j that are not below x. -/
noncomputable def leftOf(R:α->α->Prop)(k:List α)(x:α)(j:Nat):List α:=(k.take j).filter (fun y=>decide (¬ R y x))
theorem leftOf_step_keep{k:List α}{x y:α}{j:Nat}(h:k[j]? = some y)(hy:¬ R y x):leftOf R k x (j+1)=leftOf R k x j++[y]:=by
 unfold leftOf
 rw[filter_take h]
 simp[hy]
theorem leftOf_step_drop{k:List α}{x y:α}{j:Nat}(h:k[j]? = some y)(hy:R y x):leftOf R k x (j+1)=leftOf R k x j:=by
 unfold leftOf
 rw[filter_take h]
 simp[hy]
theorem leftOf_le(k:List α)(x:α)(j:Nat):(leftOf R k x j).length<=j:=by
 unfold leftOf
 refine Nat.le_trans (List.length_filter_le _ _) ?_
 simp
 omega
structure Mid(R:α->α->Prop)(k:List α)(x:α)(W0:List α)(j:Nat)(W:List α):Prop where
 le:j<=k.length
 len:W.length=W0.length
 tk:W.take (leftOf R k x j).length=leftOf R k x j
 beh:∀ i,j<=i->W[i]? = W0[i]?
theorem Mid.zero{k W0:List α}{x:α}:Mid R k x W0 0 W0:=⟨Nat.zero_le _,rfl,by simp[leftOf],fun _ _=>rfl⟩
theorem Mid.drop{k W0 W:List α}{x y:α}{j:Nat}(h:Mid R k x W0 j W)(hy:k[j]? = some y)(hR:R y x):Mid R k x W0 (j+1) W/\leftOf R k x (j+1)=leftOf R k x j:=by
 have e:=leftOf_step_drop hy hR
 have:=(List.getElem?_eq_some_iff.1 hy).1
 exact⟨⟨by omega,h.len,by rw[e];exact h.tk,fun i hi=>h.beh i (by omega)⟩,e⟩
theorem take_set_end{W:List α}{m:Nat}{F:List α}{y:α}(hm:F.length=m)(h:W.take m=F)(hl:m<W.length):(W.set m y).take (m+1)=F++[y]:=by
 rw[List.take_add_one,List.getElem?_set_self hl,List.take_set]
 rw[h,List.set_eq_of_length_le (by omega)]
 rfl
theorem Mid.keep{k W0 W:List α}{x y:α}{j:Nat}(h:Mid R k x W0 j W)(hkw:k.length<=W0.length)(hy:k[j]? = some y)(hR:¬ R y x) :
    Mid R k x W0 (j+1) (W.set (leftOf R k x j).length y)/\leftOf R k x (j+1)=leftOf R k x j++[y]/\(leftOf R k x j).length<W.length:=by
 have e:=leftOf_step_keep hy hR
 have hj:=(List.getElem?_eq_some_iff.1 hy).1
 have hle:=leftOf_le (R:=R) k x j
 have hlt:(leftOf R k x j).length<W.length:=by rw[h.len];omega
 refine⟨⟨by omega,by simp[h.len],?_,fun i hi=>?_⟩,e,hlt⟩
 . rw[e,List.length_append]
   exact take_set_end rfl h.tk hlt
 . rw[List.getElem?_set_ne (by omega)]
   exact h.beh i (by omega)
theorem Mid.get{k W0 W:List α}{x:α}{j:Nat}(h:Mid R k x W0 j W)(h0:W0.take k.length=k)(hj:j<k.length):W[j]? = k[j]?:=by
 rw[h.beh j (Nat.le_refl _)]
 have:=congrArg (fun z:List α=>z[j]?) h0
 simp only[List.getElem?_take,if_pos hj] at this
 exact this
theorem leftOf_all(k:List α)(x:α)(h:∀ y ∈ k,¬ R x y):leftOf R k x k.length++[x]=addG R k x:=by
 rw[addG_out h]
 unfold leftOf
 rw[List.take_length]
theorem Kept.step{l:List α}{i:Nat}{W W':List α}{x:α}(h:Kept R l i W)(hx:l[i]? = some x)(hno:∀ y ∈ grG R (l.take i),¬ R x y)(hW:Mid R (grG R (l.take i)) x W (grG R (l.take i)).length W') :
    grG R (l.take (i+1))=leftOf R (grG R (l.take i)) x (grG R (l.take i)).length++[x] /\
    ((leftOf R (grG R (l.take i)) x (grG R (l.take i)).length).length<W'.length->Kept R l (i+1) (W'.set (leftOf R (grG R (l.take i)) x (grG R (l.take i)).length).length x)) /\
    ((leftOf R (grG R (l.take i)) x (grG R (l.take i)).length).length=W'.length->Kept R l (i+1) (W'++[x])):=by
 have e:grG R (l.take (i+1))=leftOf R (grG R (l.take i)) x (grG R (l.take i)).length++[x]:=by rw[grG_take hx,leftOf_all _ _ hno]
 have hi:=(List.getElem?_eq_some_iff.1 hx).1
 have hw:=h.w
 have hlw:=hW.len
 refine⟨e,fun hlt=>⟨by omega,?_,?_,by simp;omega⟩,fun heq=>⟨by omega,?_,?_,by simp;omega⟩⟩
 . rw[e,List.length_append]
   exact take_set_end rfl hW.tk hlt
 . rw[e,List.length_append]
   simp
   omega
 . rw[e,List.length_append]
   have:=hW.tk
   rw[heq,List.take_length] at this
   rw[heq,<- this]
   exact List.take_of_length_le (by simp)
 . rw[e,List.length_append]
   simp
   omega
end
end Go.Proofs.YtaiondckookpiaaDoor
namespace Go.Proofs.YtaiondckookpiaaDoor
open Go Go.Vx
def CN(c:Str):Prop:=CT c/\c ≠ []
theorem within2_at(c d:Str)(hc:CT c)(hd:CT d):FSpec Tryd.prog T 72 [.agg (crow c),.agg (crow d)] (fun r _=>r = .b (inT c d)):=by
 refine FSpec.of_ok tok Tryd.func72 rfl Tryd.call72 (by simp) ?_
 (try (conv=>whnf));repeat' (first|refine Ok.seq ?_|((first|refine Ok.region tok ?_|refine Ok.ret ?_);conv=>whnf)|(refine Or.inl ?_;(conv=>whnf);(repeat (refine aI ?_;conv=>whnf));refine⟨_,within_at c d hc hd,rfl,?_⟩;conv=>whnf)|fail)
 all_goals
  refine Or.inl ?_;(conv=>whnf)
  rfl
theorem withinC_at{c d:Str}(hc:CN c)(hd:CN d):FSpec Tryd.prog T 72 [.agg (crow c),.agg (crow d)] (fun r _=>r = .b (inL c d)):=by
 have:=within2_at c d hc.1 hd.1
 rwa [show inT c d=inL c d from propext ⟨fun h=>h.2,fun h=>⟨hc.2,h⟩⟩] at this
set_option maxRecDepth 100000 in
set_option maxHeartbeats 4000000 in
theorem greatestC_at(l:List Str){rl room:List (List D)}(hl:l.length<=1048576)(hok:∀ x ∈ l,CN x)(h:rl=l.map crow):FSpec Tryd.prog T 71 [.lst 69 rl room,.fn 72 [] []]
    (fun d rows=>∃ W:List Str,Kept inL l l.length W/\d = .own 0 (grG inL l).length/\rows=[some (69,W.map crow)]):=by
 subst h
 have hll:(l.map crow).length=l.length:=by simp
 refine FSpec.of_ok tok Tryd.func71 rfl Tryd.call71 (by simp) ?_
 (try (conv=>whnf));repeat' (first|refine Ok.seq ?_|(refine Ok.region tok ?_;conv=>whnf)|refine Ok.block ?_|(refine Ok.scope ?_)|(refine Ok.label ?_;conv=>whnf)|fail)
 refine Ok.ghost 5 69 rfl ?_
 (conv=>whnf)
 refine Ok.loopU [1,13,14] [5,15] 1 0 (fun (x:Nat × List Str)=>[.own 0 (grG inL (l.take x.1)).length,.i .i64 (x.1:Nat)]) (fun _ b=>b) (fun (x:Nat × List Str) (_:Vx.Rows)=>[some (69,x.2.map crow)]) (fun (x:Nat × List Str)=>Kept inL l x.1 x.2) (fun (x:Nat × List Str)=>l.length - x.1) ((0,[])) (Kept.zero) ?_;(conv=>whnf);refine⟨by ((conv=>whnf);first|rfl|(simp[envCat,List.take_of_length_le,cells9];done)|(simp[envCat,List.take_of_length_le,cells9];rw[IntKind.wrap_i64];omega)),?_⟩
 rintro⟨i,W⟩ hK
 dsimp only at hK ⊢
 have hWl:(W.map crow).length=W.length:=by simp
 have hKn:=hK.n
 have hKw:=hK.w
 have hKi:=hK.le
 (conv=>whnf)
 by_cases hil:i<l.length
 . obtain⟨x,hx⟩:∃ x,l[i]? = some x:=⟨_,List.getElem?_eq_getElem hil⟩
   have hxo:=hok x (List.mem_of_getElem? hx)
   have hmem:∀ y ∈ grG inL (l.take i),CN y:=fun y hy=>hok y (List.take_subset _ _ (grG_sub inL _ y hy))
   (try (conv=>whnf));repeat' (first|refine Ok.seq ?_|((first|refine Ok.region tok ?_|refine Ok.cond ?_);conv=>whnf)|refine Ok.block ?_|((first|refine Ok.skip ?_|refine ix _ (by assumption) ?_);conv=>whnf)|(refine bI ?_ ?_<;>intro<;>(conv=>whnf)<;>(try (exfalso;omega)))|fail)
   generalize hKK:grG inL (l.take i)=K at *
   refine Ok.loopU [1,5,7,13,14,15,19,20] [21] 1 1 (fun (j:Nat)=>[.i .i64 (j:Nat)]) (fun _ b=>b) (fun _ r=>r) (fun (j:Nat)=>j<=K.length/\∀ y ∈ K.take j,¬ inL x y) (fun (j:Nat)=>K.length - j) (0) (⟨Nat.zero_le _,by simp⟩) ?_;(conv=>whnf);refine⟨by ((conv=>whnf);first|rfl|(simp[envCat,List.take_of_length_le,cells9];done)|(simp[envCat,List.take_of_length_le,cells9];rw[IntKind.wrap_i64];omega)),?_⟩
   rintro j ⟨hj,hno⟩
   (conv=>whnf)
   by_cases hjl:j<K.length
   . obtain⟨y,hy⟩:∃ y,K[j]? = some y:=⟨_,List.getElem?_eq_getElem hjl⟩
     have hyo:=hmem y (List.mem_of_getElem? hy)
     have hWj:W[((j:Nat):Int).toNat]? = some y:=by
      have:=hK.get (j:=j) (by rw[hKK];exact hjl)
      rw[hKK,hy] at this
      exact this
     (try (conv=>whnf));repeat' (first|refine Ok.seq ?_|((first|refine Ok.region tok ?_|refine Ok.cond ?_);conv=>whnf)|refine Ok.block ?_|((first|refine Ok.skip ?_|refine Ok.exit ?_|refine nI ?_);conv=>whnf)|(refine Or.inl ?_;(conv=>whnf);(repeat (refine aI ?_;conv=>whnf));refine⟨_,withinC_at hxo hyo,rfl,?_⟩;conv=>whnf)|(refine rd rfl (by assumption) ?_;conv=>whnf)|(refine bI ?_ ?_<;>intro<;>(conv=>whnf)<;>(try (exfalso;omega)))|(refine aJ ?_;conv=>whnf)|fail)
     . rename_i hxy
       have hin:∃ y ∈ grG inL (l.take i),inL x y:=⟨y,by rw[hKK];exact List.mem_of_getElem? hy,hxy⟩
       obtain⟨hs,he⟩:=hK.skip hx hin
       refine⟨(i+1,W),by dsimp only;omega,hs,?_⟩
       dsimp only
       rw[he,hKK]
       (conv=>whnf)
       rfl
     . rename_i hxy
       refine⟨j+1,by omega,⟨by omega,fun z hz=>?_⟩,?_⟩
       . rw[List.take_add_one,hy] at hz
         rcases List.mem_append.1 hz with hz|hz
         . exact hno z hz
         . simp at hz;rw[hz];exact hxy
       . (conv=>whnf)
         rfl
   . have hje:j=K.length:=by omega
     subst hje
     rw[List.take_length] at hno
     (try (conv=>whnf));repeat' (first|refine Ok.seq ?_|((first|refine Ok.region tok ?_|refine Ok.cond ?_|refine Ok.exit ?_);conv=>whnf)|(refine bI ?_ ?_<;>intro<;>(conv=>whnf)<;>(try (exfalso;omega)))|fail)
     refine⟨0,rfl,rfl,by omega,?_⟩
     (try (conv=>whnf));repeat' (first|refine Ok.seq ?_|(refine Ok.region tok ?_;conv=>whnf)|refine Ok.block ?_|fail)
     refine Ok.loopU [1,7,13,14,15,32,33] [10,34] 1 1 (fun (z:Nat × List Str)=>[.own 0 (leftOf inL K x z.1).length,.i .i64 (z.1:Nat)]) (fun _ b=>b) (fun (z:Nat × List Str) (_:Vx.Rows)=>[some (69,z.2.map crow)]) (fun (z:Nat × List Str)=>Mid inL K x W z.1 z.2) (fun (z:Nat × List Str)=>K.length - z.1) ((0,W)) (Mid.zero) ?_;(conv=>whnf);refine⟨by ((conv=>whnf);first|rfl|(simp[envCat,List.take_of_length_le,cells9];done)|(simp[envCat,List.take_of_length_le,cells9];rw[IntKind.wrap_i64];omega)),?_⟩
     rintro⟨k,W'⟩ hM
     dsimp only at hM ⊢
     have hMk:=hM.le
     have hMl:=hM.len
     have hWl':(W'.map crow).length=W'.length:=by simp
     have hkept:W.take K.length=K:=by
      have:=hK.tk
      rw[hKK] at this
      exact this
     (conv=>whnf)
     by_cases hkl:k<K.length
     . obtain⟨y,hy⟩:∃ y,K[k]? = some y:=⟨_,List.getElem?_eq_getElem hkl⟩
       have hyo:=hmem y (List.mem_of_getElem? hy)
       have hWj:W'[((k:Nat):Int).toNat]? = some y:=by
        rw[toNat_cast,hM.get hkept hkl,hy]
       by_cases hyx:inL y x
       . obtain⟨hd,he⟩:=hM.drop hy hyx
         (try (conv=>whnf));repeat' (first|refine Ok.seq ?_|((first|refine Ok.region tok ?_|refine Ok.cond ?_);conv=>whnf)|refine Ok.block ?_|((first|refine Ok.skip ?_|refine nI ?_);conv=>whnf)|(refine Or.inl ?_;(conv=>whnf);(repeat (refine aI ?_;conv=>whnf));refine⟨_,withinC_at hyo hxo,rfl,?_⟩;conv=>whnf)|(refine rd rfl (by assumption) ?_;conv=>whnf)|(refine bI ?_ ?_<;>intro<;>(conv=>whnf)<;>(try (exfalso;omega)))|(refine aJ ?_;conv=>whnf)|fail)
         . exact absurd hyx (by assumption)
         . refine⟨(k+1,W'),by dsimp only;omega,hd,?_⟩
           dsimp only
           rw[he]
           (conv=>whnf)
           rfl
       . obtain⟨hd,he,hlt⟩:=hM.keep hKn hy hyx
         have hlt2:(leftOf inL K x k).length<(W'.map crow).length:=by omega
         have hnle:¬ (leftOf inL K x k).length=(W'.map crow).length:=by omega
         (try (conv=>whnf));repeat' (first|refine Ok.seq ?_|((first|refine Ok.region tok ?_|refine Ok.cond ?_);conv=>whnf)|refine Ok.block ?_|((first|refine Ok.skip ?_|refine nI ?_);conv=>whnf)|(refine Or.inl ?_;(conv=>whnf);(repeat (refine aI ?_;conv=>whnf));refine⟨_,withinC_at hyo hxo,rfl,?_⟩;conv=>whnf)|((first|refine Alt2.r (aI ?_)|refine rd rfl (by assumption) ?_|refine⟨_,.inl ⟨rfl,rfl⟩,?_⟩|refine⟨_,_,rfl,rfl,?_⟩);conv=>whnf)|(refine bI ?_ ?_<;>intro<;>(conv=>whnf)<;>(try (exfalso;omega)))|((first|refine aJ ?_|refine⟨_,rfl,?_⟩);conv=>whnf)|fail)
         . refine⟨(k+1,W'.set (leftOf inL K x k).length y),by dsimp only;omega,hd,?_⟩
           dsimp only
           rw[he,List.length_append,List.map_set]
           (conv=>whnf)
           rfl
         . rename_i hh
           exact absurd hyx hh
     . have hke:k=K.length:=by omega
       subst hke
       obtain⟨se,sl,sg⟩:=hK.step hx (by rw[hKK];exact hno) (by rw[hKK];exact hM)
       rw[hKK] at se sl sg
       by_cases hm:(leftOf inL K x K.length).length=W'.length
       . have hm2:(leftOf inL K x K.length).length=(W'.map crow).length:=by omega
         (try (conv=>whnf));repeat' (first|refine Ok.seq ?_|((first|refine Ok.region tok ?_|refine Ok.cond ?_|refine Ok.exit ?_|refine nI ?_|refine Alt2.l (aI ?_)|refine⟨_,.inl ⟨rfl,rfl⟩,?_⟩|refine⟨_,_,rfl,rfl,?_⟩);conv=>whnf)|(refine bI ?_ ?_<;>intro<;>(conv=>whnf)<;>(try (exfalso;omega)))|(refine aJ ?_;conv=>whnf)|fail)
         refine⟨(i+1,W'++[x]),by dsimp only;omega,sg hm,?_⟩
         dsimp only
         rw[se,List.map_append]
         (conv=>whnf)
         simp[envCat,hm]
       . have hle2:=hM.tk
         have hlt:(leftOf inL K x K.length).length<W'.length:=by
          have:=congrArg List.length hM.tk
          rw[List.length_take] at this
          omega
         have hlt2:(leftOf inL K x K.length).length<(W'.map crow).length:=by omega
         (try (conv=>whnf));repeat' (first|refine Ok.seq ?_|((first|refine Ok.region tok ?_|refine Ok.cond ?_|refine Ok.exit ?_|refine nI ?_|refine Alt2.r (aI ?_)|refine⟨_,.inl ⟨rfl,rfl⟩,?_⟩|refine⟨_,_,rfl,rfl,?_⟩);conv=>whnf)|(refine bI ?_ ?_<;>intro<;>(conv=>whnf)<;>(try (exfalso;omega)))|((first|refine aJ ?_|refine⟨_,rfl,?_⟩);conv=>whnf)|fail)
         refine⟨(i+1,W'.set (leftOf inL K x K.length).length x),by dsimp only;omega,sl hlt,?_⟩
         dsimp only
         rw[se,List.length_append,List.map_set]
         (conv=>whnf)
         rfl
 . have hie:i=l.length:=by omega
   subst hie
   rw[List.take_length] at *
   (try (conv=>whnf));repeat' (first|refine Ok.seq ?_|((first|refine Ok.region tok ?_|refine Ok.cond ?_|refine Ok.exit ?_|refine Ok.ret ?_);conv=>whnf)|(refine bI ?_ ?_<;>intro<;>(conv=>whnf)<;>(try (exfalso;omega)))|fail)
   refine Or.inr (Or.inl ?_);(conv=>whnf)
   exact⟨W,hK,rfl,rfl⟩
structure TR where
 t:Term
 room:List (List D)
@[reducible] def trow(x:TR):List D:=[.i .i64 (x.t.p.length:Int),.i .u64 ((wof (car x.t.p) 0).toNat:Int),.i .u64 ((wof (car x.t.p) 1).toNat:Int),.i .u64 ((wof (car x.t.p) 2).toNat:Int),.i .u64 ((wof (car x.t.p) 3).toNat:Int),.i .u64 ((wof (one x.t.p) 0).toNat:Int),.i .u64 ((wof (one x.t.p) 1).toNat:Int),.i .u64 ((wof (one x.t.p) 2).toNat:Int),.i .u64 ((wof (one x.t.p) 3).toNat:Int),.lst 69 (x.t.less.map crow) x.room,.s x.t.key]
structure TN(x:TR):Prop where
 p:CN x.t.p
 less:∀ m ∈ x.t.less,CN m
 n:x.t.less.length<=1048576
def covR(a b:TR):Prop:=covT a.t b.t
set_option maxHeartbeats 4000000 in
theorem covered_at{a b:TR}(ha:TN a)(hb:TN b):FSpec Tryd.prog T 76 [.agg (trow a),.agg (trow b)] (fun r _=>r = .b (covR a b)):=by
 refine FSpec.of_ok tok Tryd.func76 rfl Tryd.call76 (by simp) ?_
 (try (conv=>whnf));repeat' (first|refine Ok.seq ?_|((first|refine Ok.region tok ?_|refine Ok.cond ?_);conv=>whnf)|refine Ok.block ?_|((first|refine Ok.skip ?_|refine Ok.ret ?_);conv=>whnf)|(refine Or.inl ?_;(conv=>whnf);(repeat (refine aI ?_;conv=>whnf));refine⟨_,within_at a.t.p b.t.p ha.p.1 hb.p.1,rfl,?_⟩;conv=>whnf)|(refine Ok.scope ?_)|(refine Ok.label ?_;conv=>whnf)|(refine bI ?_ ?_<;>intro<;>(conv=>whnf)<;>(try (exfalso;omega)))|fail)
 . rename_i h
   refine Or.inl ?_;(conv=>whnf)
   show D.b False=_
   exact congrArg D.b (propext ⟨fun h=>h.elim,fun h2=>h h2.1⟩)
 . rename_i h
   have hin:inT a.t.p b.t.p:=Classical.not_not.1 h
   have hbn:=hb.n
   have han:=ha.n
   have hbl:(b.t.less.map crow).length=b.t.less.length:=by simp
   have hal:(a.t.less.map crow).length=a.t.less.length:=by simp
   refine Ok.loopU [2,18,19] [20] 0 2 (fun (i:Nat)=>[.i .i64 (i:Nat)]) (fun _ b=>b) (fun _ r=>r) (fun (i:Nat)=>i<=b.t.less.length/\∀ m ∈ b.t.less.take i,∀ c,meetT m a.t.p=some c->∃ n ∈ a.t.less,inT c n) (fun (i:Nat)=>b.t.less.length - i) (0) (⟨Nat.zero_le _,by simp⟩) ?_;(conv=>whnf);refine⟨by ((conv=>whnf);first|rfl|(simp[envCat,List.take_of_length_le,cells9];done)|(simp[envCat,List.take_of_length_le,cells9];rw[IntKind.wrap_i64];omega)),?_⟩
   rintro i ⟨hi,hall⟩
   (conv=>whnf)
   by_cases hil:i<b.t.less.length
   . obtain⟨m,hm⟩:∃ m,b.t.less[i]? = some m:=⟨_,List.getElem?_eq_getElem hil⟩
     have hmo:=hb.less m (List.mem_of_getElem? hm)
     have step:(∀ c,meetT m a.t.p=some c->∃ n ∈ a.t.less,inT c n)->∀ z ∈ b.t.less.take (i+1),∀ c,meetT z a.t.p=some c->∃ n ∈ a.t.less,inT c n:=fun h z hz=>by
      rw[List.take_add_one,hm] at hz
      rcases List.mem_append.1 hz with hz|hz
      . exact hall z hz
      . simp at hz;rw[hz];exact h
     cases hmt:meetT m a.t.p with
     | none=>
      have hsp:=meet_at m a.t.p hmo.1 ha.p.1
      rw[hmt] at hsp
      (try (conv=>whnf));repeat' (first|refine Ok.seq ?_|((first|refine Ok.region tok ?_|refine Ok.cond ?_);conv=>whnf)|refine Ok.block ?_|((first|refine Ok.skip ?_|refine Ok.exit ?_|refine nI ?_|refine ix _ (by assumption) ?_);conv=>whnf)|(refine Or.inr (Or.inl ?_);(conv=>whnf);(repeat (refine aI ?_;conv=>whnf));refine⟨_,hsp,?_⟩;rintro _ _ ⟨rfl,rfl⟩;conv=>whnf)|(refine bI ?_ ?_<;>intro<;>(conv=>whnf)<;>(try (exfalso;omega)))|fail)
      . refine⟨i+1,by omega,⟨by omega,step fun c hc=>by rw[hmt] at hc;cases hc⟩,?_⟩
        (conv=>whnf)
        rfl
      . rename_i h2
        exact absurd (by simp) h2
     | some c=>
      have hsp:=meet_at m a.t.p hmo.1 ha.p.1
      have hcc:=meetT_ct hmt hmo.1 ha.p.1
      rw[hmt] at hsp
      (try (conv=>whnf));repeat' (first|refine Ok.seq ?_|((first|refine Ok.region tok ?_|refine Ok.cond ?_);conv=>whnf)|refine Ok.block ?_|((first|refine Ok.skip ?_|refine Ok.exit ?_|refine nI ?_|refine ix _ (by assumption) ?_);conv=>whnf)|(refine Or.inr (Or.inl ?_);(conv=>whnf);(repeat (refine aI ?_;conv=>whnf));refine⟨_,hsp,?_⟩;rintro _ _ ⟨rfl,rfl⟩;conv=>whnf)|(refine bI ?_ ?_<;>intro<;>(conv=>whnf)<;>(try (exfalso;omega)))|fail)
      . rename_i h2
        exact absurd rfl h2
      . refine Ok.loopU [2,7,18,19,20,34,35] [36] 0 4 (fun (j:Nat)=>[.i .i64 (j:Nat)]) (fun _ b=>b) (fun _ r=>r) (fun (j:Nat)=>j<=a.t.less.length/\∀ n ∈ a.t.less.take j,¬ inT c n) (fun (j:Nat)=>a.t.less.length - j) (0) (⟨Nat.zero_le _,by simp⟩) ?_;(conv=>whnf);refine⟨by ((conv=>whnf);first|rfl|(simp[envCat,List.take_of_length_le,cells9];done)|(simp[envCat,List.take_of_length_le,cells9];rw[IntKind.wrap_i64];omega)),?_⟩
        rintro j ⟨hj,hno⟩
        (conv=>whnf)
        by_cases hjl:j<a.t.less.length
        . obtain⟨n,hn⟩:∃ n,a.t.less[j]? = some n:=⟨_,List.getElem?_eq_getElem hjl⟩
          have hno':=ha.less n (List.mem_of_getElem? hn)
          (try (conv=>whnf));repeat' (first|refine Ok.seq ?_|((first|refine Ok.region tok ?_|refine Ok.cond ?_);conv=>whnf)|refine Ok.block ?_|((first|refine Ok.skip ?_|refine Ok.exit ?_|refine nI ?_|refine ix _ (by assumption) ?_);conv=>whnf)|(refine Or.inl ?_;(conv=>whnf);(repeat (refine aI ?_;conv=>whnf));refine⟨_,within_at c n hcc.1 hno'.1,rfl,?_⟩;conv=>whnf)|(refine bI ?_ ?_<;>intro<;>(conv=>whnf)<;>(try (exfalso;omega)))|fail)
          . rename_i hcn
            refine⟨i+1,by omega,⟨by omega,step fun c' hc'=>?_⟩,?_⟩
            . rw[hmt] at hc'
              cases hc'
              exact⟨n,List.mem_of_getElem? hn,hcn⟩
            . (conv=>whnf)
              rfl
          . rename_i hcn
            refine⟨j+1,by omega,⟨by omega,fun z hz=>?_⟩,?_⟩
            . rw[List.take_add_one,hn] at hz
              rcases List.mem_append.1 hz with hz|hz
              . exact hno z hz
              . simp at hz;rw[hz];exact hcn
            . (conv=>whnf)
              rfl
        . have hje:j=a.t.less.length:=by omega
          subst hje
          rw[List.take_length] at hno
          (try (conv=>whnf));repeat' (first|refine Ok.seq ?_|((first|refine Ok.region tok ?_|refine Ok.cond ?_|refine Ok.exit ?_|refine Ok.ret ?_);conv=>whnf)|(refine bI ?_ ?_<;>intro<;>(conv=>whnf)<;>(try (exfalso;omega)))|fail)
          refine Or.inl ?_;(conv=>whnf)
          show D.b False=_
          refine congrArg D.b (propext ⟨fun h=>h.elim,fun h2=>?_⟩)
          obtain⟨n,hn,hcn⟩:=h2.2 m (List.mem_of_getElem? hm) c hmt
          exact hno n hn hcn
   . have hie:i=b.t.less.length:=by omega
     subst hie
     rw[List.take_length] at hall
     (try (conv=>whnf));repeat' (first|refine Ok.seq ?_|((first|refine Ok.region tok ?_|refine Ok.cond ?_|refine Ok.exit ?_|refine Ok.ret ?_);conv=>whnf)|(refine bI ?_ ?_<;>intro<;>(conv=>whnf)<;>(try (exfalso;omega)))|fail)
     refine Or.inl ?_;(conv=>whnf)
     show D.b True=_
     exact congrArg D.b (propext ⟨fun _=>⟨hin,hall⟩,fun _=>trivial⟩)
set_option maxRecDepth 100000 in
set_option maxHeartbeats 4000000 in
theorem greatestT_at(l:List TR){rl room:List (List D)}(hl:l.length<=1048576)(hok:∀ x ∈ l,TN x)(h:rl=l.map trow):FSpec Tryd.prog T 75 [.lst 81 rl room,.fn 76 [] []]
    (fun d rows=>∃ W:List TR,Kept covR l l.length W/\d = .own 0 (grG covR l).length/\rows=[some (81,W.map trow)]):=by
 subst h
 have hll:(l.map trow).length=l.length:=by simp
 refine FSpec.of_ok tok Tryd.func75 rfl Tryd.call75 (by simp) ?_
 (try (conv=>whnf));repeat' (first|refine Ok.seq ?_|(refine Ok.region tok ?_;conv=>whnf)|refine Ok.block ?_|(refine Ok.scope ?_)|(refine Ok.label ?_;conv=>whnf)|fail)
 refine Ok.ghost 5 81 rfl ?_
 (conv=>whnf)
 refine Ok.loopU [1,13,14] [5,15] 1 0 (fun (x:Nat × List TR)=>[.own 0 (grG covR (l.take x.1)).length,.i .i64 (x.1:Nat)]) (fun _ b=>b) (fun (x:Nat × List TR) (_:Vx.Rows)=>[some (81,x.2.map trow)]) (fun (x:Nat × List TR)=>Kept covR l x.1 x.2) (fun (x:Nat × List TR)=>l.length - x.1) ((0,[])) (Kept.zero) ?_;(conv=>whnf);refine⟨by ((conv=>whnf);first|rfl|(simp[envCat,List.take_of_length_le,cells9];done)|(simp[envCat,List.take_of_length_le,cells9];rw[IntKind.wrap_i64];omega)),?_⟩
 rintro⟨i,W⟩ hK
 dsimp only at hK ⊢
 have hWl:(W.map trow).length=W.length:=by simp
 have hKn:=hK.n
 have hKw:=hK.w
 have hKi:=hK.le
 (conv=>whnf)
 by_cases hil:i<l.length
 . obtain⟨x,hx⟩:∃ x,l[i]? = some x:=⟨_,List.getElem?_eq_getElem hil⟩
   have hxo:=hok x (List.mem_of_getElem? hx)
   have hmem:∀ y ∈ grG covR (l.take i),TN y:=fun y hy=>hok y (List.take_subset _ _ (grG_sub covR _ y hy))
   (try (conv=>whnf));repeat' (first|refine Ok.seq ?_|((first|refine Ok.region tok ?_|refine Ok.cond ?_);conv=>whnf)|refine Ok.block ?_|((first|refine Ok.skip ?_|refine ix _ (by assumption) ?_);conv=>whnf)|(refine bI ?_ ?_<;>intro<;>(conv=>whnf)<;>(try (exfalso;omega)))|fail)
   generalize hKK:grG covR (l.take i)=K at *
   refine Ok.loopU [1,5,7,13,14,15,19,20] [21] 1 1 (fun (j:Nat)=>[.i .i64 (j:Nat)]) (fun _ b=>b) (fun _ r=>r) (fun (j:Nat)=>j<=K.length/\∀ y ∈ K.take j,¬ covR x y) (fun (j:Nat)=>K.length - j) (0) (⟨Nat.zero_le _,by simp⟩) ?_;(conv=>whnf);refine⟨by ((conv=>whnf);first|rfl|(simp[envCat,List.take_of_length_le,cells9];done)|(simp[envCat,List.take_of_length_le,cells9];rw[IntKind.wrap_i64];omega)),?_⟩
   rintro j ⟨hj,hno⟩
   (conv=>whnf)
   by_cases hjl:j<K.length
   . obtain⟨y,hy⟩:∃ y,K[j]? = some y:=⟨_,List.getElem?_eq_getElem hjl⟩
     have hyo:=hmem y (List.mem_of_getElem? hy)
     have hWj:W[((j:Nat):Int).toNat]? = some y:=by
      have:=hK.get (j:=j) (by rw[hKK];exact hjl)
      rw[hKK,hy] at this
      exact this
     (try (conv=>whnf));repeat' (first|refine Ok.seq ?_|((first|refine Ok.region tok ?_|refine Ok.cond ?_);conv=>whnf)|refine Ok.block ?_|((first|refine Ok.skip ?_|refine Ok.exit ?_|refine nI ?_);conv=>whnf)|(refine Or.inl ?_;(conv=>whnf);(repeat (refine aI ?_;conv=>whnf));refine⟨_,covered_at hxo hyo,rfl,?_⟩;conv=>whnf)|(refine rd rfl (by assumption) ?_;conv=>whnf)|(refine bI ?_ ?_<;>intro<;>(conv=>whnf)<;>(try (exfalso;omega)))|(refine aJ ?_;conv=>whnf)|fail)
     . rename_i hxy
       have hin:∃ y ∈ grG covR (l.take i),covR x y:=⟨y,by rw[hKK];exact List.mem_of_getElem? hy,hxy⟩
       obtain⟨hs,he⟩:=hK.skip hx hin
       refine⟨(i+1,W),by dsimp only;omega,hs,?_⟩
       dsimp only
       rw[he,hKK]
       (conv=>whnf)
       rfl
     . rename_i hxy
       refine⟨j+1,by omega,⟨by omega,fun z hz=>?_⟩,?_⟩
       . rw[List.take_add_one,hy] at hz
         rcases List.mem_append.1 hz with hz|hz
         . exact hno z hz
         . simp at hz;rw[hz];exact hxy
       . (conv=>whnf)
         rfl
   . have hje:j=K.length:=by omega
     subst hje
     rw[List.take_length] at hno
     (try (conv=>whnf));repeat' (first|refine Ok.seq ?_|((first|refine Ok.region tok ?_|refine Ok.cond ?_|refine Ok.exit ?_);conv=>whnf)|(refine bI ?_ ?_<;>intro<;>(conv=>whnf)<;>(try (exfalso;omega)))|fail)
     refine⟨0,rfl,rfl,by omega,?_⟩
     (try (conv=>whnf));repeat' (first|refine Ok.seq ?_|(refine Ok.region tok ?_;conv=>whnf)|refine Ok.block ?_|fail)
     refine Ok.loopU [1,7,13,14,15,32,33] [10,34] 1 1 (fun (z:Nat × List TR)=>[.own 0 (leftOf covR K x z.1).length,.i .i64 (z.1:Nat)]) (fun _ b=>b) (fun (z:Nat × List TR) (_:Vx.Rows)=>[some (81,z.2.map trow)]) (fun (z:Nat × List TR)=>Mid covR K x W z.1 z.2) (fun (z:Nat × List TR)=>K.length - z.1) ((0,W)) (Mid.zero) ?_;(conv=>whnf);refine⟨by ((conv=>whnf);first|rfl|(simp[envCat,List.take_of_length_le,cells9];done)|(simp[envCat,List.take_of_length_le,cells9];rw[IntKind.wrap_i64];omega)),?_⟩
     rintro⟨k,W'⟩ hM
     dsimp only at hM ⊢
     have hMk:=hM.le
     have hMl:=hM.len
     have hWl':(W'.map trow).length=W'.length:=by simp
     have hkept:W.take K.length=K:=by
      have:=hK.tk
      rw[hKK] at this
      exact this
     (conv=>whnf)
     by_cases hkl:k<K.length
     . obtain⟨y,hy⟩:∃ y,K[k]? = some y:=⟨_,List.getElem?_eq_getElem hkl⟩
       have hyo:=hmem y (List.mem_of_getElem? hy)
       have hWj:W'[((k:Nat):Int).toNat]? = some y:=by
        rw[toNat_cast,hM.get hkept hkl,hy]
       by_cases hyx:covR y x
       . obtain⟨hd,he⟩:=hM.drop hy hyx
         (try (conv=>whnf));repeat' (first|refine Ok.seq ?_|((first|refine Ok.region tok ?_|refine Ok.cond ?_);conv=>whnf)|refine Ok.block ?_|((first|refine Ok.skip ?_|refine nI ?_);conv=>whnf)|(refine Or.inl ?_;(conv=>whnf);(repeat (refine aI ?_;conv=>whnf));refine⟨_,covered_at hyo hxo,rfl,?_⟩;conv=>whnf)|(refine rd rfl (by assumption) ?_;conv=>whnf)|(refine bI ?_ ?_<;>intro<;>(conv=>whnf)<;>(try (exfalso;omega)))|(refine aJ ?_;conv=>whnf)|fail)
         . exact absurd hyx (by assumption)
         . refine⟨(k+1,W'),by dsimp only;omega,hd,?_⟩
           dsimp only
           rw[he]
           (conv=>whnf)
           rfl
       . obtain⟨hd,he,hlt⟩:=hM.keep hKn hy hyx
         have hlt2:(leftOf covR K x k).length<(W'.map trow).length:=by omega
         have hnle:¬ (leftOf covR K x k).length=(W'.map trow).length:=by omega
         (try (conv=>whnf));repeat' (first|refine Ok.seq ?_|((first|refine Ok.region tok ?_|refine Ok.cond ?_);conv=>whnf)|refine Ok.block ?_|((first|refine Ok.skip ?_|refine nI ?_);conv=>whnf)|(refine Or.inl ?_;(conv=>whnf);(repeat (refine aI ?_;conv=>whnf));refine⟨_,covered_at hyo hxo,rfl,?_⟩;conv=>whnf)|((first|refine Alt2.r (aI ?_)|refine rd rfl (by assumption) ?_|refine⟨_,.inl ⟨rfl,rfl⟩,?_⟩|refine⟨_,_,rfl,rfl,?_⟩);conv=>whnf)|(refine bI ?_ ?_<;>intro<;>(conv=>whnf)<;>(try (exfalso;omega)))|((first|refine aJ ?_|refine⟨_,rfl,?_⟩);conv=>whnf)|fail)
         . refine⟨(k+1,W'.set (leftOf covR K x k).length y),by dsimp only;omega,hd,?_⟩
           dsimp only
           rw[he,List.length_append,List.map_set]
           (conv=>whnf)
           rfl
         . rename_i hh
           exact absurd hyx hh
     . have hke:k=K.length:=by omega
       subst hke
       obtain⟨se,sl,sg⟩:=hK.step hx (by rw[hKK];exact hno) (by rw[hKK];exact hM)
       rw[hKK] at se sl sg
       by_cases hm:(leftOf covR K x K.length).length=W'.length
       . have hm2:(leftOf covR K x K.length).length=(W'.map trow).length:=by omega
         (try (conv=>whnf));repeat' (first|refine Ok.seq ?_|((first|refine Ok.region tok ?_|refine Ok.cond ?_|refine Ok.exit ?_|refine nI ?_|refine Alt2.l (aI ?_)|refine⟨_,.inl ⟨rfl,rfl⟩,?_⟩|refine⟨_,_,rfl,rfl,?_⟩);conv=>whnf)|(refine bI ?_ ?_<;>intro<;>(conv=>whnf)<;>(try (exfalso;omega)))|(refine aJ ?_;conv=>whnf)|fail)
         refine⟨(i+1,W'++[x]),by dsimp only;omega,sg hm,?_⟩
         dsimp only
         rw[se,List.map_append]
         (conv=>whnf)
         simp[envCat,hm]
       . have hle2:=hM.tk
         have hlt:(leftOf covR K x K.length).length<W'.length:=by
          have:=congrArg List.length hM.tk
          rw[List.length_take] at this
          omega
         have hlt2:(leftOf covR K x K.length).length<(W'.map trow).length:=by omega
         (try (conv=>whnf));repeat' (first|refine Ok.seq ?_|((first|refine Ok.region tok ?_|refine Ok.cond ?_|refine Ok.exit ?_|refine nI ?_|refine Alt2.r (aI ?_)|refine⟨_,.inl ⟨rfl,rfl⟩,?_⟩|refine⟨_,_,rfl,rfl,?_⟩);conv=>whnf)|(refine bI ?_ ?_<;>intro<;>(conv=>whnf)<;>(try (exfalso;omega)))|((first|refine aJ ?_|refine⟨_,rfl,?_⟩);conv=>whnf)|fail)
         refine⟨(i+1,W'.set (leftOf covR K x K.length).length x),by dsimp only;omega,sl hlt,?_⟩
         dsimp only
         rw[se,List.length_append,List.map_set]
         (conv=>whnf)
         rfl
 . have hie:i=l.length:=by omega
   subst hie
   rw[List.take_length] at *
   (try (conv=>whnf));repeat' (first|refine Ok.seq ?_|((first|refine Ok.region tok ?_|refine Ok.cond ?_|refine Ok.exit ?_|refine Ok.ret ?_);conv=>whnf)|(refine bI ?_ ?_<;>intro<;>(conv=>whnf)<;>(try (exfalso;omega)))|fail)
   refine Or.inr (Or.inl ?_);(conv=>whnf)
   exact⟨W,hK,rfl,rfl⟩
end Go.Proofs.YtaiondckookpiaaDoor
namespace Go.Vx
open Go.RowKit Go.Shelf Go.Proofs
structure CopyC(P:Program)(f t:Nat):Prop where
 call:∀ args w,(callFunc f args).run P w = .ok (.enter f args) w
 fresh:∀ (b:Nat) (w:World),w.cell? ⟨b,0,none⟩=some (.pointer none)->w.shape? b=some (t,2)->w.frozen? ⟨b,0,none⟩=false ->
  Calls P f #[.pointer (some ⟨b,0,none⟩)] w fun e w'=>e = .returned (.tuple #[])/\w'=w.setCell ⟨b,0,none⟩ (.pointer (some ⟨b,0,none⟩))
 used:∀ (b:Nat) (w:World),w.cell? ⟨b,0,none⟩=some (.pointer (some ⟨b,0,none⟩))->Calls P f #[.pointer (some ⟨b,0,none⟩)] w fun e w'=>e = .returned (.tuple #[])/\w'=w
structure StrC(P:Program)(f e:Nat):Prop where
 call:∀ args w,(callFunc f args).run P w = .ok (.enter f args) w
 run:∀ (b g:Nat) (w:World) (l:List UInt8) (cap:Nat) (cur:Array Value),w.cell? ⟨b,1,none⟩=some (.slice (some ⟨g,0,none⟩) l.length cap)->w.heap[g]? = some (.cells cur e (0,0))->l.length<=cap->cap<=maxLen ->
  cur.size=cap->cur.toList.take l.length=Lib.byteCells l->l ≠ []->Calls P f #[.pointer (some ⟨b,0,none⟩)] w fun e w'=>e = .returned (.string (bstr l))/\w'=w.drew.freeze ⟨g,0,none⟩ l.length
set_option maxHeartbeats 4000000 in
set_option maxRecDepth 100000 in
theorem strC{P:Program}{ρ:Ren}(L:Lays.n169 P ρ)(X:Builder.Extra P ρ)(hc:∀ args w,(callFunc (ρ.f 169) args).run P w = .ok (.enter (ρ.f 169) args) w):StrC P (ρ.f 169) (ρ.t 5):=by
 refine⟨hc,fun b g w l cap cur hb hg hlc hcm hcs htk h0=>?_⟩
 have hl0:l.length ≠ 0:=by simpa using h0
 have c1:w.drew.cell? ⟨b,1,none⟩=some (.slice (some ⟨g,0,none⟩) l.length cap):=hb
 have hSD:(Builtin.unsafeSliceData_ #[(ρ.t 37)] (ρ.t 127) #[.slice (some ⟨g,0,none⟩) l.length cap]).run P w.drew = .ok (.pointer (some ⟨g,0,none⟩)) w.drew:=Lib.run_unsafeSliceData_row _ _ _ _ _ _ (by omega)
 have hg':w.drew.heap[g]? = some (.cells cur (ρ.t 5) (0,0)):=hg
 have hUS:(Builtin.unsafeString_ #[(ρ.t 127),(ρ.t 3)] (ρ.t 9) #[.pointer (some ⟨g,0,none⟩),.int .i64 l.length]).run P w.drew = .ok (.string ⟨l.toArray⟩) (w.drew.freeze ⟨g,0,none⟩ l.length):=by
  refine Lib.run_unsafeString_row w.drew (ρ.t 127) (ρ.t 3) (ρ.t 9) (ρ.t 5) L.t127 X.cellsByte g cur.size (by simp[World.shape?,hg']) l h0 (by omega) (by unfold maxLen at hcm;omega) ?_
  intro j x hx
  have h1:(cur.toList.take l.length)[j]? = some (.int .u8 x.toNat):=by
   rw[htk]
   simp[Lib.byteCells,hx]
  rw[List.getElem?_take] at h1
  split at h1
  . rw[add_lit,Nat.zero_add,cell_of_row w.drew g j cur (ρ.t 5) (0,0) hg']
    simpa using h1
  . cases h1
 have mixed:=L.mixed
 have t72:=L.t72;have a72:=L.a72;have z72:=L.z72;have v72:=L.v72;have u72:=run_underlying L.t72
 have t70:=L.t70;have a70:=L.a70;have z70:=L.z70;have v70:=L.v70;have u70:=run_underlying L.t70
 have t37:=L.t37;have a37:=L.a37;have z37:=L.z37;have v37:=L.v37;have u37:=run_underlying L.t37
 have t127:=L.t127;have a127:=L.a127;have z127:=L.z127;have v127:=L.v127;have u127:=run_underlying L.t127
 have t3:=L.t3;have a3:=L.a3;have z3:=L.z3;have v3:=L.v3;have u3:=run_underlying L.t3
 have t9:=L.t9;have a9:=L.a9;have z9:=L.z9;have v9:=L.v9;have u9:=run_underlying L.t9
 have t5:=X.t5;have a5:=X.a5;have z5:=X.z5;have v5:=X.v5;have u5:=run_underlying X.t5
 go_enter L.f169,Body.n169_ntmps ρ
 go_wp2
 go_region_o
 all_goals
  go_wp2
  go_ret
  exact⟨rfl,rfl⟩
section
variable {w0 w w' : World} {V0 : Fr} {V : Vw} {μ : List Nat} {ω : List Value} {box : List (List D)} {row : Rows} {s : St} {a : Act} {P : Program} {T : Tab} {sz : TypeId → Nat}
theorem fz_heap(w:World)(g n:Nat)(hn:n ≠ 0):(w.freeze ⟨g,0,none⟩ n).heap=w.heap.modify g fun o=>match o with
    | .cells c elem (lo,hi)=>.cells c elem (if lo == hi then (0,0+n) else (min lo 0,max hi (0+n)))
    | o=>o:=by
 unfold World.freeze
 rw[if_neg hn]
 congr 1
theorem freeze_other(w:World)(g k n:Nat)(h:k ≠ g):(w.drew.freeze ⟨g,0,none⟩ n).heap[k]? = w.heap[k]?:=by
 by_cases hn:n=0
 . subst hn;rfl
 . rw[fz_heap _ _ _ hn,Array.getElem?_modify,if_neg (Ne.symm h)]
   rfl
theorem freeze_size(w:World)(g n:Nat):(w.drew.freeze ⟨g,0,none⟩ n).heap.size=w.heap.size:=by
 by_cases hn:n=0
 . subst hn;rfl
 . rw[fz_heap _ _ _ hn,Array.size_modify]
   rfl
theorem freeze_cell(w:World)(g n:Nat)(p:Addr):(w.drew.freeze ⟨g,0,none⟩ n).cell? p=w.cell? p:=by
 unfold World.cell?
 by_cases hp:p.block=g
 . by_cases hn:n=0
   . subst hn;rfl
   . rw[fz_heap _ _ _ hn,Array.getElem?_modify,if_pos hp.symm]
     have hd:w.drew.heap[p.block]? = w.heap[p.block]?:=rfl
     rw[hd]
     cases h:w.heap[p.block]? with
     | none=>rfl
     | some o=>cases o<;>rfl
 . rw[freeze_other _ _ _ _ hp]
theorem Mem.freeze(h:Mem sz w0 V0 V μ ω box row w){g n:Nat}(hg0:w0.heap.size<=g)(hno:∀ l,¬ Own μ ω row l g)(hkc:∀ x ∈ V0.kc,x.1 ≠ g):Mem sz w0 V0 V μ ω box row (w.drew.freeze ⟨g,0,none⟩ n):=by
 refine⟨Lib.below_freeze (h.below.trans (Below.drew (Below.refl _ w))) (p:=⟨g,0,none⟩) hg0 n,⟨⟨h.vok.1.1,fun k cs hk=>by
  obtain⟨h1,a,b,h2⟩:=h.vok.1.2 k cs hk
  by_cases hkg:k=g
  . subst hkg
    by_cases hn:n=0
    . subst hn;exact⟨h1,a,b,h2⟩
    . rw[fz_heap _ _ _ hn,Array.getElem?_modify,if_pos rfl]
      have hd:w.drew.heap[k]? = w.heap[k]?:=rfl
      rw[hd,h2]
      exact⟨h1,a,_,rfl⟩
  . exact⟨h1,a,b,by rw[freeze_other _ _ _ _ hkg];exact h2⟩⟩,fun p v hp=>by rw[freeze_cell];exact h.vok.2 p v hp⟩,h.vle,h.vold,h.bl,fun i g' cs h1 h2=>?_,h.rl,fun r v e xs h1 h2=>?_,h.uniq,fun l g' hl=>by rw[freeze_size];exact h.new l g' hl,h.vmut,fun x hx=>let ⟨a,b,c,d⟩:=h.away x hx;⟨by rw[freeze_other _ _ _ _ (hkc x hx)];exact a,b,c,d⟩⟩
 . obtain⟨vs,t,a,b⟩:=h.hbox i g' cs h1 h2
   have hne:g' ≠ g:=fun e=>hno (.inl i) (by rw[<- e];exact h1)
   exact⟨vs,t,by rw[freeze_other _ _ _ _ hne];exact a,b⟩
 . obtain⟨vals,hown,b⟩:=h.hrow r v e xs h1 h2
   refine⟨vals,⟨hown.1,?_⟩,b⟩
   rcases hown.2 with hn|⟨g',cap,cur,e',fz,hv,hb,hg,rest⟩
   . exact .inl hn
   . have hne:g' ≠ g:=fun e=>hno (.inr r) ⟨v,_,h1,h2,by rw[hv,<- e];rfl⟩
     exact .inr ⟨g',cap,cur,e',fz,hv,hb,by rw[freeze_other _ _ _ _ hne];exact hg,rest⟩
theorem setCell_row{w:World}{g:Nat}{vs:Array Value}{t:TypeId}{fr:Nat × Nat}(hg:w.heap[g]? = some (.cells vs t fr))(v:Value):w.setCell ⟨g,0,none⟩ v=w.setRow g (vs.setIfInBounds 0 v):=by
 unfold World.setCell World.setRow
 congr 1
 apply Array.ext_getElem?
 intro k
 simp only[Array.getElem?_modify]
 by_cases hk:g=k
 . subst hk
   simp[hg]
 . simp[hk]
theorem setK_mk{α:Type}{x:α}:∀ {l:List α} {i:Nat} {K:List α->Prop},i<l.length->K (l.set i x)->setK l i x K
 | [],_,_,h,_=>absurd h (by simp)
 | _ :: _,0,_,_,h=>h
 | _ :: l,i+1,K,hi,h=>setK_mk (l:=l) (K:=fun r=>K (_ :: r)) (by simpa using hi) h
theorem effW_fresh{f t i n:Nat}(C:CopyC P f t){env:List (Nat × D)}{x:D}{K:D->St->Prop}(hb:box[i]? = some [.nilB t,x])
    (h:setK box i [.bp i 0,x] fun box=>K (.tup []) ⟨env,box,row,n⟩):effW P T ⟨env,box,row,n⟩ f [.bp i 0] K:=by
 refine⟨C.call,fun w0 V0 V μ ω a w vs hS hl hR=>?_⟩
 obtain⟨v,rfl⟩:∃ v,vs=[v]:=by
  match vs,hl with
  | [v],_=>exact⟨v,rfl⟩
 obtain⟨g,hg,rfl⟩:=(hR 0 v _ rfl rfl).bp_
 obtain⟨us,t',hh,hs,ho,hrel,hty⟩:=hS.mem.hbox i g _ hg hb
 have ht:t=t':=hty
 subst ht
 have hs2:us.size=2:=hs
 have hu0:us[0]? = some us[0]:=Array.getElem?_eq_getElem (by omega)
 have hv0:us[0] = .pointer none:=by
  have key:∀ u,RS (szOf T) V μ ω u (.nilB t)->u = .pointer none:=fun u hu=>by cases hu with|imm _ _ hr=>cases hr;rfl
  exact key _ (hrel 0 _ (.nilB t) hu0 rfl)
 obtain⟨hil,h⟩:=setK_iff _ _ _ _ h
 have hcall:=C.fresh g w (by rw[cell_of_row w g 0 us t (0,0) hh,hu0,hv0]) (by simp[World.shape?,hh,hs2]) (by simp[World.frozen?,hh])
 refine hcall.mono ?_
 rintro e w' ⟨rfl,rfl⟩
 have hM:=hS.mem.setBox (cs:=[.bp i 0,x]) (vs:=us.setIfInBounds 0 (.pointer (some ⟨g,0,none⟩))) hg hil ⟨by simp[hs2],fun u hu=>?_,fun j u d h1 h2=>?_⟩ fun t=>trivial
 . rw[setCell_row hh]
   exact⟨_,_,_,V,μ,ω,rfl,h,.tup [] #[] rfl (by simp),⟨hS.tmps,hS.defers.setRow hh _,hS.env,hM⟩⟩
 . rw[Array.toList_setIfInBounds] at hu
   rcases List.mem_or_eq_of_mem_set hu with hu|rfl
   . exact ho u hu
   . rfl
 . cases j with
   | zero=>
    rw[Array.getElem?_setIfInBounds_self_of_lt (by omega)] at h1
    cases h1
    cases h2
    exact .bp i 0 g hg
   | succ j=>
    rw[Array.getElem?_setIfInBounds_ne (by omega)] at h1
    exact hrel (j+1) u d h1 h2
theorem effW_used{f t i n:Nat}(C:CopyC P f t){env:List (Nat × D)}{x:D}{K:D->St->Prop}(hb:box[i]? = some [.bp i 0,x])
    (h:K (.tup []) ⟨env,box,row,n⟩):effW P T ⟨env,box,row,n⟩ f [.bp i 0] K:=by
 refine⟨C.call,fun w0 V0 V μ ω a w vs hS hl hR=>?_⟩
 obtain⟨v,rfl⟩:∃ v,vs=[v]:=by
  match vs,hl with
  | [v],_=>exact⟨v,rfl⟩
 obtain⟨g,hg,rfl⟩:=(hR 0 v _ rfl rfl).bp_
 obtain⟨us,t',hh,hs,ho,hrel,hty⟩:=hS.mem.hbox i g _ hg hb
 have hs2:us.size=2:=hs
 have hu0:us[0]? = some us[0]:=Array.getElem?_eq_getElem (by omega)
 have hv0:us[0] = .pointer (some ⟨g,0,none⟩):=by
  obtain⟨g2,hg2,e⟩:=(hrel 0 _ (.bp i 0) hu0 rfl).bp_
  rw[e]
  have hg3:=hS.mem
  rw[hg] at hg2
  cases hg2
  rfl
 refine (C.used g w (by rw[cell_of_row w g 0 us t' (0,0) hh,hu0,hv0])).mono ?_
 rintro e w' ⟨rfl,rfl⟩
 exact⟨_,_,_,V,μ,ω,rfl,h,.tup [] #[] rfl (by simp),hS⟩
theorem effK_string{f e i r m n:Nat}(C:StrC P f e)(h1:szOf T e=1){env:List (Nat × D)}{x:D}{xs:List (List D)}{l:List UInt8}{K:D->St->Prop}(hb:box[i]? = some [x,.own r m])(hr:row[r]? = some (some (e,xs)))
    (hm:m<=xs.length)(hl:xs.take m=l.map bcell)(h0:l ≠ [])(h:pubK r ⟨env,box,row,n⟩ [] fun _ s'=>K (.s l) s')(he:e<BIG:=by decide):effK P T ⟨env,box,row,n⟩ f [.bp i 0] K:=by
 refine⟨C.call,fun w0 V0 V μ ω a w vs hS hvl hR=>?_⟩
 obtain⟨v,rfl⟩:∃ v,vs=[v]:=by
  match vs,hvl with
  | [v],_=>exact⟨v,rfl⟩
 obtain⟨gb,hgb,rfl⟩:=(hR 0 v _ rfl rfl).bp_
 obtain⟨us,t',hh,hs,ho,hrel,hty⟩:=hS.mem.hbox i gb _ hgb hb
 have hs2:us.size=2:=hs
 have hu1:us[1]? = some us[1]:=Array.getElem?_eq_getElem (by omega)
 have hown1:=hrel 1 _ (.own r m) hu1 rfl
 obtain⟨A,N,c,hω,hn,hv1⟩:=hown1.own_
 obtain⟨A2,c2,vals,e1,hc,hmx,hA,hA2,hown,hRR⟩:=hS.mem.rowShape he hω hr
 cases e1
 have hml:m=l.length:=by have:=congrArg List.length hl;rw[List.length_take,List.length_map] at this;omega
 have hlp:l.length ≠ 0:=by simpa using h0
 rcases hown.2 with⟨hv,hz⟩|⟨g,cap,cur,hv,hbase,hg,h5,h6,h7,h8⟩
 . omega
 injection hv with hv2 hv3 hv4
 subst hv2 hv4
 rw[h1,Nat.mul_one] at h7 h8
 have hval:cur.toList.take l.length=Lib.byteCells l:=by
  apply List.ext_getElem?
  intro j
  rw[List.getElem?_take]
  split
  . rename_i hj
    have hlj:l[j]? = some l[j]:=List.getElem?_eq_getElem hj
    have hx:xs[j]? = some (bcell l[j]):=by
     have:=congrArg (fun q=>q[j]?) hl
     simp only[List.getElem?_map,hlj,Option.map_some] at this
     rw[List.getElem?_take] at this
     split at this
     . exact this
     . cases this
    obtain⟨u,hu,hu2⟩:=hRR.rel j (bcell l[j]) 0 _ hx rfl
    rw[h1,Nat.mul_one,Nat.add_zero,<- h8,List.getElem?_take] at hu
    split at hu
    . rw[hu]
      cases hu2
      simp[Lib.byteCells,hlj]
    . cases hu
  . rw[List.getElem?_eq_none]
    simp[Lib.byteCells]
    omega
 obtain⟨V',_,s',hk,_,hS',hle⟩:=pubK_sound (vs:=[]) (ds:=[]) (K:=fun _ s'=>K (.s l) s'/\s'.row=row.set r none) hS ⟨rfl,fun j v d h=>by simp at h⟩ (by
  simp only[pubK] at h ⊢
  rw[hr] at h ⊢
  simp only[subE_eq,subB_eq] at h ⊢
  obtain⟨hrl,h⟩:=setK_iff _ _ _ _ h
  exact setK_mk hrl ⟨h,rfl⟩)
 refine (C.run gb g w l c cur (by rw[cell_of_row w gb 1 us t' (0,0) hh,hu1,hv1,hml]) hg (by omega) h6 h7 hval h0).mono ?_
 rintro e' w' ⟨rfl,rfl⟩
 have hno:∀ q,¬ Own μ ω s'.row q g:=by
  intro q hq
  rw[hk.2] at hq
  cases q with
  | inl j=>
   have:=hS.mem.uniq (.inl j) (.inr r) g hq ⟨_,_,hω,hr,rfl⟩
   cases this
  | inr q=>
   obtain⟨v,y,k1,k2,k3⟩:=hq
   by_cases hqr:q=r
   . subst hqr
     rw[List.getElem?_set_self (List.getElem?_eq_some_iff.1 hr).1] at k2
     cases k2
   . rw[List.getElem?_set_ne (Ne.symm hqr)] at k2
     have:=hS.mem.uniq (.inr q) (.inr r) g ⟨v,y,k1,k2,k3⟩ ⟨_,_,hω,hr,rfl⟩
     cases this
     exact hqr rfl
 exact⟨_,_,s',V',μ,ω,rfl,hk.1,.imm _ _ (.s l),⟨hS'.tmps,hS'.defers.to (fun k o ho hn=>by rw[freeze_other _ _ _ _ (fun e=>by rw[e,hg] at ho;exact hn _ _ _ (Option.some.inj ho).symm)];exact ho),hS'.env,hS'.mem.freeze hbase hno fun x hx e=>(hS.mem.away x hx).2.2.1 (.inr r) ⟨_,_,hω,hr,by rw[e];rfl⟩⟩,hle,.refl μ,.refl ω,fun p v hp=>by rw[freeze_cell];exact hp⟩
theorem effW_of_effK{f:Nat}{ds:List D}{K:D->St->Prop}(h:effK P T s f ds K):effW P T s f ds K:=
 ⟨h.call,fun w0 V0 V μ ω a w vs hS hl hR=>(h.run w0 V0 V μ ω a w vs hS hl hR).mono fun e w' ⟨v,d,s',V',μ',ω',h1,h2,h3,h4,_⟩=>⟨v,d,s',V',μ',ω',h1,h2,h3,h4⟩⟩
end
end Go.Vx
namespace Go.Proofs
open Go.Shelf
def Tryd.vxSort_ren:Go.Shelf.Ren:=⟨fun|6=>73|10=>95|11=>96|12=>97|13=>98|14=>99|24=>116|25=>117|26=>118|27=>119|28=>120|29=>121|30=>122|31=>123|32=>124|33=>125|34=>131|35=>132|36=>133|37=>134|38=>135|39=>138|n=>n,fun|20=>20|26=>94|35=>142|0=>0|37=>144|3=>3|41=>147|44=>150|49=>160|51=>65|4=>4|54=>164|53=>163|58=>168|5=>5|9=>9|60=>170|64=>174|66=>182|67=>183|17=>17|32=>139|33=>140|82=>196|12=>12|75=>190|76=>191|77=>192|78=>127|79=>193|80=>194|n=>n,fun|n=>n⟩
theorem Tryd.vxSort:Go.Proofs.LaysGg.n6 Tryd.prog Tryd.vxSort_ren:={
 mixed:=by kernel_rfl
 f6:=Tryd.func73.trans (congrArg some (by kernel_rfl))
 f10:=Tryd.func95.trans (congrArg some (by kernel_rfl))
 f11:=Tryd.func96.trans (congrArg some (by kernel_rfl))
 f12:=Tryd.func97.trans (congrArg some (by kernel_rfl))
 f13:=Tryd.func98.trans (congrArg some (by kernel_rfl))
 f14:=Tryd.func99.trans (congrArg some (by kernel_rfl))
 f24:=Tryd.func116.trans (congrArg some (by kernel_rfl))
 f25:=Tryd.func117.trans (congrArg some (by kernel_rfl))
 f26:=Tryd.func118.trans (congrArg some (by kernel_rfl))
 f27:=Tryd.func119.trans (congrArg some (by kernel_rfl))
 f28:=Tryd.func120.trans (congrArg some (by kernel_rfl))
 f29:=Tryd.func121.trans (congrArg some (by kernel_rfl))
 f30:=Tryd.func122.trans (congrArg some (by kernel_rfl))
 f31:=Tryd.func123.trans (congrArg some (by kernel_rfl))
 f32:=Tryd.func124.trans (congrArg some (by kernel_rfl))
 f33:=Tryd.func125.trans (congrArg some (by kernel_rfl))
 f34:=Tryd.func131.trans (congrArg some (by kernel_rfl))
 f35:=Tryd.func132.trans (congrArg some (by kernel_rfl))
 f36:=Tryd.func133.trans (congrArg some (by kernel_rfl))
 f37:=Tryd.func134.trans (congrArg some (by kernel_rfl))
 f38:=Tryd.func135.trans (congrArg some (by kernel_rfl))
 f39:=Tryd.func138.trans (congrArg some (by kernel_rfl))
 t0:=Tryd.underlying0
 a0:=Tryd.isAgg0
 z0:=Tryd.sizeOf0
 v0:=Tryd.zeroValue0
 i0:=by kernel_rfl
 t3:=Tryd.underlying3
 a3:=Tryd.isAgg3
 z3:=Tryd.sizeOf3
 v3:=Tryd.zeroValue3
 i3:=by kernel_rfl
 t4:=Tryd.underlying4
 a4:=Tryd.isAgg4
 z4:=Tryd.sizeOf4
 v4:=Tryd.zeroValue4
 i4:=by kernel_rfl
 t5:=Tryd.underlying5
 a5:=Tryd.isAgg5
 z5:=Tryd.sizeOf5
 v5:=Tryd.zeroValue5
 i5:=by kernel_rfl
 t9:=Tryd.underlying9
 a9:=Tryd.isAgg9
 z9:=Tryd.sizeOf9
 v9:=Tryd.zeroValue9
 i9:=by kernel_rfl
 t12:=Tryd.underlying12
 a12:=Tryd.isAgg12
 z12:=Tryd.sizeOf12
 v12:=Tryd.zeroValue12
 i12:=by kernel_rfl
 t17:=Tryd.underlying17
 a17:=Tryd.isAgg17
 z17:=Tryd.sizeOf17
 v17:=Tryd.zeroValue17
 i17:=by kernel_rfl
 t20:=Tryd.underlying20
 a20:=Tryd.isAgg20
 z20:=Tryd.sizeOf20
 v20:=Tryd.zeroValue20
 i20:=by kernel_rfl
 t26:=Tryd.underlying94
 a26:=Tryd.isAgg94
 z26:=Tryd.sizeOf94
 v26:=Tryd.zeroValue94
 i26:=by kernel_rfl
 t32:=Tryd.underlying139
 a32:=Tryd.isAgg139
 z32:=Tryd.sizeOf139
 v32:=Tryd.zeroValue139
 i32:=by kernel_rfl
 t33:=Tryd.underlying140
 a33:=Tryd.isAgg140
 z33:=Tryd.sizeOf140
 v33:=Tryd.zeroValue140
 i33:=by kernel_rfl
 t35:=Tryd.underlying142
 a35:=Tryd.isAgg142
 z35:=Tryd.sizeOf142
 v35:=Tryd.zeroValue142
 i35:=by kernel_rfl
 t37:=Tryd.underlying144
 a37:=Tryd.isAgg144
 z37:=Tryd.sizeOf144
 v37:=Tryd.zeroValue144
 i37:=by kernel_rfl
 t41:=Tryd.underlying147
 a41:=Tryd.isAgg147
 z41:=Tryd.sizeOf147
 v41:=Tryd.zeroValue147
 i41:=by kernel_rfl
 t44:=Tryd.underlying150
 a44:=Tryd.isAgg150
 z44:=Tryd.sizeOf150
 v44:=Tryd.zeroValue150
 i44:=by kernel_rfl
 t49:=Tryd.underlying160
 a49:=Tryd.isAgg160
 z49:=Tryd.sizeOf160
 v49:=Tryd.zeroValue160
 i49:=by kernel_rfl
 t51:=Tryd.underlying65
 a51:=Tryd.isAgg65
 z51:=Tryd.sizeOf65
 v51:=Tryd.zeroValue65
 i51:=by kernel_rfl
 t53:=Tryd.underlying163
 a53:=Tryd.isAgg163
 z53:=Tryd.sizeOf163
 v53:=Tryd.zeroValue163
 i53:=by kernel_rfl
 t54:=Tryd.underlying164
 a54:=Tryd.isAgg164
 z54:=Tryd.sizeOf164
 v54:=Tryd.zeroValue164
 i54:=by kernel_rfl
 t58:=Tryd.underlying168
 a58:=Tryd.isAgg168
 z58:=Tryd.sizeOf168
 v58:=Tryd.zeroValue168
 i58:=by kernel_rfl
 t60:=Tryd.underlying170
 a60:=Tryd.isAgg170
 z60:=Tryd.sizeOf170
 v60:=Tryd.zeroValue170
 i60:=by kernel_rfl
 t64:=Tryd.underlying174
 a64:=Tryd.isAgg174
 z64:=Tryd.sizeOf174
 v64:=Tryd.zeroValue174
 i64:=by kernel_rfl
 t66:=Tryd.underlying182
 a66:=Tryd.isAgg182
 z66:=Tryd.sizeOf182
 v66:=Tryd.zeroValue182
 i66:=by kernel_rfl
 t67:=Tryd.underlying183
 a67:=Tryd.isAgg183
 z67:=Tryd.sizeOf183
 v67:=Tryd.zeroValue183
 i67:=by kernel_rfl
 t75:=Tryd.underlying190
 a75:=Tryd.isAgg190
 z75:=Tryd.sizeOf190
 v75:=Tryd.zeroValue190
 i75:=by kernel_rfl
 t76:=Tryd.underlying191
 a76:=Tryd.isAgg191
 z76:=Tryd.sizeOf191
 v76:=Tryd.zeroValue191
 i76:=by kernel_rfl
 t77:=Tryd.underlying192
 a77:=Tryd.isAgg192
 z77:=Tryd.sizeOf192
 v77:=Tryd.zeroValue192
 i77:=by kernel_rfl
 t78:=Tryd.underlying127
 a78:=Tryd.isAgg127
 z78:=Tryd.sizeOf127
 v78:=Tryd.zeroValue127
 i78:=by kernel_rfl
 t79:=Tryd.underlying193
 a79:=Tryd.isAgg193
 z79:=Tryd.sizeOf193
 v79:=Tryd.zeroValue193
 i79:=by kernel_rfl
 t80:=Tryd.underlying194
 a80:=Tryd.isAgg194
 z80:=Tryd.sizeOf194
 v80:=Tryd.zeroValue194
 i80:=by kernel_rfl
 t82:=Tryd.underlying196
 a82:=Tryd.isAgg196
 z82:=Tryd.sizeOf196
 v82:=Tryd.zeroValue196
 i82:=by kernel_rfl }
def Tryd.vxStr_ren:Go.Shelf.Ren:=⟨fun|169=>49|n=>n,fun|70=>85|9=>9|0=>0|72=>88|37=>86|127=>127|3=>3|5=>5|n=>n,fun|n=>n⟩
theorem Tryd.vxStr:Go.Proofs.Lays.n169 Tryd.prog Tryd.vxStr_ren:={
 mixed:=by kernel_rfl
 f169:=Tryd.func49.trans (congrArg some (by kernel_rfl))
 t0:=Tryd.underlying0
 a0:=Tryd.isAgg0
 z0:=Tryd.sizeOf0
 v0:=Tryd.zeroValue0
 t3:=Tryd.underlying3
 a3:=Tryd.isAgg3
 z3:=Tryd.sizeOf3
 v3:=Tryd.zeroValue3
 t9:=Tryd.underlying9
 a9:=Tryd.isAgg9
 z9:=Tryd.sizeOf9
 v9:=Tryd.zeroValue9
 t37:=Tryd.underlying86
 a37:=Tryd.isAgg86
 z37:=Tryd.sizeOf86
 v37:=Tryd.zeroValue86
 t70:=Tryd.underlying85
 a70:=Tryd.isAgg85
 z70:=Tryd.sizeOf85
 v70:=Tryd.zeroValue85
 t72:=Tryd.underlying88
 a72:=Tryd.isAgg88
 z72:=Tryd.sizeOf88
 v72:=Tryd.zeroValue88
 t127:=Tryd.underlying127
 a127:=Tryd.isAgg127
 z127:=Tryd.sizeOf127
 v127:=Tryd.zeroValue127 }
def Tryd.vxSplit_ren:Go.Shelf.Ren:=⟨fun|146=>43|221=>69|268=>91|138=>92|143=>93|195=>103|197=>104|218=>105|219=>106|260=>126|217=>127|225=>128|224=>129|267=>130|266=>136|314=>137|n=>n,fun|9=>9|31=>40|3=>3|4=>4|0=>0|105=>153|21=>21|5=>5|46=>147|119=>176|139=>179|138=>178|146=>180|51=>160|n=>n,fun|1=>0|3=>1|4=>2|n=>n⟩
theorem Tryd.vxSplit:Go.Proofs.Lays.n146 Tryd.prog Tryd.vxSplit_ren:={
 mixed:=by kernel_rfl
 f138:=Tryd.func92.trans (congrArg some (by kernel_rfl))
 f143:=Tryd.func93.trans (congrArg some (by kernel_rfl))
 f146:=Tryd.func43.trans (congrArg some (by kernel_rfl))
 f195:=Tryd.func103.trans (congrArg some (by kernel_rfl))
 f197:=Tryd.func104.trans (congrArg some (by kernel_rfl))
 f217:=Tryd.func127.trans (congrArg some (by kernel_rfl))
 f218:=Tryd.func105.trans (congrArg some (by kernel_rfl))
 f219:=Tryd.func106.trans (congrArg some (by kernel_rfl))
 f221:=Tryd.func69.trans (congrArg some (by kernel_rfl))
 f224:=Tryd.func129.trans (congrArg some (by kernel_rfl))
 f225:=Tryd.func128.trans (congrArg some (by kernel_rfl))
 f260:=Tryd.func126.trans (congrArg some (by kernel_rfl))
 f266:=Tryd.func136.trans (congrArg some (by kernel_rfl))
 f267:=Tryd.func130.trans (congrArg some (by kernel_rfl))
 f268:=Tryd.func91.trans (congrArg some (by kernel_rfl))
 f314:=Tryd.func137.trans (congrArg some (by kernel_rfl))
 t0:=Tryd.underlying0
 a0:=Tryd.isAgg0
 z0:=Tryd.sizeOf0
 v0:=Tryd.zeroValue0
 t3:=Tryd.underlying3
 a3:=Tryd.isAgg3
 z3:=Tryd.sizeOf3
 v3:=Tryd.zeroValue3
 t4:=Tryd.underlying4
 a4:=Tryd.isAgg4
 z4:=Tryd.sizeOf4
 v4:=Tryd.zeroValue4
 t5:=Tryd.underlying5
 a5:=Tryd.isAgg5
 z5:=Tryd.sizeOf5
 v5:=Tryd.zeroValue5
 t9:=Tryd.underlying9
 a9:=Tryd.isAgg9
 z9:=Tryd.sizeOf9
 v9:=Tryd.zeroValue9
 t21:=Tryd.underlying21
 a21:=Tryd.isAgg21
 z21:=Tryd.sizeOf21
 v21:=Tryd.zeroValue21
 t31:=Tryd.underlying40
 a31:=Tryd.isAgg40
 z31:=Tryd.sizeOf40
 v31:=Tryd.zeroValue40
 t46:=Tryd.underlying147
 a46:=Tryd.isAgg147
 z46:=Tryd.sizeOf147
 v46:=Tryd.zeroValue147
 t51:=Tryd.underlying160
 a51:=Tryd.isAgg160
 z51:=Tryd.sizeOf160
 v51:=Tryd.zeroValue160
 t105:=Tryd.underlying153
 a105:=Tryd.isAgg153
 z105:=Tryd.sizeOf153
 v105:=Tryd.zeroValue153
 t119:=Tryd.underlying176
 a119:=Tryd.isAgg176
 z119:=Tryd.sizeOf176
 t138:=Tryd.underlying178
 a138:=Tryd.isAgg178
 z138:=Tryd.sizeOf178
 v138:=Tryd.zeroValue178
 t139:=Tryd.underlying179
 a139:=Tryd.isAgg179
 z139:=Tryd.sizeOf179
 v139:=Tryd.zeroValue179
 t146:=Tryd.underlying180
 a146:=Tryd.isAgg180
 z146:=Tryd.sizeOf180
 v146:=Tryd.zeroValue180
 g1:=by kernel_rfl
 g3:=by kernel_rfl
 g4:=by kernel_rfl }
end Go.Proofs
namespace Go.Proofs.YtaiondckookpiaaDoor
open Go Go.Vx Go.Shelf Go.RowKit Go.Lib Go.Sort
theorem bExtra:Builder.Extra Tryd.prog Tryd.vxStr_ren where
 sizeBuilder:=by kernel_rfl
 liesBuilder:=by kernel_rfl
 t5:=by kernel_rfl
 a5:=fun _=>by kernel_rfl
 z5:=fun _=>by kernel_rfl
 v5:=fun _=>by kernel_rfl
 infoByte:=by kernel_rfl
 cellsByte:=by kernel_rfl
 sizeByte:=by kernel_rfl
 neB5:=by decide
theorem strAt:StrC Tryd.prog 49 5:=strC Tryd.vxStr bExtra Tryd.call49
theorem bSize:∃ j,Tryd.prog.info? 88=some j/\j.size=2:=Option.map_eq_some_iff.1 (by kernel_rfl:(Tryd.prog.info? 88).map (·.size)=some 2)
theorem bPtr:Tryd.prog.underlying 85=some (.pointer 88):=by kernel_rfl
theorem bUns:Tryd.prog.underlying 139=some .unsafePointer:=by kernel_rfl
theorem bLies:liesAt Tryd.prog Tryd.prog.depth 88 (2 / Tryd.prog.cellsOf 88) 0 88 1=true:=by kernel_rfl
set_option maxHeartbeats 1000000 in
set_option maxRecDepth 100000 in
theorem copy_used(b:Nat)(w:World)(h0:w.cell? ⟨b,0,none⟩=some (.pointer (some ⟨b,0,none⟩))) :
    Calls Tryd.prog 78 #[.pointer (some ⟨b,0,none⟩)] w fun e w'=>e = .returned (.tuple #[])/\w'=w:=by
 obtain⟨j,hj,hjs⟩:=bSize
 go_enter Tryd.func78,Tryd.ntmps78
 go_wp2
 rw[Lib.run_neq_ptr_same w _ bPtr hj]
 go_wp2
 go_end0
 exact⟨rfl,rfl⟩
set_option maxHeartbeats 1000000 in
set_option maxRecDepth 100000 in
theorem copy_fresh(b:Nat)(w:World)(h0:w.cell? ⟨b,0,none⟩=some (.pointer none))(hsh:w.shape? b=some (88,2))(hfz:w.frozen? ⟨b,0,none⟩=false) :
    Calls Tryd.prog 78 #[.pointer (some ⟨b,0,none⟩)] w fun e w'=>e = .returned (.tuple #[])/\w'=w.setCell ⟨b,0,none⟩ (.pointer (some ⟨b,0,none⟩)):=by
 obtain⟨j,hj,hjs⟩:=bSize
 go_enter Tryd.func78,Tryd.ntmps78
 go_wp2
 rw[Lib.run_to_unsafe w ⟨b,0,none⟩ bPtr bUns hj (by rw[hjs];decide) hsh (Nat.zero_lt_succ 1)]
 simp only[Result.andThen]
 rw[Oper.upon_value]
 go_wp2
 rw[run_callFunc_extern Tryd.func100 (by kernel_rfl) (by kernel_rfl) (by kernel_rfl) (e:=Extern.AbiNoEscape.same) (by kernel_rfl)]
 rw[Lib.run_noEscape]
 simp only[Result.andThen]
 rw[Oper.upon_value]
 go_wp2
 rw[Lib.run_from_unsafe w ⟨b,0,none⟩ bUns bPtr hj hsh bLies]
 simp only[Result.andThen]
 rw[Oper.upon_value]
 go_wp2
 go_end0
 exact⟨rfl,rfl⟩
theorem copyAt:CopyC Tryd.prog 78 88:=⟨Tryd.call78,copy_fresh,copy_used⟩
theorem swo_bytes{α:Type}(key:α->List UInt8):SWO (fun x y:α=>Op.bytesLess (key x) (key y)) where
 irrefl:=fun x=>by
  cases h:Op.bytesLess (key x) (key x) with
  | false=>rfl
  | true=>exact absurd h (bl_irrefl _)
 trans:=fun x y z h k=>bl_trans h k
 ntrans:=fun x y z h k=>by
  cases h2:Op.bytesLess (key x) (key z) with
  | false=>rfl
  | true=>
   exfalso
   by_cases e:key x=key y
   . rw[e,k] at h2;cases h2
   . rcases bl_total e with q|q
     . rw[h] at q;cases q
     . have:=bl_trans q h2
       rw[k] at this
       cases this
set_option maxHeartbeats 2000000 in
theorem less_told(blk c Bs size:Nat)(W:World)(G:Nat->List UInt8)(hs:W.cell? ⟨Bs,0,none⟩=some (.slice (some ⟨blk,0,none⟩) size c))
    (hc:∀ t,t<size->W.cell? ⟨blk,0+(t*10+9),none⟩=some (.string (bstr (G t))))(i j:Nat)(hi:i<size)(hj:j<size)(_hsz:size<4611686018427387904) :
    Calls Tryd.prog 74 #[.int .i64 i,.int .i64 j,.pointer (some ⟨Bs,0,none⟩)] W fun e w'=>e = .returned (.bool (Op.bytesLess (G i) (G j)))/\∃ q,w'=W.drewN q:=by
 have ci:=hc i hi
 have cj:=hc j hj
 rw[Nat.zero_add] at ci cj
 go_enter Tryd.func74,Tryd.ntmps74
 go_wp2
 go_quiet (fail)
 go_wp2
 go_ret
 refine⟨?_,nq,rfl⟩
 show Ending.returned (.bool (Op.bytesLess (bstr (G i)).toList (bstr (G j)).toList))=_
 rw[bstr_toList,bstr_toList]
noncomputable def sitoldT:TypeInfo:=(Tryd.prog.info? 121).get (by kernel_rfl)
noncomputable def sitoldE:TypeInfo:=(Tryd.prog.info? 123).get (by kernel_rfl)
theorem sitoldK(n:Nat)(h2:2<=n):Lib.swapperK n sitoldE 25=9:=by
 have a:sitoldE.hasPointers=true:=by kernel_rfl
 have b:(sitoldE.bytes == 8)=false:=by kernel_rfl
 have c:(n == 0)=false:=by simp;omega
 have d:(n == 1)=false:=by simp;omega
 simp[Lib.swapperK,a,b,c,d]
set_option maxHeartbeats 2000000 in
theorem sort_told:SortC Tryd.prog 73 121 10 9 74 where
 call:=Tryd.call73
 conc:=by kernel_rfl
 big:=fun α _ enc key hk h1 hkey blk c Bs d h2 hsz w hH hblk hBs hB1 hB2=>by
  have hless:LessReadsK Tryd.prog 74 #[.pointer (some ⟨Bs,0,none⟩)] enc 10 (fun x y=>Op.bytesLess (key x) (key y)) blk 0 d.size w:=by
   intro m os dk hs i j hi hj
   have e:sortWorldK enc 10 w blk 0 m dk os=putRowK enc 10 (grow (Sort.ahead w m) os) blk 0 dk:=by
    unfold sortWorldK;rw[putRowK_grow _ _ (Sort.ahead w m) _ blk 0 _ hblk]
   have hHg:HoldsK enc 10 (grow (Sort.ahead w m) os) blk 0 d:=holdsK_grow _ _ _ _ blk 0 d hblk (holdsK_ahead _ _ _ _ _ _ _ hH)
   refine less_told blk c Bs d.size _ (fun t=>key dk[t]!) ?_ (fun t ht=>?_) i j hi hj (by omega)
   . rw[e,cell?_putRowK_other _ _ _ blk 0 dk _ (by exact hB2),cell?_grow _ _ _ (by exact hB1)];exact hBs
   . rw[e]
     have h3:=((holdsK_putRowK _ _ _ blk 0 d dk hHg hs).cell (i:=t) (c:=9) (by omega) (by omega)).1
     refine h3.trans ?_
     exact congrArg some (List.getElem!_of_getElem? (hkey dk[t]!))
  exact Any.sort_Slice_cells_sorted Tryd.vxSort 121 123 sitoldT sitoldE (by kernel_rfl) (by kernel_rfl) (by kernel_rfl) (by kernel_rfl) 25 (fun _=>by kernel_rfl) enc 10 hk (by kernel_rfl) (fun _=>by kernel_rfl)
   h1 _ (swo_bytes key) 74 _
   (enters_of Tryd.func74 (by kernel_rfl) rfl) blk 0 c d h2 hsz 115 (by rw[sitoldK _ h2];kernel_rfl) false
   (fun args W=>run_callFunc_extern Tryd.func115 (by kernel_rfl) (by kernel_rfl) (by kernel_rfl) (e:=Extern.ReflectliteSwapper.swap false) (by kernel_rfl) args W) w hless hH hblk
 tiny:=fun p n c lb w h1=>by
  rcases Nat.eq_zero_or_pos n with h|h
  . subst h
    exact Any.sort_Slice_tiny Tryd.vxSort 121 123 sitoldT sitoldE (by kernel_rfl) (by kernel_rfl) (by kernel_rfl) (by kernel_rfl) 25 (fun _=>by kernel_rfl) p 0 c h1 107 (by kernel_rfl) (.func 74) #[] lb w
  . obtain rfl:n=1:=by omega
    exact Any.sort_Slice_tiny Tryd.vxSort 121 123 sitoldT sitoldE (by kernel_rfl) (by kernel_rfl) (by kernel_rfl) (by kernel_rfl) 25 (fun _=>by kernel_rfl) p 1 c h1 108 (by kernel_rfl) (.func 74) #[] lb w
set_option maxHeartbeats 2000000 in
theorem less_term(blk c Bs size:Nat)(W:World)(G:Nat->List UInt8)(hs:W.cell? ⟨Bs,0,none⟩=some (.slice (some ⟨blk,0,none⟩) size c))
    (hc:∀ t,t<size->W.cell? ⟨blk,0+(t*11+10),none⟩=some (.string (bstr (G t))))(i j:Nat)(hi:i<size)(hj:j<size)(_hsz:size<4611686018427387904) :
    Calls Tryd.prog 77 #[.int .i64 i,.int .i64 j,.pointer (some ⟨Bs,0,none⟩)] W fun e w'=>e = .returned (.bool (Op.bytesLess (G i) (G j)))/\∃ q,w'=W.drewN q:=by
 have ci:=hc i hi
 have cj:=hc j hj
 rw[Nat.zero_add] at ci cj
 go_enter Tryd.func77,Tryd.ntmps77
 go_wp2
 go_quiet (fail)
 go_wp2
 go_ret
 refine⟨?_,nq,rfl⟩
 show Ending.returned (.bool (Op.bytesLess (bstr (G i)).toList (bstr (G j)).toList))=_
 rw[bstr_toList,bstr_toList]
noncomputable def sitermT:TypeInfo:=(Tryd.prog.info? 22).get (by kernel_rfl)
noncomputable def sitermE:TypeInfo:=(Tryd.prog.info? 81).get (by kernel_rfl)
theorem sitermK(n:Nat)(h2:2<=n):Lib.swapperK n sitermE 25=9:=by
 have a:sitermE.hasPointers=true:=by kernel_rfl
 have b:(sitermE.bytes == 8)=false:=by kernel_rfl
 have c:(n == 0)=false:=by simp;omega
 have d:(n == 1)=false:=by simp;omega
 simp[Lib.swapperK,a,b,c,d]
set_option maxHeartbeats 2000000 in
theorem sort_term:SortC Tryd.prog 73 22 11 10 77 where
 call:=Tryd.call73
 conc:=by kernel_rfl
 big:=fun α _ enc key hk h1 hkey blk c Bs d h2 hsz w hH hblk hBs hB1 hB2=>by
  have hless:LessReadsK Tryd.prog 77 #[.pointer (some ⟨Bs,0,none⟩)] enc 11 (fun x y=>Op.bytesLess (key x) (key y)) blk 0 d.size w:=by
   intro m os dk hs i j hi hj
   have e:sortWorldK enc 11 w blk 0 m dk os=putRowK enc 11 (grow (Sort.ahead w m) os) blk 0 dk:=by
    unfold sortWorldK;rw[putRowK_grow _ _ (Sort.ahead w m) _ blk 0 _ hblk]
   have hHg:HoldsK enc 11 (grow (Sort.ahead w m) os) blk 0 d:=holdsK_grow _ _ _ _ blk 0 d hblk (holdsK_ahead _ _ _ _ _ _ _ hH)
   refine less_term blk c Bs d.size _ (fun t=>key dk[t]!) ?_ (fun t ht=>?_) i j hi hj (by omega)
   . rw[e,cell?_putRowK_other _ _ _ blk 0 dk _ (by exact hB2),cell?_grow _ _ _ (by exact hB1)];exact hBs
   . rw[e]
     have h3:=((holdsK_putRowK _ _ _ blk 0 d dk hHg hs).cell (i:=t) (c:=10) (by omega) (by omega)).1
     refine h3.trans ?_
     exact congrArg some (List.getElem!_of_getElem? (hkey dk[t]!))
  exact Any.sort_Slice_cells_sorted Tryd.vxSort 22 81 sitermT sitermE (by kernel_rfl) (by kernel_rfl) (by kernel_rfl) (by kernel_rfl) 25 (fun _=>by kernel_rfl) enc 11 hk (by kernel_rfl) (fun _=>by kernel_rfl)
   h1 _ (swo_bytes key) 77 _
   (enters_of Tryd.func77 (by kernel_rfl) rfl) blk 0 c d h2 hsz 115 (by rw[sitermK _ h2];kernel_rfl) false
   (fun args W=>run_callFunc_extern Tryd.func115 (by kernel_rfl) (by kernel_rfl) (by kernel_rfl) (e:=Extern.ReflectliteSwapper.swap false) (by kernel_rfl) args W) w hless hH hblk
 tiny:=fun p n c lb w h1=>by
  rcases Nat.eq_zero_or_pos n with h|h
  . subst h
    exact Any.sort_Slice_tiny Tryd.vxSort 22 81 sitermT sitermE (by kernel_rfl) (by kernel_rfl) (by kernel_rfl) (by kernel_rfl) 25 (fun _=>by kernel_rfl) p 0 c h1 107 (by kernel_rfl) (.func 77) #[] lb w
  . obtain rfl:n=1:=by omega
    exact Any.sort_Slice_tiny Tryd.vxSort 22 81 sitermT sitermE (by kernel_rfl) (by kernel_rfl) (by kernel_rfl) (by kernel_rfl) 25 (fun _=>by kernel_rfl) p 1 c h1 108 (by kernel_rfl) (.func 77) #[] lb w
end Go.Proofs.YtaiondckookpiaaDoor
namespace Go.Proofs.YtaiondckookpiaaDoor
open Go Go.Vx
theorem metL_app(p:Str)(a b:List Str):metL p (a++b)=metL p a++metL p b:=by simp[metL]
theorem metL_none{p m:Str}(h:meetT m p=none):metL p [m]=[]:=by simp[metL,h]
theorem metL_some{p m c:Str}(h:meetT m p=some c):metL p [m]=[c]:=by simp[metL,h]
theorem metL_le(p:Str)(a:List Str):(metL p a).length<=a.length:=by
 unfold metL
 exact List.length_filterMap_le _ _
theorem perm_map_ex{α β:Type}{f:α->β}:∀ {ys m:List β},ys.Perm m->∀ l:List α,m=l.map f->∃ zs:List α,zs.Perm l/\ys=zs.map f:=by
 intro ys m h
 induction h with
 | nil=>intro l hl;exact⟨l,.refl l,hl⟩
 | cons x h ih=>
  intro l hl
  cases l with
  | nil=>cases hl
  | cons a l=>
   simp only[List.map_cons,List.cons.injEq] at hl
   obtain⟨zs,h1,h2⟩:=ih l hl.2
   exact⟨a :: zs,h1.cons a,by rw[List.map_cons,<- hl.1,h2]⟩
 | swap x y r=>
  intro l hl
  match l,hl with
  | a :: b :: l,hl=>
   simp only[List.map_cons,List.cons.injEq] at hl
   refine⟨b :: a :: l,.swap a b l,?_⟩
   rw[List.map_cons,List.map_cons,hl.1,hl.2.1,hl.2.2]
 | trans h1 h2 ih1 ih2=>
  intro l hl
  obtain⟨z1,a1,a2⟩:=ih2 l hl
  obtain⟨z2,b1,b2⟩:=ih1 z1 a2
  exact⟨z2,b1.trans a1,b2⟩
theorem flat_len{l:List Str}{n:Nat}(h:∀ x ∈ l,x.length<=n):l.flatten.length<=l.length*n:=by
 induction l with
 | nil=>simp
 | cons x l ih=>
  have:=ih fun y hy=>h y (by simp[hy])
  have:=h x (by simp)
  rw[List.flatten_cons,List.length_append,List.length_cons,Nat.add_mul]
  omega
theorem take_snoc{α:Type}{l:List α}{i:Nat}{x:α}(h:l[i]? = some x):l.take (i+1)=l.take i++[x]:=by
 rw[List.take_add_one,h];rfl
theorem over_set{α:Type}{ks W:List α}{i:Nat}{x:α}(h:ks[i]? = some x)(hl:ks.length<=W.length):(ks.take i++W.drop i).set i x=ks.take (i+1)++W.drop (i+1):=by
 have hi:=(List.getElem?_eq_some_iff.1 h).1
 rw[List.set_append,if_neg (by simp;omega),take_snoc h,List.append_assoc]
 congr 1
 rw[show i - (ks.take i).length=0 by simp;omega]
 rw[List.drop_eq_getElem_cons (show i<W.length by omega)]
 rfl
theorem over_at{α:Type}{ks W:List α}{i:Nat}(hi:i<ks.length)(hl:ks.length<=W.length):∃ y,(ks.take i++W.drop i)[i]? = some y:=by
 refine⟨W[i]'(by omega),?_⟩
 rw[List.getElem?_append_right (by simp;omega)]
 simp
 rw[show i - min i ks.length=0 by omega,Nat.add_zero]
 exact List.getElem?_eq_getElem _
theorem room_at2{α:Type}{ks:List α}{i n:Nat}(z:α)(hn:ks.length=n)(hi:i<n):(ks.take i++List.replicate (n - i) z)[i]? = some z:=by
 rw[List.getElem?_append_right (by simp;omega)]
 simp[List.getElem?_replicate]
 omega
theorem room_set2{α:Type}{ks:List α}{i n:Nat}{z x:α}(hn:ks.length=n)(h:ks[i]? = some x):(ks.take i++List.replicate (n - i) z).set i x=ks.take (i+1)++List.replicate (n - (i+1)) z:=by
 have hi:=(List.getElem?_eq_some_iff.1 h).1
 rw[List.set_append,if_neg (by simp;omega),take_snoc h,List.append_assoc]
 congr 1
 rw[show i - (ks.take i).length=0 by simp;omega,show n - i=(n - (i+1))+1 by omega,List.replicate_succ]
 rfl
theorem set_set_same{α:Type}(l:List α)(i:Nat)(x y:α):(l.set i x).set i y=l.set i y:=by simp
end Go.Proofs.YtaiondckookpiaaDoor
namespace Go.Proofs.YtaiondckookpiaaDoor
open Go Go.Vx
structure LR where
 l:List Str
 room:List (List D)
@[reducible] def lrow(x:LR):List D:=[.lst 69 (x.l.map crow) x.room]
def allL(lss:List LR):List Str:=(lss.map LR.l).flatten
theorem allL_take{lss:List LR}{i:Nat}{x:LR}(h:lss[i]? = some x):allL (lss.take (i+1))=allL (lss.take i)++x.l:=by
 unfold allL
 rw[take_snoc h]
 simp
theorem allL_le(lss:List LR)(i:Nat):(allL (lss.take i)).length<=(allL lss).length:=by
 unfold allL
 conv=>rhs;rw[<- List.take_append_drop i lss]
 rw[List.map_append,List.flatten_append,List.length_append]
 omega
theorem allL_le2{lss:List LR}{i:Nat}{x:LR}(h:lss[i]? = some x)(j:Nat):(allL (lss.take i)++x.l.take j).length<=(allL lss).length:=by
 have h1:=allL_le lss (i+1)
 rw[allL_take h] at h1
 simp at h1 ⊢
 omega
@[reducible] def trow2(x:Str × Str):List D:=[.i .i64 (x.1.length:Int),.i .u64 ((wof (car x.1) 0).toNat:Int),.i .u64 ((wof (car x.1) 1).toNat:Int),.i .u64 ((wof (car x.1) 2).toNat:Int),.i .u64 ((wof (car x.1) 3).toNat:Int),.i .u64 ((wof (one x.1) 0).toNat:Int),.i .u64 ((wof (one x.1) 1).toNat:Int),.i .u64 ((wof (one x.1) 2).toNat:Int),.i .u64 ((wof (one x.1) 3).toNat:Int),.s x.2]
def dup(c:Str):Str × Str:=(c,c)
theorem take_all2{α:Type}{l:List α}{n:Nat}(h:l.length=n):l.take n=l:=List.take_of_length_le (by omega)
theorem drop_all2{α:Type}{l:List α}{n:Nat}(h:l.length=n):l.drop n=[]:=List.drop_of_length_le (by omega)
def kf(p:Str)(ks:List Str)(i:Nat):Str:=p++(ks.take i).flatten
theorem kf_zero(p:Str)(ks:List Str):kf p ks 0=p:=by simp[kf]
theorem kf_step{p:Str}{ks:List Str}{i:Nat}{c:Str}(h:ks[i]? = some c):kf p ks (i+1)=kf p ks i++c:=by
 unfold kf
 rw[take_snoc h]
 simp
theorem kf_len{p:Str}{ks:List Str}{i n:Nat}(hp:p.length<=256)(h:∀ c ∈ ks,c.length<=256)(hi:i<=n):(kf p ks i).length<=256+n*256:=by
 have h1:=flat_len (l:=ks.take i) (n:=256) fun x hx=>h x (List.mem_of_mem_take hx)
 have h2:(ks.take i).length*256<=n*256:=Nat.mul_le_mul_right _ (by simp;omega)
 unfold kf
 rw[List.length_append]
 omega
theorem kf_key{p:Str}{ks:List Str}{n:Nat}(h:ks.length=n):Term.key ⟨p,ks⟩=kf p ks n:=by
 unfold kf Term.key
 rw[<- h,List.take_length]
theorem kf_ne{p:Str}{ks:List Str}{n:Nat}(h:p ≠ []):kf p ks n ≠ []:=fun e=>h (List.append_eq_nil_iff.1 e).1
theorem byteT:ByteT Tryd.prog 5:=by unfold ByteT;kernel_rfl
@[reducible] def tzero:List D:=[.i .i64 0,.i .u64 0,.i .u64 0,.i .u64 0,.i .u64 0,.i .u64 0,.i .u64 0,.i .u64 0,.i .u64 0,.nilS,.s []]
def NewT(p:Str)(less:List Str)(d:D)(rows:Vx.Rows):Prop:=
 rows=[]/\((termT p less=none/\d = .tup [.agg (trow ⟨⟨[],[]⟩,[]⟩),.b False])\/∃ t rm,termT p less=some t/\d = .tup [.agg (trow ⟨t,rm⟩),.b True])
set_option maxRecDepth 100000 in
set_option maxHeartbeats 8000000 in
theorem newTerm_at(p:Str)(lss:List LR){rl room:List (List D)}(hp:CN p)(hok:∀ x ∈ lss,∀ m ∈ x.l,CT m)(hn:(allL lss).length<=100000)(h1:lss.length<=100000)(h:rl=lss.map lrow) :
    FSpec Tryd.prog T 45 [.agg (crow p),.lst 52 rl room] (NewT p (allL lss)):=by
 subst h
 have hll:(lss.map lrow).length=lss.length:=by simp
 refine FSpec.of_ok tok Tryd.func45 rfl Tryd.call45 (by simp) ?_
 (try (conv=>whnf));repeat' (first|refine Ok.seq ?_|(refine Ok.region tok ?_;conv=>whnf)|refine Ok.block ?_|fail)
 refine Ok.ghost 6 69 rfl ?_
 (conv=>whnf)
 refine Ok.loopU [2,4,21,22] [6,23] 1 2 (fun (i:Nat)=>[.own 0 (metL p (allL (lss.take i))).length,.i .i64 (i:Nat)]) (fun _ b=>b) (fun (i:Nat) (_:Vx.Rows)=>[some (69,(metL p (allL (lss.take i))).map crow)]) (fun (i:Nat)=>i<=lss.length) (fun (i:Nat)=>lss.length - i) (0) (Nat.zero_le _) ?_;(conv=>whnf);refine⟨by ((conv=>whnf);first|rfl|(simp[envCat,List.take_of_length_le,cells9,crow,trow2,kf_zero];done)|(simp[envCat,List.take_of_length_le,cells9,crow,trow2,kf_zero];rw[IntKind.wrap_i64];omega)),?_⟩
 rintro i hi
 (conv=>whnf)
 by_cases hil:i<lss.length
 . obtain⟨x,hx⟩:∃ x,lss[i]? = some x:=⟨_,List.getElem?_eq_getElem hil⟩
   have hxo:=hok x (List.mem_of_getElem? hx)
   have hxl:(x.l.map crow).length=x.l.length:=by simp
   have hat:=allL_take hx
   have hxl2:x.l.length<=100000:=by have:=allL_le2 hx x.l.length;rw[List.take_length,List.length_append] at this;omega
   (try (conv=>whnf));repeat' (first|refine Ok.seq ?_|((first|refine Ok.region tok ?_|refine Ok.cond ?_);conv=>whnf)|refine Ok.block ?_|((first|refine Ok.skip ?_|refine ix _ (by assumption) ?_);conv=>whnf)|(refine bI ?_ ?_<;>intro<;>(conv=>whnf)<;>(try (exfalso;omega)))|fail)
   refine Ok.loopU [2,4,21,22,23,27,28] [6,29] 1 2 (fun (j:Nat)=>[.own 0 (metL p (allL (lss.take i)++x.l.take j)).length,.i .i64 (j:Nat)]) (fun _ b=>b) (fun (j:Nat) (_:Vx.Rows)=>[some (69,(metL p (allL (lss.take i)++x.l.take j)).map crow)]) (fun (j:Nat)=>j<=x.l.length) (fun (j:Nat)=>x.l.length - j) (0) (Nat.zero_le _) ?_;(conv=>whnf);refine⟨by ((conv=>whnf);first|rfl|(simp[envCat,List.take_of_length_le,cells9,crow,trow2,kf_zero];done)|(simp[envCat,List.take_of_length_le,cells9,crow,trow2,kf_zero];rw[IntKind.wrap_i64];omega)),?_⟩
   rintro j hj
   have hle:=allL_le2 hx j
   have hle2:=metL_le p (allL (lss.take i)++x.l.take j)
   generalize hM:metL p (allL (lss.take i)++x.l.take j)=M at *
   have hMl:(M.map crow).length=M.length:=by simp
   (conv=>whnf)
   by_cases hjl:j<x.l.length
   . obtain⟨m,hm⟩:∃ m,x.l[j]? = some m:=⟨_,List.getElem?_eq_getElem hjl⟩
     have hmo:=hxo m (List.mem_of_getElem? hm)
     have hsp:=meet_at m p hmo hp.1
     have hnext:metL p (allL (lss.take i)++x.l.take (j+1))=M++metL p [m]:=by rw[take_snoc hm,<- List.append_assoc,metL_app,hM]
     cases hmt:meetT m p with
     | none=>
      rw[hmt] at hsp
      (try (conv=>whnf));repeat' (first|refine Ok.seq ?_|((first|refine Ok.region tok ?_|refine Ok.cond ?_);conv=>whnf)|refine Ok.block ?_|((first|refine Ok.skip ?_|refine nI ?_|refine ix _ (by assumption) ?_);conv=>whnf)|(refine Or.inr (Or.inl ?_);(conv=>whnf);(repeat (refine aI ?_;conv=>whnf));refine⟨_,hsp,?_⟩;rintro _ _ ⟨rfl,rfl⟩;conv=>whnf)|((first|refine Alt2.l (aI ?_)|refine⟨_,.inl ⟨rfl,rfl⟩,?_⟩|refine⟨_,_,rfl,rfl,?_⟩);conv=>whnf)|(refine bI ?_ ?_<;>intro<;>(conv=>whnf)<;>(try (exfalso;omega)))|(refine aJ ?_;conv=>whnf)|fail)
      . rename_i h2
        exact absurd h2 (by simp)
      . refine⟨j+1,by omega,by omega,?_⟩
        rw[hnext,metL_none hmt,List.append_nil]
        (conv=>whnf)
        rfl
     | some c=>
      rw[hmt] at hsp
      (try (conv=>whnf));repeat' (first|refine Ok.seq ?_|((first|refine Ok.region tok ?_|refine Ok.cond ?_);conv=>whnf)|refine Ok.block ?_|((first|refine Ok.skip ?_|refine nI ?_|refine ix _ (by assumption) ?_);conv=>whnf)|(refine Or.inr (Or.inl ?_);(conv=>whnf);(repeat (refine aI ?_;conv=>whnf));refine⟨_,hsp,?_⟩;rintro _ _ ⟨rfl,rfl⟩;conv=>whnf)|((first|refine Alt2.l (aI ?_)|refine⟨_,.inl ⟨rfl,rfl⟩,?_⟩|refine⟨_,_,rfl,rfl,?_⟩);conv=>whnf)|(refine bI ?_ ?_<;>intro<;>(conv=>whnf)<;>(try (exfalso;omega)))|(refine aJ ?_;conv=>whnf)|fail)
      . refine⟨j+1,by omega,by omega,?_⟩
        rw[hnext,metL_some hmt]
        (conv=>whnf)
        simp[envCat]
      . rename_i h2
        exact absurd rfl h2
   . have hje:j=x.l.length:=by omega
     subst hje
     (try (conv=>whnf));repeat' (first|refine Ok.seq ?_|((first|refine Ok.region tok ?_|refine Ok.cond ?_|refine Ok.exit ?_|refine nI ?_);conv=>whnf)|(refine bI ?_ ?_<;>intro<;>(conv=>whnf)<;>(try (exfalso;omega)))|fail)
     refine⟨i+1,by omega,by omega,?_⟩
     rw[hat]
     rw[List.take_length] at hM
     rw[hM]
     (conv=>whnf)
     rfl
 . have hie:i=lss.length:=by omega
   subst hie
   rw[List.take_length]
   generalize hM:metL p (allL lss)=M
   have hML:M.length<=100000:=by have:=metL_le p (allL lss);rw[hM] at this;omega
   have hMl:(M.map crow).length=M.length:=by simp
   have hMok:∀ c ∈ M,CN c/\c.length=p.length:=by
    intro c hc
    rw[<- hM] at hc
    obtain⟨m,hm1,hm2⟩:=List.mem_filterMap.1 hc
    have hmc:CT m:=by
     unfold allL at hm1
     obtain⟨y,hy1,hy2⟩:=List.mem_flatten.1 hm1
     obtain⟨z,hz1,rfl⟩:=List.mem_map.1 hy1
     exact hok z hz1 m hy2
    have h3:=meetT_ct hm2 hmc hp.1
    have h4:=meetL_len ((meetT_eq h3.2.2).symm.trans hm2)
    exact⟨⟨h3.1,fun e=>hp.2 (by rw[e] at h4;exact List.eq_nil_of_length_eq_zero (by simpa using h4.2))⟩,h4.2.symm⟩
   (try (conv=>whnf));repeat' (first|refine Ok.seq ?_|((first|refine Ok.region tok ?_|refine Ok.cond ?_);conv=>whnf)|refine Ok.block ?_|(refine Ok.exit ?_;conv=>whnf)|(refine Or.inr (Or.inr (Or.inr (Or.inl ?_)));(conv=>whnf);(repeat (refine aI ?_;conv=>whnf));refine⟨_,greatestC_at M (by omega) (fun c hc=>(hMok c hc).1) (take_all crow M) , ?_⟩;rintro _ _ ⟨W,hW,rfl,rfl⟩<;>(refine And.intro (by simp[gRowsP,grounds,D.ground,cells9,crow,trow2,kf_zero]) ?_;conv=>whnf))|(refine bI ?_ ?_<;>intro<;>(conv=>whnf)<;>(try (exfalso;omega)))|fail)
   have hWk:=hW.n
   have hWt:=hW.tk
   have hWw:=hW.w
   rw[List.take_length] at hWk hWt
   have hKM:∀ c ∈ grG inL M,c ∈ M:=grG_sub inL M
   have hvoid:p ∈ grG inL M->termT p (allL lss)=none:=fun h=>termT_void (by rw[hM];exact h)
   have hsome:∀ ks:List Str,p ∉ grG inL M->ks.Perm (grG inL M)->ks.Pairwise (fun t u=>Op.bytesLess u t ≠ true)->termT p (allL lss)=some ⟨p,ks⟩:=fun ks h1 h2 h3=>termT_some (by rw[hM];exact h1) (by rw[hM];exact h2) h3
   generalize hK:grG inL M=K at *
   have hKok:∀ c ∈ K,CN c/\c.length=p.length:=fun c hc=>hMok c (hKM c hc)
   have hKl:K.length<=100000:=by omega
   have hWl:(W.map crow).length=W.length:=by simp
   have hWg:∀ i,i<K.length->W[i]? = K[i]?:=fun i hi=>by
    have:=congrArg (fun z:List Str=>z[i]?) hWt
    simp only[List.getElem?_take,if_pos hi] at this
    exact this
   refine Ok.loopU [2,4,6,48,49] [50] 2 2 (fun (i:Nat)=>[.i .i64 (i:Nat)]) (fun _ b=>b) (fun _ r=>r) (fun (i:Nat)=>i<=K.length/\∀ m ∈ K.take i,m ≠ p) (fun (i:Nat)=>K.length - i) (0) (⟨Nat.zero_le _,by simp⟩) ?_;(conv=>whnf);refine⟨by ((conv=>whnf);first|rfl|(simp[envCat,List.take_of_length_le,cells9,crow,trow2,kf_zero];done)|(simp[envCat,List.take_of_length_le,cells9,crow,trow2,kf_zero];rw[IntKind.wrap_i64];omega)),?_⟩
   rintro i ⟨hi2,hne⟩
   (conv=>whnf)
   by_cases hil2:i<K.length
   . obtain⟨c,hc⟩:∃ c,K[i]? = some c:=⟨_,List.getElem?_eq_getElem hil2⟩
     have hWi:W[((i:Nat):Int).toNat]? = some c:=by rw[toNat_cast,hWg i hil2,hc]
     have hcK:=hKok c (List.mem_of_getElem? hc)
     (try (conv=>whnf));repeat' (first|refine Ok.seq ?_|((first|refine Ok.region tok ?_|refine Ok.cond ?_);conv=>whnf)|refine Ok.block ?_|((first|refine Ok.skip ?_|refine rd rfl (by assumption) ?_);conv=>whnf)|(refine bI ?_ ?_<;>intro<;>(conv=>whnf)<;>(try (exfalso;omega)))|(refine aJ ?_;conv=>whnf)|fail)
     refine⟨_,eqCube,by kernel_rfl,?_⟩
     (conv=>whnf)
     (try (conv=>whnf));repeat' (first|refine Ok.seq ?_|((first|refine Ok.region tok ?_|refine Ok.cond ?_|refine Ok.skip ?_|refine Ok.ret ?_|refine nI ?_);conv=>whnf)|(refine bI ?_ ?_<;>intro<;>(conv=>whnf)<;>(try (exfalso;omega)))|fail)
     . rename_i he
       refine Or.inl ?_;(conv=>whnf)
       refine⟨rfl,.inl ⟨hvoid ?_,?_⟩⟩
       . rw[<- crow_inj hcK.1.1 hp.1 he]
         exact List.mem_of_getElem? hc
       . simp[oneD,Term.key]
     . rename_i he
       refine⟨i+1,by omega,⟨by omega,fun z hz=>?_⟩,?_⟩
       . rw[take_snoc hc] at hz
         rcases List.mem_append.1 hz with hz|hz
         . exact hne z hz
         . simp at hz
           rw[hz]
           intro e
           rw[e] at he
           exact he (eqDs_self p)
       . (conv=>whnf)
         rfl
   . have hie2:i=K.length:=by omega
     subst hie2
     rw[List.take_length] at hne
     have hpK:p ∉ K:=fun h=>hne p h rfl
     (try (conv=>whnf));repeat' (first|refine Ok.seq ?_|((first|refine Ok.region tok ?_|refine Ok.cond ?_);conv=>whnf)|refine Ok.block ?_|((first|refine Ok.exit ?_|refine⟨_,_,rfl,rfl,?_⟩);conv=>whnf)|(refine bI ?_ ?_<;>intro<;>(conv=>whnf)<;>(try (exfalso;omega)))|((first|refine aJ ?_|refine⟨_,rfl,?_⟩);conv=>whnf)|fail)
     refine Ok.loopU [2,4,6,15,62,63] [64] 3 3 (fun (i:Nat)=>[.i .i64 (i:Nat)]) (fun _ b=>b) (fun (i:Nat) (_:Vx.Rows)=>[some (69,M.map crow),some (69,W.map crow),some (123,((K.map dup).take i++List.replicate (K.length - i) ([],[])).map trow2)]) (fun (i:Nat)=>i<=K.length) (fun (i:Nat)=>K.length - i) (0) (Nat.zero_le _) ?_;(conv=>whnf);refine⟨by ((conv=>whnf);first|rfl|(simp[envCat,List.take_of_length_le,cells9,crow,trow2,kf_zero];done)|(simp[envCat,List.take_of_length_le,cells9,crow,trow2,kf_zero];rw[IntKind.wrap_i64];omega)),?_⟩
     rintro i hi3
     have hdl:(K.map dup).length=K.length:=by simp
     have hrl:((K.map dup).take i++List.replicate (K.length - i) (([],[]):Str × Str)).length=K.length:=by simp;omega
     have hrl2:(((K.map dup).take i++List.replicate (K.length - i) (([],[]):Str × Str)).map trow2).length=K.length:=by rw[List.length_map,hrl]
     (conv=>whnf)
     by_cases hil3:i<K.length
     . obtain⟨c,hc⟩:∃ c,K[i]? = some c:=⟨_,List.getElem?_eq_getElem hil3⟩
       have hWi:W[((i:Nat):Int).toNat]? = some c:=by rw[toNat_cast,hWg i hil3,hc]
       have hcK:=hKok c (List.mem_of_getElem? hc)
       have hdi:(K.map dup)[i]? = some (dup c):=by simp[hc]
       have hz:=room_at2 (ks:=K.map dup) (i:=i) (([],[]):Str × Str) hdl (by omega)
       have hst:=room_set2 (z:=(([],[]):Str × Str)) hdl hdi
       generalize hL:(K.map dup).take i++List.replicate (K.length - i) (([],[]):Str × Str)=L at *
       have hL2:∀ y:Str × Str,(L.set i y)[i]? = some y:=fun y=>List.getElem?_set_self (by omega)
       have hL3:∀ y:Str × Str,((L.set i y).map trow2).length=K.length:=fun y=>by simp[hrl]
       (try (conv=>whnf));repeat' (first|refine Ok.seq ?_|((first|refine Ok.region tok ?_|refine Ok.region_plan (id:=24) tok follows [(5,6,[]),(0,9,[]),(4,9,[]),(5,9,[6]),(6,9,[]),(0,12,[]),(2,12,[]),(4,12,[]),(5,12,[]),(6,12,[]),(9,12,[])] [.q 0,.q 1,.q 2,.q 3,.q 4,.q 5,.l 6,.q 7,.q 8,.l 9,.q 10,.q 11,.l 12] (by kernel_rfl) ?_|refine Ok.cond ?_);conv=>whnf)|refine Ok.block ?_|(refine Ok.skip ?_;conv=>whnf)|(refine Or.inl ?_;(conv=>whnf);(repeat (refine aI ?_;conv=>whnf));refine⟨_,text_at c hcK.1.1,rfl,?_⟩;conv=>whnf)|(refine rd rfl (by assumption) ?_;conv=>whnf)|(refine bI ?_ ?_<;>intro<;>(conv=>whnf)<;>(try (exfalso;omega)))|(refine aJ ?_;conv=>whnf)|fail)
       refine st (c,[]) hz (by simp) (by simp[setCells]) ?_
       rw[toNat_cast]
       (try (conv=>whnf));repeat' (first|(refine aJ ?_;conv=>whnf)|fail)
       refine st (c,c) (hL2 (c,[])) (by simp) (by simp[setCells]) ?_
       rw[toNat_cast,set_set_same,show ((c,c):Str × Str)=dup c from rfl,hst]
       (try (conv=>whnf));repeat' (first|((first|refine Ok.region tok ?_|refine nI ?_);conv=>whnf)|fail)
       refine⟨i+1,by omega,by omega,?_⟩
       (conv=>whnf)
       rfl
     . have hie3:i=K.length:=by omega
       subst hie3
       rw[Nat.sub_self,List.replicate_zero,List.append_nil,List.take_of_length_le (by simp)]
       have hkeys:∀ x ∈ ((K.map dup).map trow2).take K.length,∃ l,x[9]? = some (.s l):=by
        intro x hx
        obtain⟨y,_,rfl⟩:=List.mem_map.1 (List.mem_of_mem_take hx)
        exact⟨y.2,rfl⟩
       have hdl2:K.length<=((K.map dup).map trow2).length:=by simp
       (try (conv=>whnf));repeat' (first|(refine Ok.sortSlice tok sort_told (by (conv=>whnf);exact⟨rfl,rfl⟩) rfl rfl rfl hdl2 rfl (by decide) (by decide) hkeys (by omega) ?_)|refine Ok.seq ?_|((first|refine Ok.region tok ?_|refine Ok.cond ?_|refine Ok.exit ?_);conv=>whnf)|(refine bI ?_ ?_<;>intro<;>(conv=>whnf)<;>(try (exfalso;omega)))|fail)
       intro ys hperm hup
       rw[take_all2 (by simp:((K.map dup).map trow2).length=K.length)] at hperm
       rw[drop_all2 (by simp:((K.map dup).map trow2).length=K.length),List.append_nil]
       obtain⟨zs,hz1,rfl⟩:=perm_map_ex hperm _ rfl
       obtain⟨ks,hks,rfl⟩:=perm_map_ex hz1 _ rfl
       have hsort:ks.Pairwise fun t u=>Op.bytesLess u t ≠ true:=by
        unfold RowsUp at hup
        rw[List.pairwise_map,List.pairwise_map] at hup
        refine hup.imp fun {a b} h=>?_
        have h2:=h a b rfl rfl
        rw[h2]
        decide
       have hterm:=hsome ks hpK hks hsort
       have hkl:ks.length=K.length:=hks.length_eq
       have hkok:∀ c ∈ ks,CN c/\c.length=p.length:=fun c hc=>hKok c (hks.mem_iff.1 hc)
       clear hup hperm hz1 hsort hsome hvoid hkeys
       have hpl:=hp.1.len
       (conv=>whnf)
       refine Ok.seq ?_
       (refine Ok.region tok ?_;conv=>whnf)
       refine Ok.ghostB 3 1 5 rfl rfl ?_
       (conv=>whnf)
       (try (conv=>whnf));repeat' (first|refine Ok.seq ?_|(refine Ok.region tok ?_;conv=>whnf)|(refine Or.inl ?_;(conv=>whnf);(repeat (refine aI ?_;conv=>whnf));refine⟨_,text_at p hp.1,rfl,?_⟩;conv=>whnf)|fail)
       refine Or.inr (Or.inr (Or.inl ?_));(conv=>whnf);refine⟨_,_,Tryd.func48,rfl,Tryd.call48,?_⟩;(conv=>whnf)
       (try (conv=>whnf));repeat' (first|refine Ok.seq ?_|(refine Ok.region tok ?_;conv=>whnf)|fail)
       refine Or.inr (Or.inr (Or.inr (Or.inr ?_)))
       (conv=>whnf)
       refine effW_fresh copyAt rfl ?_
       (conv=>whnf)
       (try (conv=>whnf));repeat' (first|((refine And.intro byteT ?_);conv=>whnf)|refine Ok.seq ?_|(refine Ok.region tok ?_;conv=>whnf)|refine Ok.block ?_|((first|refine Ok.ret ?_|refine⟨_,_,rfl,rfl,?_⟩|refine aJ ?_);conv=>whnf)|fail)
       refine Ok.loopU [2,4,6,18,88,89] [90] 4 4 (fun (i:Nat)=>[.i .i64 (i:Nat)]) (fun (i:Nat) (_:List (List D))=>[crow p,tzero,[.own 2 K.length],[.bp 3 0,.own 3 (kf p ks i).length]]) (fun (i:Nat) (_:Vx.Rows)=>[some (69,M.map crow),some (69,(ks.take i++W.drop i).map crow),some (123,(ks.map dup).map trow2),some (5,(kf p ks i).map bcell)]) (fun (i:Nat)=>i<=K.length) (fun (i:Nat)=>K.length - i) (0) (Nat.zero_le _) ?_;(conv=>whnf);refine⟨by ((conv=>whnf);first|rfl|(simp[envCat,List.take_of_length_le,cells9,crow,trow2,kf_zero];done)|(simp[envCat,List.take_of_length_le,cells9,crow,trow2,kf_zero];rw[IntKind.wrap_i64];omega)),?_⟩
       rintro i hi4
       have hfl:(kf p ks i).length<=256+100000*256:=kf_len hpl (fun c hc=>(hkok c hc).1.1.len) (by omega)
       have hbl:((kf p ks i).map bcell).length=(kf p ks i).length:=List.length_map _
       have htl:((ks.map dup).map trow2).length=K.length:=by simp[hkl]
       have hml:((ks.take i++W.drop i).map crow).length=W.length:=by simp;omega
       have hml2:∀ y,(((ks.take i++W.drop i).set i y).map crow).length=W.length:=fun y=>by simp;omega
       (conv=>whnf)
       by_cases hil4:i<K.length
       . obtain⟨c,hc⟩:∃ c,ks[i]? = some c:=⟨_,List.getElem?_eq_getElem (by omega)⟩
         have hco:=hkok c (List.mem_of_getElem? hc)
         have hcl:=hco.1.1.len
         have hdi:(ks.map dup)[((i:Nat):Int).toNat]? = some (dup c):=by simp[hc]
         obtain⟨y,hy⟩:=over_at (ks:=ks) (W:=W) (i:=i) (by omega) (by omega)
         have hst:=over_set (W:=W) hc (by omega)
         have hnx:=kf_step (p:=p) hc
         (try (conv=>whnf));repeat' (first|refine Ok.seq ?_|((first|refine Ok.region tok ?_|refine Ok.cond ?_);conv=>whnf)|refine Ok.block ?_|((first|refine Ok.skip ?_|refine rd rfl (by assumption) ?_);conv=>whnf)|(refine bI ?_ ?_<;>intro<;>(conv=>whnf)<;>(try (exfalso;omega)))|(refine aJ ?_;conv=>whnf)|fail)
         refine st c hy (by simp) (by simp[setCells,dup]) ?_
         rw[toNat_cast]
         (try (conv=>whnf));repeat' (first|(refine Ok.region tok ?_;conv=>whnf)|fail)
         refine Or.inr (Or.inr (Or.inl ?_));(conv=>whnf);refine⟨_,_,Tryd.func48,rfl,Tryd.call48,?_⟩;(conv=>whnf)
         (try (conv=>whnf));repeat' (first|refine Ok.seq ?_|(refine Ok.region tok ?_;conv=>whnf)|fail)
         refine Or.inr (Or.inr (Or.inr (Or.inr ?_)))
         (conv=>whnf)
         refine effW_used copyAt rfl ?_
         (conv=>whnf)
         have hdc:(dup c).2.length<=256:=hcl
         (try (conv=>whnf));repeat' (first|((refine And.intro byteT ?_);conv=>whnf)|refine Ok.seq ?_|((first|refine Ok.region tok ?_|refine Ok.ret ?_|refine nI ?_|refine⟨_,_,rfl,rfl,?_⟩|refine aJ ?_);conv=>whnf)|fail)
         refine⟨i+1,by omega,by omega,?_⟩
         rw[<- hst,hnx]
         (conv=>whnf)
         simp[envCat,dup]
       . have hie4:i=K.length:=by omega
         subst hie4
         (try (conv=>whnf));repeat' (first|refine Ok.seq ?_|((first|refine Ok.region tok ?_|refine Ok.region_plan (id:=35) tok follows [(0,4,[]),(2,4,[])] [.q 0,.q 1,.l 2,.q 3,.l 4,.q 5] (by kernel_rfl) ?_|refine Ok.cond ?_|refine Ok.exit ?_);conv=>whnf)|(refine bI ?_ ?_<;>intro<;>(conv=>whnf)<;>(try (exfalso;omega)))|fail)
         have hkey:=kf_key (p:=p) hkl
         have hne0:kf p ks K.length ≠ []:=kf_ne hp.2
         have htk:((ks.take K.length++W.drop K.length).map crow).take K.length=ks.map crow:=by
          rw[<- hkl,List.take_length,List.map_append]
          exact List.take_left' (by simp)
         refine Or.inr (Or.inr (Or.inr ?_))
         (conv=>whnf)
         refine effK_string strAt rfl rfl rfl (by rw[hbl];exact Nat.le_refl _) (take_all bcell _) hne0 ?_
         (conv=>whnf)
         (try (conv=>whnf));repeat' (first|(refine Ok.ret ?_;conv=>whnf)|fail)
         refine Or.inl ?_;(conv=>whnf)
         refine⟨rfl,.inr ⟨⟨p,ks⟩,((ks.take K.length++W.drop K.length).map crow).drop K.length,hterm,?_⟩⟩
         rw[htk]
         simp only[oneD,trow,hkey]
end Go.Proofs.YtaiondckookpiaaDoor
namespace Go.Vx
open Go.RowKit
def planF(ops:Array Oper)(i:Nat):List Mv->Array Bool->Bool
 | [],listed=>(Region.ready .any ops listed) == [i]
 | .q i' :: r,listed=>(Region.ready .any ops listed).contains i' && Region.free .any ops listed i' && ((ops[i']?).map isQ).getD false && planF ops i r (listed.setIfInBounds i' true)
 | .l i' :: r,listed=>(Region.ready .any ops listed) == [i'] && planF ops i r (listed.setIfInBounds i' true)
def planPOk(ops:Array Oper)(A:Waits)(mvs:List Mv)(i:Nat):Bool:=
 Region.noSelect ops && waitsB ops A && Nat.blt mvs.length ops.size && planF ops i mvs (Array.replicate ops.size false)
end Go.Vx
namespace Go.Proofs.YtaiondckookpiaaDoor
open Go Go.Vx
def szT(l:List Term):Nat:=(l.map fun t=>1+t.less.length).sum
theorem szT_snoc(l:List Term)(t:Term):szT (l++[t])=szT l+(1+t.less.length):=by simp[szT]
theorem szT_le{l:List Term}(h:∀ t ∈ l,t.less.length<=1048576):szT l<=l.length*1048577:=by
 induction l with
 | nil=>simp[szT]
 | cons t l ih=>
  have h1:=ih fun x hx=>h x (by simp[hx])
  have h2:=h t (by simp)
  simp only[szT,List.map_cons,List.sum_cons,List.length_cons] at h1 ⊢
  rw[Nat.add_mul]
  omega
set_option maxHeartbeats 4000000 in
theorem size_at(bits:Int)(l:List TR){rl room:List (List D)}(hl:l.length<=1048576)(hok:∀ x ∈ l,x.t.less.length<=1048576)(h:rl=l.map trow):FSpec Tryd.prog T 32 [.agg [.i .i64 bits,.lst 81 rl room]] (fun d _=>d = .i .i64 (szT (l.map TR.t):Nat)):=by
 subst h
 have hll:(l.map trow).length=l.length:=by simp
 refine FSpec.of_ok tok Tryd.func32 rfl Tryd.call32 (by simp) ?_
 (try (conv=>whnf));repeat' (first|refine Ok.seq ?_|(refine Ok.region tok ?_;conv=>whnf)|refine Ok.block ?_|fail)
 refine Ok.loopU [7,8] [3,9] 0 1 (fun (i:Nat)=>[.i .i64 (szT ((l.take i).map TR.t):Nat),.i .i64 (i:Nat)]) (fun _ b=>b) (fun _ r=>r) (fun (i:Nat)=>i<=l.length) (fun (i:Nat)=>l.length - i) (0) (Nat.zero_le _) ?_;(conv=>whnf);refine⟨by ((conv=>whnf);first|rfl|(simp[envCat,List.take_of_length_le,cells9,crow,trow];done)|(simp[envCat,List.take_of_length_le,cells9,crow,trow];rw[IntKind.wrap_i64];omega)),?_⟩
 rintro i hi
 have hs:szT ((l.take i).map TR.t)<=1048576*1048577:=by
  refine Nat.le_trans (szT_le fun t ht=>?_) (Nat.mul_le_mul_right _ (by simp;omega))
  obtain⟨x,hx,rfl⟩:=List.mem_map.1 ht
  exact hok x (List.mem_of_mem_take hx)
 (conv=>whnf)
 by_cases hil:i<l.length
 . obtain⟨x,hx⟩:∃ x,l[i]? = some x:=⟨_,List.getElem?_eq_getElem hil⟩
   have hxo:=hok x (List.mem_of_getElem? hx)
   have hxl:(x.t.less.map crow).length=x.t.less.length:=by simp
   have hnx:szT ((l.take (i+1)).map TR.t)=szT ((l.take i).map TR.t)+(1+x.t.less.length):=by rw[take_snoc hx,List.map_append];exact szT_snoc _ _
   generalize szT ((l.take i).map TR.t)=S at *
   (try (conv=>whnf));repeat' (first|refine Ok.seq ?_|((first|refine Ok.region tok ?_|refine Ok.cond ?_);conv=>whnf)|refine Ok.block ?_|((first|refine Ok.skip ?_|refine nI ?_|refine ix _ (by assumption) ?_);conv=>whnf)|(refine bI ?_ ?_<;>intro<;>(conv=>whnf)<;>(try (exfalso;omega)))|fail)
   refine⟨i+1,by omega,by omega,?_⟩
   rw[hnx]
   (conv=>whnf)
   simp[envCat]
 . have hie:i=l.length:=by omega
   subst hie
   rw[List.take_length]
   (try (conv=>whnf));repeat' (first|refine Ok.seq ?_|((first|refine Ok.region tok ?_|refine Ok.cond ?_|refine Ok.exit ?_|refine Ok.ret ?_);conv=>whnf)|(refine bI ?_ ?_<;>intro<;>(conv=>whnf)<;>(try (exfalso;omega)))|fail)
   refine Or.inl ?_;(conv=>whnf)
   rfl
theorem grG_map{α β:Type}(f:α->β)(R:β->β->Prop)(l:List α):(grG (fun a b=>R (f a) (f b)) l).map f=grG R (l.map f):=by
 have step:∀ (k:List α) (x:α),(addG (fun a b=>R (f a) (f b)) k x).map f=addG R (k.map f) (f x):=by
  intro k x
  by_cases h:∃ y ∈ k,R (f x) (f y)
  . rw[addG_in h,addG_in (by obtain⟨y,h1,h2⟩:=h;exact⟨f y,List.mem_map_of_mem h1,h2⟩)]
  . have h1:∀ y ∈ k,¬ R (f x) (f y):=fun y hy h2=>h ⟨y,hy,h2⟩
    rw[addG_out (R:=fun a b=>R (f a) (f b)) h1,addG_out (R:=R) (by
     intro y hy
     obtain⟨z,hz,rfl⟩:=List.mem_map.1 hy
     exact h1 z hz)]
    rw[List.map_append,List.filter_map]
    rfl
 have go:∀ (l k:List α),(l.foldl (addG (fun a b=>R (f a) (f b))) k).map f=(l.map f).foldl (addG R) (k.map f):=by
  intro l
  induction l with
  | nil=>intro k;rfl
  | cons x l ih=>intro k;rw[List.foldl_cons,ih,step];rfl
 exact go l []
theorem grG_len{α:Type}(R:α->α->Prop)(l:List α):(grG R l).length<=l.length:=by
 have step:∀ (k:List α) (x:α),(addG R k x).length<=k.length+1:=by
  intro k x
  by_cases h:∃ y ∈ k,R x y
  . rw[addG_in h];omega
  . rw[addG_out (fun y hy h2=>h ⟨y,hy,h2⟩),List.length_append]
    exact Nat.add_le_add_right (List.length_filter_le _ _) 1
 have go:∀ (l k:List α),(l.foldl (addG R) k).length<=k.length+l.length:=by
  intro l
  induction l with
  | nil=>intro k;simp
  | cons x l ih=>
   intro k
   have h1:=ih (addG R k x)
   have h2:=step k x
   simp only[List.foldl_cons,List.length_cons]
   omega
 show (l.foldl (addG R) []).length<=l.length
 have:=go l []
 simpa using this
def passedV:Value:=.iface 116 (.agg #[])
structure TO(n:Nat)(x:TR):Prop where
 tn:TN x
 ok:x.t.Ok n
set_option maxRecDepth 100000 in
set_option maxHeartbeats 8000000 in
theorem form_at(bits:Int)(n:Nat)(l:List TR){rl room:List (List D)}(hl:l.length<=1048576)(hok:∀ x ∈ l,TO n x)(h:rl=l.map trow)(hsz:szT (formT (l.map TR.t))<=128) :
    FSpec Tryd.prog T 46 [.i .i64 bits,.lst 81 rl room] (fun d rows=>∃ (ks:List TR) (rm:List (List D)),d = .agg [.i .i64 bits,.lst 81 (ks.map trow) rm]/\rows=[]/\ks.map TR.t=formT (l.map TR.t)/\∀ x ∈ ks,x ∈ l):=by
 subst h
 refine FSpec.of_ok tok Tryd.func46 rfl Tryd.call46 (by simp) ?_
 refine Ok.seq ?_
 (refine Ok.region tok ?_;conv=>whnf)
 refine Ok.seq ?_
 (refine Ok.region tok ?_;conv=>whnf)
 right
 left
 (conv=>whnf)
 refine⟨_,greatestT_at l hl (fun x hx=>(hok x hx).tn) rfl,?_⟩
 rintro d rows ⟨W,hW,rfl,rfl⟩
 have hWk:=hW.n
 have hWt:=hW.tk
 rw[List.take_length] at hWk hWt
 have hKl:(grG covR l).map TR.t=grG covT (l.map TR.t):=grG_map TR.t covT l
 have hKm:∀ x ∈ grG covR l,x ∈ l:=grG_sub covR l
 have hKn:=grG_len covR l
 have hWw:=hW.w
 have hkp:(W.map trow).length=W.length:=by simp
 generalize grG covR l=K at *
 have hkeys:∀ x ∈ (W.map trow).take K.length,∃ l,x[10]? = some (.s l):=by
  intro x hx
  obtain⟨y,_,rfl⟩:=List.mem_map.1 (List.mem_of_mem_take hx)
  exact⟨y.t.key,rfl⟩
 have htk:(W.map trow).take K.length=K.map trow:=by rw[<- List.map_take,hWt]
 (conv=>whnf)
 refine Ok.seq ?_
 refine Ok.sortSlice tok sort_term (by (conv=>whnf);exact⟨rfl,rfl⟩) rfl rfl rfl (by rw[hkp];exact hWk) rfl (by decide) (by decide) hkeys (by omega) ?_
 intro ys hperm hup
 rw[htk] at hperm
 obtain⟨ks,hks,rfl⟩:=perm_map_ex hperm _ rfl
 have hkl:ks.length=K.length:=hks.length_eq
 have hsort:(ks.map TR.t).Pairwise fun t u=>Op.bytesLess u.key t.key ≠ true:=by
  unfold RowsUp at hup
  rw[List.pairwise_map] at hup ⊢
  refine hup.imp fun {a b} h=>?_
  have h2:=h a.t.key b.t.key rfl rfl
  rw[h2]
  decide
 have hform:ks.map TR.t=formT (l.map TR.t):=formT_eq (n:=n) (fun t ht=>by
  obtain⟨x,hx,rfl⟩:=List.mem_map.1 ht
  exact (hok x hx).ok) (by rw[<- hKl];exact hks.map _) hsort
 have hmem:∀ x ∈ ks,x ∈ l:=fun x hx=>hKm x (hks.mem_iff.1 hx)
 have hrow:((ks.map trow++(W.map trow).drop K.length).take K.length)=ks.map trow:=by
  rw[<- hkl]
  exact List.take_left' (by simp)
 have hrl:(ks.map trow++(W.map trow).drop K.length).length=W.length:=by simp;omega
 clear hup hperm hkeys
 rw[<- hform] at hsz
 (conv=>whnf)
 (try (conv=>whnf));repeat' (first|refine Ok.seq ?_|((first|refine Ok.region tok ?_|refine Ok.cond ?_|refine Ok.skip ?_|refine Ok.ret ?_);conv=>whnf)|(refine Or.inl ?_;(conv=>whnf);(repeat (refine aI ?_;conv=>whnf));refine⟨_,size_at bits ks (by omega) (fun x hx=>(hok x (hmem x hx)).tn.n) hrow,rfl,?_⟩;conv=>whnf)|(refine bI ?_ ?_<;>intro<;>(conv=>whnf)<;>(try (exfalso;omega)))|fail)
 refine Or.inl ?_;(conv=>whnf)
 rw[hrow]
 exact⟨ks,_,rfl,rfl,hform,hmem⟩
end Go.Proofs.YtaiondckookpiaaDoor
namespace Go.Proofs.YtaiondckookpiaaDoor
open Go Go.Vx
open Classical in
noncomputable def nb{α:Type}(R:α->α->Prop)(c:α)(l:List α):List α:=l.filter fun x=>decide (¬ R x c)
structure PutSt{α:Type}(R L:α->α->Prop)(k:List α)(c:α)(i:Nat)(m:List α)(done:Prop):Prop where
 yes:done->m=insG L c (nb R c (k.take i))/\∃ x ∈ nb R c (k.take i),L c x
 no:¬ done->m=nb R c (k.take i)/\∀ x ∈ nb R c (k.take i),¬ L c x
open Classical in
theorem insG_at{α:Type}{L:α->α->Prop}{c x:α}{l:List α}(h:∀ y ∈ l,¬ L c y)(hx:L c x):insG L c (l++[x])=l++[c,x]:=by
 induction l with
 | nil=>simp[insG,hx]
 | cons y l ih=>
  show insG L c (y :: (l++[x]))=_
  unfold insG
  rw[if_neg (h y (by simp)),ih fun z hz=>h z (by simp[hz])]
  rfl
section
variable {α : Type} {R L : α → α → Prop} {k : List α} {c : α} {i : Nat} {m : List α} {done : Prop}
open Classical in
theorem nb_in{x:α}(h:k[i]? = some x)(hR:R x c):nb R c (k.take (i+1))=nb R c (k.take i):=by
 unfold nb
 rw[take_snoc h,List.filter_append]
 simp[hR]
open Classical in
theorem nb_out{x:α}(h:k[i]? = some x)(hR:¬ R x c):nb R c (k.take (i+1))=nb R c (k.take i)++[x]:=by
 unfold nb
 rw[take_snoc h,List.filter_append]
 simp[hR]
theorem PutSt.zero:PutSt R L k c 0 [] False:=⟨fun h=>h.elim,fun _=>⟨by simp[nb],by simp[nb]⟩⟩
theorem PutSt.skip{x:α}(h:PutSt R L k c i m done)(hx:k[i]? = some x)(hR:R x c):PutSt R L k c (i+1) m done:=by
 have e:=nb_in hx hR
 exact⟨fun hd=>by rw[e];exact h.yes hd,fun hd=>by rw[e];exact h.no hd⟩
theorem PutSt.new{x:α}(h:PutSt R L k c i m done)(hx:k[i]? = some x)(hR:¬ R x c)(hn:¬ done)(hl:L c x):PutSt R L k c (i+1) (m++[c]++[x]) True:=by
 have e:=nb_out hx hR
 obtain⟨h1,h2⟩:=h.no hn
 refine⟨fun _=>?_,fun h=>absurd trivial h⟩
 rw[e,insG_at h2 hl,h1]
 exact⟨by simp,x,by simp,hl⟩
end
end Go.Proofs.YtaiondckookpiaaDoor
namespace Go.Proofs.YtaiondckookpiaaDoor
open Go Go.Vx
@[reducible] def srow(s:Str):List D:=[.s s]
noncomputable def PK(p:Str)(less:List Str):List Str:=(metL p less).foldl (putG inL blt) []
open Classical in
theorem putG_len{α:Type}(R L:α->α->Prop)(k:List α)(c:α):(putG R L k c).length<=k.length+1:=by
 unfold putG
 split
 . omega
 . rw[(insG_perm L c _).length_eq,List.length_cons]
   exact Nat.add_le_add_right (List.length_filter_le _ _) 1
theorem PK_len(p:Str)(less:List Str)(i:Nat):(PK p (less.take i)).length<=i:=by
 have go:∀ (l k:List Str),(l.foldl (putG inL blt) k).length<=k.length+l.length:=by
  intro l
  induction l with
  | nil=>intro k;simp
  | cons x l ih=>
   intro k
   have h1:=ih (putG inL blt k x)
   have h2:=putG_len inL blt k x
   simp only[List.foldl_cons,List.length_cons]
   omega
 have h1:=go (metL p (less.take i)) []
 have h2:=metL_le p (less.take i)
 have h3:=List.length_take_le i less
 unfold PK
 simp only[List.length_nil] at h1
 omega
theorem PK_mem{p:Str}{less:List Str}{c:Str}(h:c ∈ PK p less):c ∈ metL p less:=
 (putG_fold (R:=inL) (L:=blt) inL_refl (fun _ _ _=>inL_trans) blt_trans blt_total (metL p less)).1.sub c h
theorem termT_pk0{p:Str}{less:List Str}(h:PK p less=[p]):termT p less=none:=by
 unfold PK at h
 unfold termT
 simp only
 rw[if_pos h]
theorem termT_pk1{p:Str}{less:List Str}(h:PK p less ≠ [p]):termT p less=some ⟨p,PK p less⟩:=by
 unfold PK at h
 unfold termT
 simp only
 rw[if_neg h]
 rfl
@[reducible] def drow(x:TR):List D:=[.s x.t.p,.lst 9 (x.t.less.map srow) x.room]
end Go.Proofs.YtaiondckookpiaaDoor
namespace Go.Proofs.YtaiondckookpiaaDoor
open Go Go.Vx
theorem set_perm{α:Type}:∀ {l:List α} {j:Nat} {x y:α},l[j]? = some y->(y :: l.set j x).Perm (x :: l)
 | [],_,_,_,h=>by simp at h
 | a :: l,0,x,y,h=>by simp at h;subst h;exact .swap x a l
 | a :: l,j+1,x,y,h=>by
  have ih:=set_perm (l:=l) (j:=j) (x:=x) (y:=y) (by simpa using h)
  exact (List.Perm.swap a y _).trans ((ih.cons a).trans (.swap x a l))
theorem swapdel{α:Type}{l:List α}{j:Nat}{y z:α}(hy:l[j]? = some y)(hz:l[l.length - 1]? = some z):(y :: (l.set j z).take (l.length - 1)).Perm l:=by
 have hj:=(List.getElem?_eq_some_iff.1 hy).1
 have hsplit:l=l.take (l.length - 1)++[z]:=by
  have:=take_snoc hz
  rw[show l.length - 1+1=l.length by omega,List.take_length] at this
  exact this
 generalize hI:l.take (l.length - 1)=I at hsplit
 have hIl:I.length=l.length - 1:=by rw[<- hI];simp
 by_cases hjl:j=l.length - 1
 . subst hjl
   rw[hy] at hz
   cases hz
   have:(l.set (l.length - 1) y).take (l.length - 1)=I:=by rw[List.take_set,hI,List.set_eq_of_length_le (by omega)]
   rw[this]
   conv=>rhs;rw[hsplit]
   exact (List.perm_append_singleton y I).symm
 . have h1:(l.set j z).take (l.length - 1)=I.set j z:=by rw[List.take_set,hI]
   rw[h1]
   have h2:I[j]? = some y:=by
    rw[<- hI,List.getElem?_take,if_pos (by omega)]
    exact hy
   refine (set_perm h2).trans ?_
   conv=>rhs;rw[hsplit]
   exact (List.perm_append_singleton z I).symm
section
variable {α : Type} {f : α → Term}
structure Sel(f:α->Term)(K S W:List α)(m:Nat):Prop where
 le:m<=W.length
 perm:(S++W.take m).Perm K
 sort:S.Pairwise fun a b=>aheadT (f a) (f b)
 low:∀ s ∈ S,∀ y ∈ W.take m,aheadT (f s) (f y)
theorem Sel.zero{K:List α}:Sel f K [] K K.length:=⟨Nat.le_refl _,by simp,by simp,by simp⟩
theorem Sel.step{K S W:List α}{m j:Nat}{y z:α}(h:Sel f K S W m)(hnd:K.Pairwise fun a b=>f a ≠ f b)(hy:W[j]? = some y)(hj:j<m)(hz:W[m - 1]? = some z)(hmin:∀ i,i<m->∀ x,W[i]? = some x->¬ aheadT (f x) (f y)) :
    Sel f K (S++[y]) (W.set j z) (m - 1):=by
 have hle:=h.le
 generalize hl:W.take m=l at *
 have hll:l.length=m:=by rw[<- hl];simp;omega
 have hly:l[j]? = some y:=by rw[<- hl,List.getElem?_take,if_pos hj];exact hy
 have hlz:l[l.length - 1]? = some z:=by rw[hll,<- hl,List.getElem?_take,if_pos (by omega)];exact hz
 have hp:=swapdel hly hlz
 have e:(W.set j z).take (m - 1)=(l.set j z).take (l.length - 1):=by
  rw[hll,<- hl,<- List.take_set,List.take_take,Nat.min_eq_left (by omega)]
 have hperm:=h.perm
 rw[hl] at hperm
 have hndl:(y :: (l.set j z).take (l.length - 1)).Pairwise fun a b=>f a ≠ f b:=by
  have h1:(S++l).Pairwise fun a b=>f a ≠ f b:=(hperm.pairwise_iff fun {a b} hab=>Ne.symm hab).2 hnd
  exact (hp.pairwise_iff fun {a b} hab=>Ne.symm hab).2 (List.pairwise_append.1 h1).2.1
 have hlow:=h.low
 rw[hl] at hlow
 have hyl:y ∈ l:=List.mem_of_getElem? hly
 refine⟨by simp;omega,?_,?_,?_⟩
 . rw[e,List.append_assoc]
   exact (hp.append_left S).trans hperm
 . rw[List.pairwise_append]
   refine⟨h.sort,by simp,fun a ha b hb=>?_⟩
   simp at hb
   subst hb
   exact hlow a ha b hyl
 . rw[e]
   intro s hs x hx
   have hxl:x ∈ l:=hp.mem_iff.1 (List.mem_cons_of_mem _ hx)
   rcases List.mem_append.1 hs with hs|hs
   . exact hlow s hs x hxl
   . simp at hs
     subst hs
     have hne:=(List.pairwise_cons.1 hndl).1 x hx
     obtain⟨i,hi,hix⟩:=List.getElem_of_mem hxl
     have h2:W[i]? = some x:=by
      have:l[i]? = some x:=by rw[List.getElem?_eq_getElem hi,hix]
      rw[<- hl,List.getElem?_take,if_pos (by omega)] at this
      exact this
     rcases ahead_total hne with k|k
     . exact k
     . exact absurd k (hmin i (by omega) x h2)
end
end Go.Proofs.YtaiondckookpiaaDoor
namespace Go.Proofs.YtaiondckookpiaaDoor
open Go Go.Vx
def tTail(l:List Str):Str:=(l.map fun m=>(45:UInt8) :: m).flatten
def ttxt(t:Term):Str:=t.p++tTail t.less
def sepT(l:List Term):Str:=((l.map fun t=>(43:UInt8) :: ttxt t).flatten).drop 1
open Classical in
noncomputable def textS(l:List Term):Str:=if l=[] then [110,111,110,101] else sepT l
def preT(l:List Term)(i:Nat):Str:=if i=0 then [] else sepT (l.take i)++[43]
theorem tTail_snoc{l:List Str}{j:Nat}{m:Str}(h:l[j]? = some m):tTail (l.take (j+1))=tTail (l.take j)++[45]++m:=by
 unfold tTail
 rw[take_snoc h]
 simp
theorem sepT_step{l:List Term}{i:Nat}{t:Term}(h:l[i]? = some t):sepT (l.take (i+1))=preT l i++ttxt t:=by
 have hi:=(List.getElem?_eq_some_iff.1 h).1
 unfold preT
 split
 . rename_i h0
   subst h0
   rw[take_snoc h]
   simp[sepT]
 . rename_i h0
   rw[take_snoc h]
   unfold sepT
   rw[List.map_append,List.flatten_append,List.drop_append_of_le_length]
   . simp
   . cases l with
     | nil=>simp at h
     | cons a r=>
      cases i with
      | zero=>exact absurd rfl h0
      | succ i=>simp
theorem sepT_nil:sepT []=[]:=rfl
def szS(l:List Term):Nat:=(l.map fun t=>1+t.less.length).sum
theorem tTail_len{l:List Str}(h:∀ m ∈ l,m.length<=256):(tTail l).length<=257*l.length:=by
 induction l with
 | nil=>simp[tTail]
 | cons m l ih=>
  have h1:=ih fun x hx=>h x (by simp[hx])
  have h2:=h m (by simp)
  unfold tTail at h1 ⊢
  rw[List.map_cons,List.flatten_cons,List.length_append,List.length_cons,List.length_cons]
  omega
theorem ttxt_len{t:Term}(hp:t.p.length<=256)(h:∀ m ∈ t.less,m.length<=256):(ttxt t).length<=257*(1+t.less.length) - 1:=by
 have:=tTail_len h
 unfold ttxt
 rw[List.length_append]
 omega
theorem sepT_len{l:List Term}(h:∀ t ∈ l,t.p.length<=256/\∀ m ∈ t.less,m.length<=256):(sepT l).length<=257*szS l:=by
 have key:((l.map fun t=>(43:UInt8) :: ttxt t).flatten).length<=257*szS l:=by
  induction l with
  | nil=>simp
  | cons t l ih=>
   have h1:=ih fun x hx=>h x (by simp[hx])
   have h2:=ttxt_len (h t (by simp)).1 (h t (by simp)).2
   simp only[szS,List.map_cons,List.flatten_cons,List.length_append,List.length_cons,List.sum_cons] at h1 ⊢
   rw[Nat.mul_add]
   omega
 unfold sepT
 rw[List.length_drop]
 omega
theorem szS_take(l:List Term)(i:Nat):szS (l.take i)<=szS l:=by
 unfold szS
 conv=>rhs;rw[<- List.take_append_drop i l]
 rw[List.map_append,List.sum_append]
 omega
theorem szS_mem{l:List Term}{t:Term}(h:t ∈ l):1+t.less.length<=szS l:=by
 unfold szS
 induction l with
 | nil=>simp at h
 | cons a l ih=>
  simp only[List.map_cons,List.sum_cons]
  rcases List.mem_cons.1 h with rfl|h
  . omega
  . have:=ih h;omega
theorem szS_len(l:List Term):l.length<=szS l:=by
 unfold szS
 induction l with
 | nil=>simp
 | cons a l ih=>simp only[List.map_cons,List.sum_cons,List.length_cons];omega
theorem key_at{n:Nat}{p:Str}:∀ {less:List Str} {j:Nat} {m:Str},p.length=n->(∀ x ∈ less,x.length=n)->less[j]? = some m->((p++less.flatten).take (n*(j+1)+n)).drop (n*(j+1))=m
 | [],j,m,_,_,h=>by simp at h
 | x :: less,0,m,hp,hl,h=>by
  simp at h
  subst h
  have hx:=hl x (by simp)
  rw[List.flatten_cons,<- List.append_assoc,show n*(0+1)+n=(p++x).length by simp[hp,hx]]
  rw[List.take_left',show n*(0+1)=p.length by simp[hp]]
  . exact List.drop_left' rfl
  . rfl
 | x :: less,j+1,m,hp,hl,h=>by
  have hx:=hl x (by simp)
  have ih:=key_at (p:=x) (less:=less) (j:=j) (m:=m) hx (fun y hy=>hl y (by simp[hy])) (by simpa using h)
  rw[List.flatten_cons]
  have e1:n*(j+1+1)=p.length+n*(j+1):=by rw[hp,Nat.mul_add n (j+1) 1];omega
  rw[e1,Nat.add_assoc,List.take_append]
  rw[List.take_of_length_le (by omega),show p.length+(n*(j+1)+n) - p.length=n*(j+1)+n by omega,List.drop_append,List.drop_of_length_le (by omega),List.nil_append,
   show p.length+n*(j+1) - p.length=n*(j+1) by omega]
  exact ih
theorem key_head{n:Nat}{p:Str}{less:List Str}(hp:p.length=n):(p++less.flatten).take n=p:=List.take_left' hp
theorem key_len{n:Nat}{p:Str}{less:List Str}(hp:p.length=n)(h:∀ x ∈ less,x.length=n):(p++less.flatten).length=n*(less.length+1):=by
 rw[List.length_append,hp,Nat.mul_add,Nat.mul_one,Nat.add_comm]
 congr 1
 induction less with
 | nil=>simp
 | cons x l ih=>
  have:=ih fun y hy=>h y (by simp[hy])
  rw[List.flatten_cons,List.length_append,h x (by simp),this,List.length_cons,Nat.mul_add]
  omega
end Go.Proofs.YtaiondckookpiaaDoor
namespace Go.Proofs.YtaiondckookpiaaDoor
open Go Go.Vx
theorem tTail_nil:tTail []=[]:=rfl
theorem szS_eq(l:List Term):szT l=szS l:=rfl
structure SpOk(n:Nat)(l:List TR):Prop where
 n256:n<=256
 size:szS (l.map TR.t)<=1048576
 wide:∀ x ∈ l,x.t.wide n
 pos:l ≠ []->0<n
theorem SpOk.nil{n:Nat}(h:n<=256):SpOk n []:=⟨h,by simp[szS],by simp,fun h=>absurd rfl h⟩
theorem SpOk.len{n:Nat}{l:List TR}(h:SpOk n l):l.length<=1048576:=by
 have h1:=szS_len (l.map TR.t)
 have h2:=h.size
 rw[List.length_map] at h1
 omega
theorem SpOk.less{n:Nat}{l:List TR}(h:SpOk n l){x:TR}(hx:x ∈ l):x.t.less.length<=1048576:=by
 have h1:=szS_mem (List.mem_map_of_mem (f:=TR.t) hx)
 have h2:=h.size
 omega
theorem SpOk.w256{n:Nat}{l:List TR}(h:SpOk n l):∀ t ∈ l.map TR.t,t.p.length<=256/\∀ m ∈ t.less,m.length<=256:=by
 intro t ht
 obtain⟨x,hx,rfl⟩:=List.mem_map.1 ht
 have h1:=h.wide x hx
 have h2:=h.n256
 exact⟨by rw[h1.1];exact h2,fun m hm=>by rw[h1.2 m hm];exact h2⟩
theorem SpOk.sep{n:Nat}{l:List TR}(h:SpOk n l)(i:Nat):(sepT ((l.map TR.t).take i)).length<=257*1048576:=by
 have h1:=sepT_len (l:=(l.map TR.t).take i) fun t ht=>h.w256 t (List.mem_of_mem_take ht)
 have h2:=szS_take (l.map TR.t) i
 have h3:=h.size
 omega
theorem SpOk.pre{n:Nat}{l:List TR}(h:SpOk n l)(i:Nat):(preT (l.map TR.t) i).length<=257*1048576+1:=by
 unfold preT
 split
 . simp
 . have:=h.sep i
   rw[List.length_append,List.length_singleton]
   omega
theorem SpOk.tail{n:Nat}{l:List TR}(h:SpOk n l){x:TR}(hx:x ∈ l)(j:Nat):(tTail (x.t.less.take j)).length<=257*1048576:=by
 have h1:=tTail_len (l:=x.t.less.take j) fun m hm=>(h.w256 x.t (List.mem_map_of_mem hx)).2 m (List.mem_of_mem_take hm)
 have h2:=h.less hx
 have h3:(x.t.less.take j).length<=x.t.less.length:=by simp;omega
 omega
theorem bits_at(b:Int)(d:D)(hd:∃ e r m,d = .lst e r m):FSpec Tryd.prog T 14 [.agg [.i .i64 b,d]] (fun r _=>r = .i .i64 b):=by
 obtain⟨e,r,m,rfl⟩:=hd
 refine FSpec.of_ok tok Tryd.func14 rfl Tryd.call14 (by simp) ?_
 (try (conv=>whnf));repeat' (first|refine Ok.seq ?_|((first|refine Ok.region tok ?_|refine Ok.ret ?_);conv=>whnf)|fail)
 refine Or.inl ?_;(conv=>whnf)
 rfl
def noneB(b:Int):Int:=if b<1\/256<b then 0 else b
theorem none_at(b:Int):FSpec Tryd.prog T 10 [.i .i64 b] (fun r rows=>r = .agg [.i .i64 (noneB b),.lst 81 [] []]/\rows=[]):=by
 refine FSpec.of_ok tok Tryd.func10 rfl Tryd.call10 (by simp) ?_
 (try (conv=>whnf));repeat' (first|refine Ok.seq ?_|((first|refine Ok.region tok ?_|refine Ok.cond ?_|refine Ok.skip ?_|refine Ok.ret ?_);conv=>whnf)|(refine bI ?_ ?_<;>intro<;>(conv=>whnf)<;>(try (exfalso;omega)))|fail)
 all_goals
  refine Or.inl ?_;(conv=>whnf)
  refine⟨?_,rfl⟩
  unfold noneB
  first|rw[if_pos (by omega)];rfl|rw[if_neg (by omega)];rfl
end Go.Proofs.YtaiondckookpiaaDoor
namespace Go.Proofs.YtaiondckookpiaaDoor
open Go Go.Vx
def bcl(i:Nat):D:=match i with|0=>.nilB 88|_+1=>.bp 1 0
end Go.Proofs.YtaiondckookpiaaDoor
