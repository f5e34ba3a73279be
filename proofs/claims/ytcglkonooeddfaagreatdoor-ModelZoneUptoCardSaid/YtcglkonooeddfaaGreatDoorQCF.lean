/- The walks and the plain laws that a law of networks needs, part 6 of 6. -/
import Derived.Test.YtcglkonooeddfaaGreatDoorQCE
import Derived.Test.YtcglkonooeddfaaGreatDoorRows
import Derived.ProofKit
import Derived.OpenShut
import Derived.LaidMore
import Derived.Lay
import Derived.Lib.LaidTab
set_option linter.unusedVariables false
set_option linter.unusedSimpArgs false
set_option maxRecDepth 100000
set_option maxHeartbeats 16000000
namespace Go.Proofs.YtcglkonooeddfaaGreatDoor
open Go Go.Vx
theorem join_at{n m:Int}{ts us:List Term}(hf:Fine n ts)(hg:Fine m us)(ks ks2:List TR)(rm rm2:List (List D))(h1:ks.map TR.t=ts)(h2:ks2.map TR.t=us) :
    FSpec Tryz.prog T 352 [.agg [.i .i64 n,.lst 142 (ks.map trow) rm],.agg [.i .i64 m,.lst 142 (ks2.map trow) rm2]] (POut (joinO n m ts us)):=by
 have hfit:=fits2_at n m
 have hl1:=hf.len
 have hl2:=hg.len
 rw[<- h1,lMp0] at hl1
 rw[<- h2,lMp0] at hl2
 have htk:List.take (List.map trow ks++List.map trow ks2).length (List.map trow ks++List.map trow ks2)=(ks++ks2).map trow:=by rw[tkL0 (Nat.le_refl _),List.map_append]
 have hk1:(List.map trow ks).length=ks.length:=by simp
 have hk2:(List.map trow ks2).length=ks2.length:=by simp
 refine FSpec.of_deferK 3 tok Tryz.func352 rfl Tryz.call352 (by simp) def_join (zd1:=[.i .i64 0,.nilS]) (zd2:=[.i .i64 3]) rfl rfl (by simp[Value.oneCell']) (by simp[Value.oneCell']) rfl ?_
 by_cases hfp:fitP n m
 . have hnm:=hfp.1
   subst hnm
   have hto:∀ x ∈ ks++ks2,TO n.toNat x:=fun x hx=>(mAp0.1 hx).elim (hf.to h1 x) (hg.to h2 x)
   have hts:(ks++ks2).map TR.t=ts++us:=by rw[List.map_append,h1,h2]
   rw[joinO_fit hfp,<- hts]
   have hln:(ks++ks2).length<=1048576:=by simp;omega
   (try (conv=>whnf));repeat' (first|refine Ok.seq ?_|refine OkL.cons ?_|((first|refine Ok.region tok ?_|refine Ok.cond ?_|refine Ok.skip ?_|refine Ok.ret ?_);conv=>whnf)|(refine Or.inl ?_;(conv=>whnf);(repeat (refine aI ?_;conv=>whnf));refine⟨_,hfit,rfl,?_⟩;conv=>whnf)|(refine bI ?_ ?_<;>intro<;>(conv=>whnf)<;>(try (exfalso;omega)))|fail)
   . exact absurd hfp (by assumption)
   refine OkL.nil ?_
   (conv=>whnf)
   refine⟨2,3,rfl,rfl,by decide,by decide,by decide,rfl,?_⟩
   by_cases hsz:szT (formT ((ks++ks2).map TR.t))<=128
   . rw[bndO_le hsz]
     (try (conv=>whnf));repeat' (first|refine OkL.cons ?_|((first|refine Ok.region tok ?_|refine Ok.region_plan (id:=6) tok follows [(4,5,[]),(1,6,[]),(4,6,[5]),(5,6,[]),(1,7,[]),(4,7,[]),(5,7,[]),(6,7,[]),(1,8,[]),(4,8,[]),(5,8,[]),(6,8,[]),(7,8,[])] [.q 0,.q 1,.q 2,.q 3,.q 4,.l 5,.l 6,.l 7,.l 8] (by kernel_rfl) ?_|refine Ok.ret ?_|refine nI ?_);conv=>whnf)|(refine Or.inr (Or.inl ?_);(conv=>whnf);(repeat (refine aI ?_;conv=>whnf));refine⟨_,form_at n n.toNat (ks++ks2) hln hto htk hsz , ?_⟩;rintro _ _ ⟨ks3,rm3,rfl,rfl,hks3,hkm⟩<;>(conv=>whnf))|((first|refine Alt2.l (aI ?_)|refine⟨_,_,rfl,rfl,?_⟩|refine aJ ?_|refine⟨_,rfl,?_⟩);conv=>whnf)|fail)
     refine Or.inl ?_;(conv=>whnf)
     exact⟨rfl,_,rfl,ks3,rm3,rfl,hks3⟩
   . rw[bndO_gt (by omega)]
     (try (conv=>whnf));repeat' (first|refine OkL.cons ?_|((first|refine Ok.region tok ?_|refine nI ?_|refine Alt2.l (aI ?_)|refine⟨_,_,rfl,rfl,?_⟩|refine aJ ?_|refine⟨_,rfl,?_⟩);conv=>whnf)|fail)
     refine Ok.region_planpanS tok follows [(4,5,[])] [.q 0,.q 1,.q 2,.q 3,.q 4,.l 5] 6 (by kernel_rfl) ?_;(conv=>whnf)
     (try (conv=>whnf));repeat' (first|((first|refine Alt2.l (aI ?_)|refine⟨_,_,rfl,rfl,?_⟩|refine aJ ?_);conv=>whnf)|fail)
     refine⟨_,form_pan n n.toNat (ks++ks2) hln hto htk (by omega),?_⟩
     (conv=>whnf)
     refine⟨rfl,2,3,_,_,rfl,rfl,rfl,rfl,rfl,rfl,by decide,rfl,?_⟩
     (conv=>whnf)
     refine Or.inl ?_;(conv=>whnf)
     exact⟨rfl,_,rfl,PSp.nil 0⟩
 . rw[joinO_not hfp]
   (try (conv=>whnf));repeat' (first|refine Ok.seq ?_|refine OkL.cons ?_|((first|refine Ok.region tok ?_|refine Ok.cond ?_|refine Ok.skip ?_|refine Ok.ret ?_);conv=>whnf)|(refine Or.inl ?_;(conv=>whnf);(repeat (refine aI ?_;conv=>whnf));refine⟨_,hfit,rfl,?_⟩;conv=>whnf)|(refine bI ?_ ?_<;>intro<;>(conv=>whnf)<;>(try (exfalso;omega)))|fail)
   . refine Or.inl ?_;(conv=>whnf)
     exact⟨rfl,_,rfl,PSp.nil 0⟩
   . rename_i h
     exact absurd hfp h
end Go.Proofs.YtcglkonooeddfaaGreatDoor
namespace Go.Proofs.YtcglkonooeddfaaGreatDoor
open Go Go.Vx
noncomputable def meet2(a b:Term):Option Term:=(meetT a.p b.p).bind fun p=>termT p (a.less++b.less)
noncomputable def meets(ts us:List Term):List Term:=ts.flatMap fun a=>us.filterMap (meet2 a)
open Classical in
noncomputable def meetO(n m:Int)(ts us:List Term):Int × Int × List Term:=if fitP n m then (if ts.length*us.length<=2048 then bndO n (formT (meets ts us)) else (3,0,[])) else (11,0,[])
theorem GoodT.len{n:Nat}{t:Term}(h:GoodT n t):t.p.length=n:=h.ok.p
theorem meet2_good{n:Nat}{a b t:Term}(ha:GoodT n a)(hb:GoodT n b)(h:meet2 a b=some t):GoodT n t:=by
 unfold meet2 at h
 obtain⟨p,hp,ht⟩:=Option.bind_eq_some_iff.1 h
 have hm:=meetT_ct hp ha.p.1 hb.p.1
 exact (termT_good ⟨hm.1,fun e=>hm.2.2 (List.eq_nil_of_length_eq_zero (by rw[<- hm.2.1,e];rfl))⟩ (by rw[hm.2.1,ha.len]) (fun m hm=>(mAp0.1 hm).elim (fun h=>(ha.less m h).1) (fun h=>(hb.less m h).1)) ht).1
theorem meets_good{n:Nat}{ts us:List Term}(h1:∀ t ∈ ts,GoodT n t)(h2:∀ t ∈ us,GoodT n t):∀ t ∈ meets ts us,GoodT n t:=by
 intro t ht
 obtain⟨a,ha,h⟩:=List.mem_flatMap.1 ht
 obtain⟨b,hb,h⟩:=List.mem_filterMap.1 h
 exact meet2_good (h1 a ha) (h2 b hb) h
theorem meet2_less{a b t:Term}(h:meet2 a b=some t):t.less.length<=a.less.length+b.less.length:=by
 unfold meet2 at h
 obtain⟨p,hp,ht⟩:=Option.bind_eq_some_iff.1 h
 have:=termT_sz ht
 rw[List.length_append] at this
 exact this
theorem meets_less{ts us:List Term}{k:Nat}(h1:∀ t ∈ ts,t.less.length<=k)(h2:∀ t ∈ us,t.less.length<=k):∀ t ∈ meets ts us,t.less.length<=k+k:=by
 intro t ht
 obtain⟨a,ha,h⟩:=List.mem_flatMap.1 ht
 obtain⟨b,hb,h⟩:=List.mem_filterMap.1 h
 have:=meet2_less h
 have:=h1 a ha
 have:=h2 b hb
 omega
theorem meets_snoc{ts us:List Term}{i:Nat}{a:Term}(h:ts[i]? = some a):meets (ts.take (i+1)) us=meets (ts.take i) us++us.filterMap (meet2 a):=by
 unfold meets
 rw[take_snoc h,List.flatMap_append]
 simp
theorem fm_some{α β:Type}{f:α->Option β}{l:List α}{i:Nat}{a:α}{b:β}(h:l[i]? = some a)(hb:f a=some b):(l.take (i+1)).filterMap f=(l.take i).filterMap f++[b]:=by
 rw[take_snoc h];simp[hb]
theorem fm_none{α β:Type}{f:α->Option β}{l:List α}{i:Nat}{a:α}(h:l[i]? = some a)(hb:f a=none):(l.take (i+1)).filterMap f=(l.take i).filterMap f:=by
 rw[take_snoc h];simp[hb]
theorem tr_get{ks:List TR}{ts:List Term}{i:Nat}{x:TR}(e:ks.map TR.t=ts)(h:ks[i]? = some x):ts[i]? = some x.t:=by rw[<- e,gMp0,h];rfl
theorem meetO_fit{n m:Int}{ts us:List Term}(h:fitP n m)(h2:ts.length*us.length<=2048):meetO n m ts us=bndO n (formT (meets ts us)):=by unfold meetO;rw[if_pos h,if_pos h2]
theorem meetO_raw{n m:Int}{ts us:List Term}(h:fitP n m)(h2:¬ ts.length*us.length<=2048):meetO n m ts us=(3,0,[]):=by unfold meetO;rw[if_pos h,if_neg h2]
theorem meetO_not{n m:Int}{ts us:List Term}(h:¬ fitP n m):meetO n m ts us=(11,0,[]):=if_neg h
theorem meetO_fine{n m:Int}{ts us:List Term}(hf:Fine n ts)(hg:Fine m us):Fine (meetO n m ts us).2.1 (meetO n m ts us).2.2:=by
 by_cases h:fitP n m
 . by_cases h2:ts.length*us.length<=2048
   . rw[meetO_fit h h2]
     obtain⟨rfl,h0⟩:=h
     exact bndO_fine hf.n0 hf.n1 (meets_good hf.good hg.good)
   . rw[meetO_raw h h2];exact .nil (by decide) (by decide)
 . rw[meetO_not h];exact .nil (by decide) (by decide)
theorem raw_at{n:Int}(h:n<=2048):FSpec Tryz.prog T 357 [.i .i64 n] (fun d _=>d = .tup []):=by
 refine FSpec.of_ok tok Tryz.func357 rfl Tryz.call357 (by simp) ?_
 (try (conv=>whnf));repeat' (first|refine Ok.seq ?_|((first|refine Ok.region tok ?_|refine Ok.cond ?_|refine Ok.skip ?_);conv=>whnf)|(refine bI ?_ ?_<;>intro<;>(conv=>whnf)<;>(try (exfalso;omega)))|fail)
 refine Or.inl ?_;(conv=>whnf)
 rfl
theorem raw_pan{n:Int}(h:2048<n):PSpec Tryz.prog T 357 [.i .i64 n] passedV:=by
 refine PSpec.of_ok Tryz.func357 rfl Tryz.call357 (by simp) ?_
 refine Ok.seq ?_
 (refine Ok.region tok ?_;conv=>whnf)
 (conv=>whnf)
 refine Ok.cond ?_
 (conv=>whnf)
 refine⟨fun _=>?_,fun h2=>absurd h h2⟩
 refine Ok.region_throw (fun w=>by kernel_rfl) (by kernel_rfl) (by decide) (by decide) ?_
 rfl
end Go.Proofs.YtcglkonooeddfaaGreatDoor
namespace Go.Proofs.YtcglkonooeddfaaGreatDoor
open Go Go.Vx
theorem meet2_at{n m:Int}{ts us:List Term}(hf:Fine n ts)(hg:Fine m us)(ks ks2:List TR)(rm rm2:List (List D))(h1:ks.map TR.t=ts)(h2:ks2.map TR.t=us) :
    FSpec Tryz.prog T 373 [.agg [.i .i64 n,.lst 142 (ks.map trow) rm],.agg [.i .i64 m,.lst 142 (ks2.map trow) rm2]] (POut (meetO n m ts us)):=by
 have hfit:=fits2_at n m
 have hl1:ks.length=ts.length:=by rw[<- h1,lMp0]
 have hl2:ks2.length=us.length:=by rw[<- h2,lMp0]
 have hm1:(ks.map trow).length=ts.length:=by simp[hl1]
 have hm2:(ks2.map trow).length=us.length:=by simp[hl2]
 have hk1:=hf.len
 have hk2:=hg.len
 refine FSpec.of_deferK 3 tok Tryz.func373 rfl Tryz.call373 (by simp) def_meet (zd1:=[.i .i64 0,.nilS]) (zd2:=[.i .i64 3]) rfl rfl (by simp[Value.oneCell']) (by simp[Value.oneCell']) rfl ?_
 by_cases hfp:fitP n m
 . have hnm:=hfp.1
   subst hnm
   have hmul:((List.map trow ks).length:Int)*((List.map trow ks2).length:Int)=((ts.length*us.length:Nat):Int):=by rw[hm1,hm2];simp
   have hmb:ts.length*us.length<=128*128:=Nat.mul_le_mul hk1 hk2
   (try (conv=>whnf));repeat' (first|refine Ok.seq ?_|refine OkL.cons ?_|((first|refine Ok.region tok ?_|refine Ok.cond ?_|refine Ok.skip ?_|refine Ok.ret ?_);conv=>whnf)|(refine Or.inl ?_;(conv=>whnf);(repeat (refine aI ?_;conv=>whnf));refine⟨_,hfit,rfl,?_⟩;conv=>whnf)|(refine bI ?_ ?_<;>intro<;>(conv=>whnf)<;>(try (exfalso;omega)))|fail)
   . exact absurd hfp (by assumption)
   refine OkL.nil ?_
   (conv=>whnf)
   refine⟨2,3,rfl,rfl,by decide,by decide,by decide,rfl,?_⟩
   by_cases hraw:ts.length*us.length<=2048
   . rw[meetO_fit hfp hraw]
     (try (conv=>whnf));repeat' (first|refine OkL.cons ?_|(refine Ok.region tok ?_;conv=>whnf)|refine Ok.block ?_|(refine nI ?_;conv=>whnf)|(refine Or.inl ?_;(conv=>whnf);(repeat (refine aI ?_;conv=>whnf));refine⟨_,raw_at (n:=((List.map trow ks).length:Int)*((List.map trow ks2).length:Int)) (by rw[hmul];omega),rfl,?_⟩;conv=>whnf)|fail)
     refine Ok.ghost 6 142 rfl ?_
     (conv=>whnf)
     refine Ok.loopU [2,3,4,5,32,33,75,76] [6,34] 1 4 (fun (x:Nat × List TR)=>[.own 0 x.2.length,.i .i64 (x.1:Nat)]) (fun _ b=>b) (fun (x:Nat × List TR) (_:Vx.Rows)=>[some (142,x.2.map trow)]) (fun (x:Nat × List TR)=>x.1<=ts.length/\x.2.map TR.t=meets (ts.take x.1) us/\x.2.length<=x.1*us.length) (fun (x:Nat × List TR)=>ts.length - x.1) ((0,[])) (⟨Nat.zero_le _,by simp[meets],by simp⟩) ?_;(conv=>whnf);refine⟨by ((conv=>whnf);first|rfl|(simp[envCat,tkL0,crow,trow,srow,drow];done)|(simp[envCat,tkL0,crow,trow,srow,drow];rw[IntKind.wrap_i64];omega)),?_⟩
     rintro⟨i,l⟩ ⟨hi,hl,hll⟩
     dsimp only at hi hl hll ⊢
     have hlm:(l.map trow).length=l.length:=by simp
     have hib:i*us.length<=128*128:=Nat.mul_le_mul (by omega) hk2
     (conv=>whnf)
     by_cases hil:i<ts.length
     . obtain⟨a,ha⟩:∃ a,ks[i]? = some a:=⟨_,gEt0 (by omega)⟩
       have haI:ks[((i:Nat):Int).toNat]? = some a:=ha
       have hat:=tr_get h1 ha
       have hag:=hf.good _ (mOf0 hat)
       have hal:=hf.less (mOf0 hat)
       have hal2:(a.t.less.map crow).length=a.t.less.length:=by simp
       have hsn:=meets_snoc (us:=us) hat
       have hi1:(i+1)*us.length=i*us.length+us.length:=by rw[Nat.add_mul,Nat.one_mul]
       (try (conv=>whnf));repeat' (first|refine Ok.seq ?_|((first|refine Ok.region tok ?_|refine Ok.cond ?_);conv=>whnf)|refine Ok.block ?_|((first|refine Ok.skip ?_|refine ix _ (by assumption) ?_);conv=>whnf)|(refine bI ?_ ?_<;>intro<;>(conv=>whnf)<;>(try (exfalso;omega)))|fail)
       refine Ok.loopU [2,3,4,5,8,32,33,34,39,40,75,76] [6,41] 1 5 (fun (x:Nat × List TR)=>[.own 0 x.2.length,.i .i64 (x.1:Nat)]) (fun _ b=>b) (fun (x:Nat × List TR) (_:Vx.Rows)=>[some (142,x.2.map trow)]) (fun (x:Nat × List TR)=>x.1<=us.length/\x.2.map TR.t=meets (ts.take i) us++(us.take x.1).filterMap (meet2 a.t)/\x.2.length<=i*us.length+x.1) (fun (x:Nat × List TR)=>us.length - x.1) ((0,l)) (⟨Nat.zero_le _,by simpa using hl,by simpa using hll⟩) ?_;(conv=>whnf);refine⟨by ((conv=>whnf);first|rfl|(simp[envCat,tkL0,crow,trow,srow,drow];done)|(simp[envCat,tkL0,crow,trow,srow,drow];rw[IntKind.wrap_i64];omega)),?_⟩
       rintro⟨j,l2⟩ ⟨hj,hl2e,hl2l⟩
       dsimp only at hj hl2e hl2l ⊢
       have hl2m:(l2.map trow).length=l2.length:=by simp
       (conv=>whnf)
       by_cases hjl:j<us.length
       . obtain⟨b,hb⟩:∃ b,ks2[j]? = some b:=⟨_,gEt0 (by omega)⟩
         have hbI:ks2[((j:Nat):Int).toNat]? = some b:=hb
         have hbt:=tr_get h2 hb
         have hbg:=hg.good _ (mOf0 hbt)
         have hbl:=hg.less (mOf0 hbt)
         have hbl2:(b.t.less.map crow).length=b.t.less.length:=by simp
         have hsp:=meet_at a.t.p b.t.p hag.p.1 hbg.p.1
         cases hm:meetT a.t.p b.t.p with
         | none=>
          have hno:meet2 a.t b.t=none:=by unfold meet2;rw[hm];rfl
          rw[hm] at hsp
          (try (conv=>whnf));repeat' (first|refine Ok.seq ?_|((first|refine Ok.region tok ?_|refine Ok.cond ?_);conv=>whnf)|refine Ok.block ?_|((first|refine Ok.skip ?_|refine nI ?_|refine ix _ (by assumption) ?_);conv=>whnf)|(refine Or.inr (Or.inl ?_);(conv=>whnf);(repeat (refine aI ?_;conv=>whnf));refine⟨_,hsp,?_⟩;rintro _ _ ⟨rfl,rfl⟩<;>(conv=>whnf))|(refine bI ?_ ?_<;>intro<;>(conv=>whnf)<;>(try (exfalso;omega)))|fail)
          . rename_i h
            cases h
          . refine⟨(j+1,l2),by dsimp only;omega,⟨by dsimp only;omega,by dsimp only;rw[fm_none hbt hno];exact hl2e,by dsimp only;omega⟩,?_⟩
            (conv=>whnf)
            rfl
         | some p=>
          rw[hm] at hsp
          have hmc:=meetT_ct hm hag.p.1 hbg.p.1
          have hpn:p ≠ []:=fun e=>hmc.2.2 (List.eq_nil_of_length_eq_zero (by rw[<- hmc.2.1,e];rfl))
          have hm2:meet2 a.t b.t=termT p (a.t.less++b.t.less):=by unfold meet2;rw[hm];rfl
          have hnew:∀ room,FSpec Tryz.prog T 63 [.agg (crow p),.lst 133 (List.map lrow [⟨a.t.less,a.room⟩,⟨b.t.less,b.room⟩]) room] (NewT p (a.t.less++b.t.less)):=fun room=>by
           have:=newTerm_at p [⟨a.t.less,a.room⟩,⟨b.t.less,b.room⟩] (room:=room) ⟨hmc.1,hpn⟩ (by
            intro x hx m hm
            simp at hx
            rcases hx with rfl|rfl
            . exact (hag.less m hm).1
            . exact (hbg.less m hm).1) (by simp[allL];omega) (by simp) rfl
           rwa [show allL [⟨a.t.less,a.room⟩,⟨b.t.less,b.room⟩]=a.t.less++b.t.less by simp[allL]] at this
          (try (conv=>whnf));repeat' (first|refine Ok.seq ?_|((first|refine Ok.region tok ?_|refine Ok.cond ?_);conv=>whnf)|refine Ok.block ?_|((first|refine Ok.skip ?_|refine nI ?_|refine ix _ (by assumption) ?_);conv=>whnf)|(refine Or.inr (Or.inl ?_);(conv=>whnf);(repeat (refine aI ?_;conv=>whnf));refine⟨_,hsp,?_⟩;rintro _ _ ⟨rfl,rfl⟩<;>(conv=>whnf))|(refine Or.inr (Or.inl ?_);(conv=>whnf);(repeat (refine aI ?_;conv=>whnf));refine⟨_,hnew _ , ?_⟩;rintro _ _ ⟨rfl,(⟨ht,rfl⟩|⟨t,rm4,ht,rfl⟩)⟩<;>(conv=>whnf))|((first|refine Alt2.l (aI ?_)|refine⟨_,.inl ⟨rfl,rfl⟩,?_⟩|refine⟨_,_,rfl,rfl,?_⟩);conv=>whnf)|(refine bI ?_ ?_<;>intro<;>(conv=>whnf)<;>(try (exfalso;omega)))|(refine aJ ?_;conv=>whnf)|fail)
          all_goals first
           | (rename_i h;exact absurd rfl h)
           | (rename_i h;exact absurd trivial h)
           | (refine⟨(j+1,l2),by dsimp only;omega,⟨by dsimp only;omega,by dsimp only;rw[fm_none hbt (hm2.trans ht)];exact hl2e,by dsimp only;omega⟩,?_⟩
              (conv=>whnf)
              rfl)
           | (refine⟨(j+1,l2++[⟨t,rm4⟩]),by dsimp only;omega,⟨by dsimp only;omega,by dsimp only;rw[fm_some hbt (hm2.trans ht),List.map_append,hl2e,List.append_assoc];rfl,by simp;omega⟩,?_⟩
              (conv=>whnf)
              simp[envCat])
       . have hje:j=us.length:=by omega
         subst hje
         rw[List.take_length] at hl2e
         (try (conv=>whnf));repeat' (first|refine Ok.seq ?_|((first|refine Ok.region tok ?_|refine Ok.cond ?_|refine Ok.exit ?_|refine nI ?_);conv=>whnf)|(refine bI ?_ ?_<;>intro<;>(conv=>whnf)<;>(try (exfalso;omega)))|fail)
         refine⟨(i+1,l2),by dsimp only;omega,⟨by dsimp only;omega,by dsimp only;rw[hsn];exact hl2e,by dsimp only;omega⟩,?_⟩
         (conv=>whnf)
         rfl
     . have hie:i=ts.length:=by omega
       subst hie
       rw[List.take_length] at hl
       have hgood:=meets_good hf.good hg.good
       have hlb:=meets_less (fun t ht=>hf.less ht) (fun t ht=>hg.less ht)
       have hle:∀ x ∈ l,x.t.less.length<=1048576:=fun x hx=>Nat.le_trans (hlb _ (mem_of_map hl hx)) (by decide)
       have hto:∀ x ∈ l,TO n.toNat x:=fun x hx=>(hgood _ (mem_of_map hl hx)).to (hle x hx)
       have htk:List.take l.length (l.map trow)=l.map trow:=tkL0 (by simp)
       have hln:l.length<=1048576:=by omega
       rw[<- hl]
       by_cases hsz:szT (formT (l.map TR.t))<=128
       . rw[bndO_le hsz]
         (try (conv=>whnf));repeat' (first|refine Ok.seq ?_|refine OkL.cons ?_|((first|refine Ok.region tok ?_|refine Ok.cond ?_|refine Ok.exit ?_|refine Ok.ret ?_);conv=>whnf)|(refine Or.inr (Or.inl ?_);(conv=>whnf);(repeat (refine aI ?_;conv=>whnf));refine⟨_,form_at n n.toNat l hln hto htk hsz , ?_⟩;rintro _ _ ⟨ks3,rm3,rfl,rfl,hks3,hkm⟩<;>(conv=>whnf))|(refine bI ?_ ?_<;>intro<;>(conv=>whnf)<;>(try (exfalso;omega)))|fail)
         refine Or.inl ?_;(conv=>whnf)
         exact⟨rfl,_,rfl,ks3,rm3,rfl,hks3⟩
       . rw[bndO_gt (by omega)]
         (try (conv=>whnf));repeat' (first|(refine Ok.region_pan (id:=19) tok 3 ?_;conv=>whnf)|refine Ok.seq ?_|refine OkL.cons ?_|((first|refine Ok.region tok ?_|refine Ok.cond ?_|refine Ok.exit ?_);conv=>whnf)|(refine bI ?_ ?_<;>intro<;>(conv=>whnf)<;>(try (exfalso;omega)))|(refine aJ ?_;conv=>whnf)|fail)
         refine⟨_,form_pan n n.toNat l hln hto htk (by omega),?_⟩
         (conv=>whnf)
         refine⟨rfl,2,3,_,_,rfl,rfl,rfl,rfl,rfl,rfl,by decide,rfl,?_⟩
         (conv=>whnf)
         refine Or.inl ?_;(conv=>whnf)
         exact⟨rfl,_,rfl,PSp.nil 0⟩
   . rw[meetO_raw hfp hraw]
     refine OkL.cons ?_
     refine Ok.region_pan tok 7 ?_
     (conv=>whnf)
     (try (conv=>whnf));repeat' (first|(refine nI ?_;conv=>whnf)|fail)
     refine⟨_,raw_pan (by rw[hmul];omega),?_⟩
     (conv=>whnf)
     refine⟨rfl,2,3,_,_,rfl,rfl,rfl,rfl,rfl,rfl,by decide,rfl,?_⟩
     (conv=>whnf)
     refine Or.inl ?_;(conv=>whnf)
     exact⟨rfl,_,rfl,PSp.nil 0⟩
 . rw[meetO_not hfp]
   (try (conv=>whnf));repeat' (first|refine Ok.seq ?_|refine OkL.cons ?_|((first|refine Ok.region tok ?_|refine Ok.cond ?_|refine Ok.skip ?_|refine Ok.ret ?_);conv=>whnf)|(refine Or.inl ?_;(conv=>whnf);(repeat (refine aI ?_;conv=>whnf));refine⟨_,hfit,rfl,?_⟩;conv=>whnf)|(refine bI ?_ ?_<;>intro<;>(conv=>whnf)<;>(try (exfalso;omega)))|fail)
   . refine Or.inl ?_;(conv=>whnf)
     exact⟨rfl,_,rfl,PSp.nil 0⟩
   . rename_i h
     exact absurd hfp h
end Go.Proofs.YtcglkonooeddfaaGreatDoor
namespace Go.Proofs.YtcglkonooeddfaaGreatDoor
open Go Go.Vx
theorem opt_some{o:Option Term}(h:o.isSome=true):o=some (o.getD ⟨[],[]⟩):=by
 cases o with
 | none=>cases h
 | some t=>rfl
theorem opt_none{o:Option Term}(h:¬ o.isSome=true):o=none:=by
 cases o with
 | none=>rfl
 | some t=>exact absurd rfl h
theorem newTerm1_at(p:Str)(lss:List LR){rl room:List (List D)}(hp:CN p)(hok:∀ x ∈ lss,∀ m ∈ x.l,CT m)(hn:(allL lss).length<=100000)(h1:lss.length<=100000)(h:rl=lss.map lrow) :
    FSpec Tryz.prog T 63 [.agg (crow p),.lst 133 rl room] (fun d rows=>∃ rm,d = .tup [.agg (trow ⟨(termT p (allL lss)).getD ⟨[],[]⟩,rm⟩),.b ((termT p (allL lss)).isSome=true)]/\rows=[]):=by
 refine FSpec.mono (newTerm_at p lss hp hok hn h1 h) ?_
 rintro d rows ⟨rfl,⟨ht,rfl⟩|⟨t,rm,ht,rfl⟩⟩
 . refine⟨[],?_,rfl⟩
   rw[ht]
   simp
 . refine⟨rm,?_,rfl⟩
   rw[ht]
   simp
noncomputable def wout1(a u:Term):Option Term:=termT a.p (a.less++[u.p])
noncomputable def wout2(a:Term)(m:Str):Option Term:=(meetT a.p m).bind fun p=>termT p a.less
noncomputable def wouts(ts:List Term)(u:Term):List Term:=ts.flatMap fun a=>(wout1 a u).toList++u.less.filterMap (wout2 a)
noncomputable def withoutO(n:Int)(ts:List Term)(u:Term):Int × Int × List Term:=if ts.length*(1+u.less.length)<=2048 then bndO n (formT (wouts ts u)) else (3,0,[])
theorem wout1_good{n:Nat}{a u t:Term}(ha:GoodT n a)(hu:GoodT n u)(h:wout1 a u=some t):GoodT n t:=
 (termT_good ha.p ha.len (fun m hm=>(mAp0.1 hm).elim (fun h=>(ha.less m h).1) (fun h=>by simp at h;rw[h];exact hu.p.1)) h).1
theorem wout2_good{n:Nat}{a t:Term}{m:Str}(ha:GoodT n a)(hm:CN m)(h:wout2 a m=some t):GoodT n t:=by
 unfold wout2 at h
 obtain⟨p,hp,ht⟩:=Option.bind_eq_some_iff.1 h
 have hc:=meetT_ct hp ha.p.1 hm.1
 exact (termT_good ⟨hc.1,fun e=>hc.2.2 (List.eq_nil_of_length_eq_zero (by rw[<- hc.2.1,e];rfl))⟩ (by rw[hc.2.1,ha.len]) (fun x hx=>(ha.less x hx).1) ht).1
theorem wouts_good{n:Nat}{ts:List Term}{u:Term}(h1:∀ t ∈ ts,GoodT n t)(h2:GoodT n u):∀ t ∈ wouts ts u,GoodT n t:=by
 intro t ht
 obtain⟨a,ha,h⟩:=List.mem_flatMap.1 ht
 rcases mAp0.1 h with h|h
 . exact wout1_good (h1 a ha) h2 (Option.mem_toList.1 h)
 . obtain⟨m,hm,h⟩:=List.mem_filterMap.1 h
   exact wout2_good (h1 a ha) (h2.less m hm) h
theorem wouts_less{ts:List Term}{u:Term}{k:Nat}(h1:∀ t ∈ ts,t.less.length<=k):∀ t ∈ wouts ts u,t.less.length<=k+1:=by
 intro t ht
 obtain⟨a,ha,h⟩:=List.mem_flatMap.1 ht
 rcases mAp0.1 h with h|h
 . have:=termT_sz (Option.mem_toList.1 h)
   have:=h1 a ha
   rw[List.length_append] at *
   simp at *
   omega
 . obtain⟨m,hm,h⟩:=List.mem_filterMap.1 h
   unfold wout2 at h
   obtain⟨p,hp,ht⟩:=Option.bind_eq_some_iff.1 h
   have:=termT_sz ht
   have:=h1 a ha
   omega
theorem wouts_snoc{ts:List Term}{u:Term}{i:Nat}{a:Term}(h:ts[i]? = some a):wouts (ts.take (i+1)) u=wouts (ts.take i) u++((wout1 a u).toList++u.less.filterMap (wout2 a)):=by
 unfold wouts
 rw[take_snoc h,List.flatMap_append]
 simp
theorem withoutO_ok{n:Int}{ts:List Term}{u:Term}(h:ts.length*(1+u.less.length)<=2048):withoutO n ts u=bndO n (formT (wouts ts u)):=if_pos h
theorem withoutO_raw{n:Int}{ts:List Term}{u:Term}(h:¬ ts.length*(1+u.less.length)<=2048):withoutO n ts u=(3,0,[]):=if_neg h
end Go.Proofs.YtcglkonooeddfaaGreatDoor
namespace Go.Proofs.YtcglkonooeddfaaGreatDoor
open Go Go.Vx
theorem without_at{n:Int}{ts:List Term}(hf:Fine n ts)(u:TR)(hu:GoodT n.toNat u.t)(hul:u.t.less.length<=127)(ks:List TR)(rm:List (List D))(h1:ks.map TR.t=ts) :
    FSpec Tryz.prog T 358 [.lst 142 (ks.map trow) rm,.agg (trow u)] (fun d rows=>∃ (l:List TR) (rm':List (List D)),d = .lst 142 (l.map trow) rm'/\rows=[]/\l.map TR.t=wouts ts u.t):=by
 have hl1:ks.length=ts.length:=by rw[<- h1,lMp0]
 have hm1:(ks.map trow).length=ts.length:=by simp[hl1]
 have hm2:(u.t.less.map crow).length=u.t.less.length:=by simp
 have hk1:=hf.len
 refine FSpec.of_ok tok Tryz.func358 rfl Tryz.call358 (by simp) ?_
 (try (conv=>whnf));repeat' (first|refine Ok.seq ?_|(refine Ok.region tok ?_;conv=>whnf)|refine Ok.block ?_|fail)
 refine Ok.ghost 5 142 rfl ?_
 (conv=>whnf)
 refine Ok.loopU [3,16,17] [5,18] 1 1 (fun (x:Nat × List TR)=>[.own 0 x.2.length,.i .i64 (x.1:Nat)]) (fun _ b=>b) (fun (x:Nat × List TR) (_:Vx.Rows)=>[some (142,x.2.map trow)]) (fun (x:Nat × List TR)=>x.1<=ts.length/\x.2.map TR.t=wouts (ts.take x.1) u.t/\x.2.length<=x.1*128) (fun (x:Nat × List TR)=>ts.length - x.1) ((0,[])) (⟨Nat.zero_le _,by simp[wouts],by simp⟩) ?_;(conv=>whnf);refine⟨by ((conv=>whnf);first|rfl|(simp[envCat,tkL0,crow,trow,srow,drow];done)|(simp[envCat,tkL0,crow,trow,srow,drow];rw[IntKind.wrap_i64];omega)),?_⟩
 rintro⟨i,l⟩ ⟨hi,hl,hll⟩
 dsimp only at hi hl hll ⊢
 have hlm:(l.map trow).length=l.length:=by simp
 (conv=>whnf)
 by_cases hil:i<ts.length
 . obtain⟨a,ha⟩:∃ a,ks[i]? = some a:=⟨_,gEt0 (by omega)⟩
   have haI:ks[((i:Nat):Int).toNat]? = some a:=ha
   have hat:=tr_get h1 ha
   have hag:=hf.good _ (mOf0 hat)
   have hal:=hf.less (mOf0 hat)
   have hal2:(a.t.less.map crow).length=a.t.less.length:=by simp
   have hsn:=wouts_snoc (u:=u.t) hat
   have hnew:∀ rl room,rl=List.map lrow [⟨a.t.less,a.room⟩,⟨[u.t.p],[]⟩]->FSpec Tryz.prog T 63 [.agg (crow a.t.p),.lst 133 rl room] (fun d rows=>∃ rm,d = .tup [.agg (trow ⟨(wout1 a.t u.t).getD ⟨[],[]⟩,rm⟩),.b ((wout1 a.t u.t).isSome=true)]/\rows=[]):=fun rl room h=>by
    have:=newTerm1_at a.t.p [⟨a.t.less,a.room⟩,⟨[u.t.p],[]⟩] (room:=room) hag.p (by
     intro x hx m hm
     simp at hx
     rcases hx with rfl|rfl
     . exact (hag.less m hm).1
     . simp at hm;rw[hm];exact hu.p.1) (by simp[allL];omega) (by simp) h
    rwa [show allL [⟨a.t.less,a.room⟩,⟨[u.t.p],[]⟩]=a.t.less++[u.t.p] by simp[allL]] at this
   have hwl:(wout1 a.t u.t).toList.length<=1:=by cases wout1 a.t u.t<;>simp
   (try (conv=>whnf));repeat' (first|(refine Ok.seqU (c1:=.seq (.region 5 _ _) _) [3,7,16,17,18] [5] 1 2 (fun x:List TR=>[.own 0 x.length]) (fun _ b=>b) (fun (x:List TR) (_:Vx.Rows)=>[some (142,x.map trow)]) (fun x=>x.map TR.t=wouts (ts.take i) u.t++(wout1 a.t u.t).toList/\x.length<=l.length+1) ?_;(conv=>whnf);refine And.intro ?_ ?_)|refine Ok.seq ?_|((first|refine Ok.region tok ?_|refine Ok.cond ?_);conv=>whnf)|refine Ok.block ?_|((first|refine Ok.skip ?_|refine ix _ (by assumption) ?_);conv=>whnf)|(refine Or.inr (Or.inl ?_);(conv=>whnf);(repeat (refine aI ?_;conv=>whnf));refine⟨_,hnew _ _ rfl , ?_⟩;rintro _ _ ⟨rm4,rfl,rfl⟩<;>(conv=>whnf))|((first|refine Alt2.l (aI ?_)|refine⟨_,.inl ⟨rfl,rfl⟩,?_⟩|refine⟨_,_,rfl,rfl,?_⟩);conv=>whnf)|(refine bI ?_ ?_<;>intro<;>(conv=>whnf)<;>(try (exfalso;omega)))|(refine aJ ?_;conv=>whnf)|fail)
   . rename_i h
     refine⟨l++[⟨(wout1 a.t u.t).getD ⟨[],[]⟩,rm4⟩],⟨?_,by simp⟩,?_⟩
     . rw[List.map_append,hl,opt_some h]
       rfl
     . (conv=>whnf)
       simp[envCat]
   . rename_i h
     refine⟨l,⟨?_,by omega⟩,?_⟩
     . rw[hl,opt_none h]
       simp
     . (conv=>whnf)
       rfl
   rintro l1 ⟨hl1e,hl1l⟩
   (conv=>whnf)
   (try (conv=>whnf));repeat' (first|refine Ok.seq ?_|(refine Ok.region tok ?_;conv=>whnf)|refine Ok.block ?_|fail)
   refine Ok.loopU [3,7,16,17,18,40,41] [5,42] 1 2 (fun (x:Nat × List TR)=>[.own 0 x.2.length,.i .i64 (x.1:Nat)]) (fun _ b=>b) (fun (x:Nat × List TR) (_:Vx.Rows)=>[some (142,x.2.map trow)]) (fun (x:Nat × List TR)=>x.1<=u.t.less.length/\x.2.map TR.t=wouts (ts.take i) u.t++((wout1 a.t u.t).toList++(u.t.less.take x.1).filterMap (wout2 a.t))/\x.2.length<=l.length+1+x.1) (fun (x:Nat × List TR)=>u.t.less.length - x.1) ((0,l1)) (⟨Nat.zero_le _,by simpa using hl1e,by simpa using hl1l⟩) ?_;(conv=>whnf);refine⟨by ((conv=>whnf);first|rfl|(simp[envCat,tkL0,crow,trow,srow,drow];done)|(simp[envCat,tkL0,crow,trow,srow,drow];rw[IntKind.wrap_i64];omega)),?_⟩
   rintro⟨j,l2⟩ ⟨hj,hl2e,hl2l⟩
   dsimp only at hj hl2e hl2l ⊢
   have hl2m:(l2.map trow).length=l2.length:=by simp
   (conv=>whnf)
   by_cases hjl:j<u.t.less.length
   . obtain⟨m,hm⟩:∃ m,u.t.less[j]? = some m:=⟨_,gEt0 hjl⟩
     have hmI:u.t.less[((j:Nat):Int).toNat]? = some m:=hm
     have hmc:=hu.less m (mOf0 hm)
     have hsp:=meet_at a.t.p m hag.p.1 hmc.1
     cases hmt:meetT a.t.p m with
     | none=>
      have hno:wout2 a.t m=none:=by unfold wout2;rw[hmt];rfl
      rw[hmt] at hsp
      (try (conv=>whnf));repeat' (first|refine Ok.seq ?_|((first|refine Ok.region tok ?_|refine Ok.cond ?_);conv=>whnf)|refine Ok.block ?_|((first|refine Ok.skip ?_|refine nI ?_|refine ix _ (by assumption) ?_);conv=>whnf)|(refine Or.inr (Or.inl ?_);(conv=>whnf);(repeat (refine aI ?_;conv=>whnf));refine⟨_,hsp,?_⟩;rintro _ _ ⟨rfl,rfl⟩<;>(conv=>whnf))|(refine bI ?_ ?_<;>intro<;>(conv=>whnf)<;>(try (exfalso;omega)))|fail)
      . rename_i h
        cases h
      . refine⟨(j+1,l2),by dsimp only;omega,⟨by dsimp only;omega,by dsimp only;rw[fm_none hm hno];exact hl2e,by dsimp only;omega⟩,?_⟩
        (conv=>whnf)
        rfl
     | some p=>
      have hpc:=meetT_ct hmt hag.p.1 hmc.1
      have hpn:p ≠ []:=fun e=>hpc.2.2 (List.eq_nil_of_length_eq_zero (by rw[<- hpc.2.1,e];rfl))
      have hm3:wout2 a.t m=termT p a.t.less:=by unfold wout2;rw[hmt];rfl
      rw[hmt] at hsp
      have hnew2:∀ room,FSpec Tryz.prog T 63 [.agg (crow p),.lst 133 (List.map lrow [⟨a.t.less,a.room⟩]) room] (fun d rows=>∃ rm,d = .tup [.agg (trow ⟨(termT p a.t.less).getD ⟨[],[]⟩,rm⟩),.b ((termT p a.t.less).isSome=true)]/\rows=[]):=fun room=>by
       have:=newTerm1_at p [⟨a.t.less,a.room⟩] (room:=room) ⟨hpc.1,hpn⟩ (by
        intro x hx m hm
        simp at hx
        subst hx
        exact (hag.less m hm).1) (by simp[allL];omega) (by simp) rfl
       rwa [show allL [⟨a.t.less,a.room⟩]=a.t.less by simp[allL]] at this
      (try (conv=>whnf));repeat' (first|refine Ok.seq ?_|((first|refine Ok.region tok ?_|refine Ok.cond ?_);conv=>whnf)|refine Ok.block ?_|((first|refine Ok.skip ?_|refine nI ?_|refine ix _ (by assumption) ?_);conv=>whnf)|(refine Or.inr (Or.inl ?_);(conv=>whnf);(repeat (refine aI ?_;conv=>whnf));refine⟨_,hsp,?_⟩;rintro _ _ ⟨rfl,rfl⟩<;>(conv=>whnf))|(refine Or.inr (Or.inl ?_);(conv=>whnf);(repeat (refine aI ?_;conv=>whnf));refine⟨_,hnew2 _ , ?_⟩;rintro _ _ ⟨rm5,rfl,rfl⟩<;>(conv=>whnf))|((first|refine Alt2.l (aI ?_)|refine⟨_,.inl ⟨rfl,rfl⟩,?_⟩|refine⟨_,_,rfl,rfl,?_⟩);conv=>whnf)|(refine bI ?_ ?_<;>intro<;>(conv=>whnf)<;>(try (exfalso;omega)))|(refine aJ ?_;conv=>whnf)|fail)
      . rename_i h
        refine⟨(j+1,l2++[⟨(termT p a.t.less).getD ⟨[],[]⟩,rm5⟩]),by dsimp only;omega,⟨by dsimp only;omega,?_,by simp;omega⟩,?_⟩
        . dsimp only
          rw[fm_some hm (hm3.trans (opt_some h)),List.map_append,hl2e]
          simp
        . (conv=>whnf)
          simp[envCat]
      . rename_i h
        refine⟨(j+1,l2),by dsimp only;omega,⟨by dsimp only;omega,by dsimp only;rw[fm_none hm (hm3.trans (opt_none h))];exact hl2e,by dsimp only;omega⟩,?_⟩
        (conv=>whnf)
        rfl
      . rename_i h
        exact absurd rfl h
   . have hje:j=u.t.less.length:=by omega
     subst hje
     rw[List.take_length] at hl2e
     (try (conv=>whnf));repeat' (first|refine Ok.seq ?_|((first|refine Ok.region tok ?_|refine Ok.cond ?_|refine Ok.exit ?_|refine nI ?_);conv=>whnf)|(refine bI ?_ ?_<;>intro<;>(conv=>whnf)<;>(try (exfalso;omega)))|fail)
     refine⟨(i+1,l2),by dsimp only;omega,⟨by dsimp only;omega,by dsimp only;rw[hsn];exact hl2e,by dsimp only;omega⟩,?_⟩
     (conv=>whnf)
     rfl
 . have hie:i=ts.length:=by omega
   subst hie
   rw[List.take_length] at hl
   (try (conv=>whnf));repeat' (first|refine Ok.seq ?_|((first|refine Ok.region tok ?_|refine Ok.cond ?_|refine Ok.exit ?_|refine Ok.ret ?_);conv=>whnf)|(refine bI ?_ ?_<;>intro<;>(conv=>whnf)<;>(try (exfalso;omega)))|fail)
   refine Or.inl ?_;(conv=>whnf)
   refine⟨l,[],?_,rfl,hl⟩
   rw[tkL0 (by simp),List.drop_of_length_le (by simp)]
   rfl
end Go.Proofs.YtcglkonooeddfaaGreatDoor
namespace Go.Proofs.YtcglkonooeddfaaGreatDoor
open Go Go.Vx
noncomputable def minusL(n:Int):List Term->List Term->Int × Int × List Term
 | ts,[]=>(0,n,ts)
 | ts,u :: us=>if (withoutO n ts u).1=0 then minusL n (withoutO n ts u).2.2 us else ((withoutO n ts u).1,0,[])
theorem withoutO_cases(n:Int)(ts:List Term)(u:Term):withoutO n ts u=(3,0,[])\/(withoutO n ts u=(0,n,formT (wouts ts u))/\szT (formT (wouts ts u))<=128/\ts.length*(1+u.less.length)<=2048):=by
 by_cases h:ts.length*(1+u.less.length)<=2048
 . rw[withoutO_ok h]
   by_cases h2:szT (formT (wouts ts u))<=128
   . rw[bndO_le h2];exact .inr ⟨rfl,h2,h⟩
   . rw[bndO_gt (by omega)];exact .inl rfl
 . rw[withoutO_raw h];exact .inl rfl
theorem minusL_stop{n:Int}{ts us:List Term}{u:Term}(h:withoutO n ts u=(3,0,[])):minusL n ts (u :: us)=(3,0,[]):=by
 unfold minusL
 rw[h,if_neg (by decide)]
theorem minusL_go{n:Int}{ts us l:List Term}{u:Term}(h:withoutO n ts u=(0,n,l)):minusL n ts (u :: us)=minusL n l us:=by
 conv=>lhs;unfold minusL
 rw[h,if_pos rfl]
theorem minusL_fine{n:Int}:∀ {us ts:List Term},Fine n ts->(∀ u ∈ us,GoodT n.toNat u)->Fine (minusL n ts us).2.1 (minusL n ts us).2.2
 | [],ts,hf,_=>hf
 | u :: us,ts,hf,hg=>by
  rcases withoutO_cases n ts u with h|⟨h,hs,_⟩
  . rw[minusL_stop h];exact .nil (by decide) (by decide)
  . rw[minusL_go h]
    exact minusL_fine (.form hf.n0 hf.n1 (wouts_good hf.good (hg u (by simp))) hs) fun x hx=>hg x (by simp[hx])
open Classical in
noncomputable def minusO(n m:Int)(ts us:List Term):Int × Int × List Term:=if fitP n m then minusL n ts us else (11,0,[])
theorem minusO_fit{n m:Int}{ts us:List Term}(h:fitP n m):minusO n m ts us=minusL n ts us:=if_pos h
theorem minusO_not{n m:Int}{ts us:List Term}(h:¬ fitP n m):minusO n m ts us=(11,0,[]):=if_neg h
theorem minusO_fine{n m:Int}{ts us:List Term}(hf:Fine n ts)(hg:Fine m us):Fine (minusO n m ts us).2.1 (minusO n m ts us).2.2:=by
 by_cases h:fitP n m
 . rw[minusO_fit h]
   obtain⟨rfl,_⟩:=h
   exact minusL_fine hf hg.good
 . rw[minusO_not h];exact .nil (by decide) (by decide)
theorem wouts_len(ts:List Term)(u:Term):(wouts ts u).length<=ts.length*(1+u.less.length):=by
 induction ts with
 | nil=>simp[wouts]
 | cons a ts ih=>
  unfold wouts at *
  rw[List.flatMap_cons,List.length_append,List.length_append,List.length_cons,Nat.add_mul]
  have h1:(wout1 a u).toList.length<=1:=by cases wout1 a u<;>simp
  have h2:=List.length_filterMap_le (wout2 a) u.less
  omega
theorem drop_get{α:Type}{l:List α}{i:Nat}{x:α}(h:l[i]? = some x):l.drop i=x :: l.drop (i+1):=by
 obtain⟨hl,e⟩:=gSm0.1 h
 rw[List.drop_eq_getElem_cons hl,e]
theorem minus_at{n m:Int}{ts us:List Term}(hf:Fine n ts)(hg:Fine m us)(ks ks2:List TR)(rm rm2:List (List D))(h1:ks.map TR.t=ts)(h2:ks2.map TR.t=us) :
    FSpec Tryz.prog T 353 [.agg [.i .i64 n,.lst 142 (ks.map trow) rm],.agg [.i .i64 m,.lst 142 (ks2.map trow) rm2]] (POut (minusO n m ts us)):=by
 have hfit:=fits2_at n m
 have hl2:ks2.length=us.length:=by rw[<- h2,lMp0]
 have hm2:(ks2.map trow).length=us.length:=by simp[hl2]
 have hk2:=hg.len
 refine FSpec.of_deferK 3 tok Tryz.func353 rfl Tryz.call353 (by simp) def_minus (zd1:=[.i .i64 0,.nilS]) (zd2:=[.i .i64 3]) rfl rfl (by simp[Value.oneCell']) (by simp[Value.oneCell']) rfl ?_
 by_cases hfp:fitP n m
 . have hnm:=hfp.1
   subst hnm
   rw[minusO_fit hfp]
   (try (conv=>whnf));repeat' (first|refine Ok.seq ?_|refine OkL.cons ?_|((first|refine Ok.region tok ?_|refine Ok.cond ?_|refine Ok.skip ?_|refine Ok.ret ?_);conv=>whnf)|(refine Or.inl ?_;(conv=>whnf);(repeat (refine aI ?_;conv=>whnf));refine⟨_,hfit,rfl,?_⟩;conv=>whnf)|(refine bI ?_ ?_<;>intro<;>(conv=>whnf)<;>(try (exfalso;omega)))|fail)
   . exact absurd hfp (by assumption)
   refine OkL.nil ?_
   (conv=>whnf)
   refine⟨2,3,rfl,rfl,by decide,by decide,by decide,rfl,?_⟩
   (try (conv=>whnf));repeat' (first|refine OkL.cons ?_|(refine Ok.region tok ?_;conv=>whnf)|refine Ok.block ?_|fail)
   refine Ok.loopU [2,4,5,17,18,41,42] [19] 0 4 (fun (x:Nat × List TR × List (List D))=>[.i .i64 (x.1:Nat)]) (fun (x:Nat × List TR × List (List D)) (_:List (List D))=>[[.i .i64 n,.lst 142 (x.2.1.map trow) x.2.2],[.i .i64 n,.lst 142 (ks2.map trow) rm2],[.i .i64 0,.nilS],[.i .i64 0]]) (fun _ r=>r) (fun (x:Nat × List TR × List (List D))=>x.1<=us.length/\Fine n (x.2.1.map TR.t)/\minusL n ts us=minusL n (x.2.1.map TR.t) (us.drop x.1)) (fun (x:Nat × List TR × List (List D))=>us.length - x.1) ((0,ks,rm)) (⟨Nat.zero_le _,by rw[h1];exact hf,by rw[h1];rfl⟩) ?_;(conv=>whnf);refine⟨by ((conv=>whnf);first|rfl|(simp[envCat,tkL0,crow,trow,srow,drow];done)|(simp[envCat,tkL0,crow,trow,srow,drow];rw[IntKind.wrap_i64];omega)),?_⟩
   rintro⟨i,kr,rr⟩ ⟨hi,hfr,hml⟩
   dsimp only at hi hfr hml ⊢
   have hkr:(kr.map trow).length=(kr.map TR.t).length:=by simp
   have hkl:=hfr.len
   (conv=>whnf)
   by_cases hil:i<us.length
   . obtain⟨u,hu⟩:∃ u,ks2[i]? = some u:=⟨_,gEt0 (by omega)⟩
     have huI:ks2[((i:Nat):Int).toNat]? = some u:=hu
     have hut:=tr_get h2 hu
     have hug:=hg.good _ (mOf0 hut)
     have hul:=hg.less (mOf0 hut)
     have hul2:(u.t.less.map crow).length=u.t.less.length:=by simp
     have hmul:((kr.map trow).length:Int)*(1+((u.t.less.map crow).length:Int))=(((kr.map TR.t).length*(1+u.t.less.length):Nat):Int):=by rw[hkr,hul2];simp
     have hmb:(kr.map TR.t).length*(1+u.t.less.length)<=128*128:=Nat.mul_le_mul hkl (by omega)
     have hsp:=without_at hfr u hug hul kr rr rfl
     have hwg:=wouts_good hfr.good hug
     have hwl:=wouts_less (u:=u.t) (fun t ht=>hfr.less (t:=t) ht)
     have hto:∀ l:List TR,l.map TR.t=wouts (kr.map TR.t) u.t->∀ x ∈ l,TO n.toNat x:=fun l e x hx=>(hwg _ (mem_of_map e hx)).to (Nat.le_trans (hwl _ (mem_of_map e hx)) (by decide))
     have hln:∀ l:List TR,l.map TR.t=wouts (kr.map TR.t) u.t->l.length<=1048576:=fun l e=>by
      have h1:=wouts_len (kr.map TR.t) u.t
      rw[<- e] at h1
      rw[lMp0] at h1
      omega
     rw[drop_get hut] at hml
     by_cases hraw:(kr.map TR.t).length*(1+u.t.less.length)<=2048
     . by_cases hsz:szT (formT (wouts (kr.map TR.t) u.t))<=128
       . have hw:withoutO n (kr.map TR.t) u.t=(0,n,formT (wouts (kr.map TR.t) u.t)):=by rw[withoutO_ok hraw,bndO_le hsz]
         rw[minusL_go hw] at hml
         (try (conv=>whnf));repeat' (first|refine Ok.seq ?_|((first|refine Ok.region tok ?_|refine Ok.region_plan (id:=8) tok follows [(3,5,[]),(4,5,[]),(1,6,[]),(3,6,[5]),(4,6,[5]),(5,6,[]),(1,7,[]),(3,7,[]),(4,7,[]),(5,7,[]),(6,7,[])] [.q 0,.q 1,.q 2,.q 3,.q 4,.l 5,.l 6,.l 7] (by kernel_rfl) ?_|refine Ok.cond ?_);conv=>whnf)|refine Ok.block ?_|((first|refine Ok.skip ?_|refine nI ?_|refine ix _ (by assumption) ?_);conv=>whnf)|(refine Or.inl ?_;(conv=>whnf);(repeat (refine aI ?_;conv=>whnf));refine⟨_,raw_at (n:=((kr.map trow).length:Int)*(1+((u.t.less.map crow).length:Int))) (by rw[hmul];omega),rfl,?_⟩;conv=>whnf)|(refine Or.inr (Or.inl ?_);(conv=>whnf);(repeat (refine aI ?_;conv=>whnf));refine⟨_,hsp , ?_⟩;rintro _ _ ⟨l,rm3,rfl,rfl,hl⟩<;>(conv=>whnf))|(refine Or.inr (Or.inl ?_);(conv=>whnf);(repeat (refine aI ?_;conv=>whnf));refine⟨_,form_at n n.toNat l (hln l hl) (hto l hl) rfl (by rw[hl];exact hsz) , ?_⟩;rintro _ _ ⟨ks3,rm4,rfl,rfl,hks3,hkm⟩<;>(conv=>whnf))|(refine bI ?_ ?_<;>intro<;>(conv=>whnf)<;>(try (exfalso;omega)))|fail)
         refine⟨(i+1,ks3,rm4),by dsimp only;omega,⟨by dsimp only;omega,by dsimp only;rw[hks3,hl];exact .form hfr.n0 hfr.n1 hwg hsz,by dsimp only;rw[hks3,hl];exact hml⟩,?_⟩
         (conv=>whnf)
         rfl
       . have hw:withoutO n (kr.map TR.t) u.t=(3,0,[]):=by rw[withoutO_ok hraw,bndO_gt (by omega)]
         rw[minusL_stop hw] at hml
         rw[hml]
         (try (conv=>whnf));repeat' (first|refine Ok.seq ?_|((first|refine Ok.region tok ?_|refine Ok.cond ?_);conv=>whnf)|refine Ok.block ?_|((first|refine Ok.skip ?_|refine nI ?_|refine ix _ (by assumption) ?_);conv=>whnf)|(refine Or.inl ?_;(conv=>whnf);(repeat (refine aI ?_;conv=>whnf));refine⟨_,raw_at (n:=((kr.map trow).length:Int)*(1+((u.t.less.map crow).length:Int))) (by rw[hmul];omega),rfl,?_⟩;conv=>whnf)|(refine bI ?_ ?_<;>intro<;>(conv=>whnf)<;>(try (exfalso;omega)))|fail)
         refine Ok.region_planpanS tok follows [(3,5,[]),(4,5,[])] [.q 0,.q 1,.q 2,.q 3,.q 4,.l 5] 6 (by kernel_rfl) ?_;(conv=>whnf)
         (try (conv=>whnf));repeat' (first|(refine Or.inr (Or.inl ?_);(conv=>whnf);(repeat (refine aI ?_;conv=>whnf));refine⟨_,hsp , ?_⟩;rintro _ _ ⟨l,rm3,rfl,rfl,hl⟩<;>(conv=>whnf))|fail)
         refine⟨_,form_pan n n.toNat l (hln l hl) (hto l hl) rfl (by rw[hl];omega),?_⟩
         (conv=>whnf)
         refine⟨rfl,2,3,_,_,rfl,rfl,rfl,rfl,rfl,rfl,by decide,rfl,?_⟩
         (conv=>whnf)
         refine Or.inl ?_;(conv=>whnf)
         exact⟨rfl,_,rfl,PSp.nil 0⟩
     . have hw:withoutO n (kr.map TR.t) u.t=(3,0,[]):=withoutO_raw hraw
       rw[minusL_stop hw] at hml
       rw[hml]
       (try (conv=>whnf));repeat' (first|(refine Ok.region_pan (id:=7) tok 8 ?_;conv=>whnf)|refine Ok.seq ?_|((first|refine Ok.region tok ?_|refine Ok.cond ?_);conv=>whnf)|refine Ok.block ?_|((first|refine Ok.skip ?_|refine nI ?_|refine ix _ (by assumption) ?_);conv=>whnf)|(refine bI ?_ ?_<;>intro<;>(conv=>whnf)<;>(try (exfalso;omega)))|fail)
       refine⟨_,raw_pan (by rw[hmul];omega),?_⟩
       (conv=>whnf)
       refine⟨rfl,2,3,_,_,rfl,rfl,rfl,rfl,rfl,rfl,by decide,rfl,?_⟩
       (conv=>whnf)
       refine Or.inl ?_;(conv=>whnf)
       exact⟨rfl,_,rfl,PSp.nil 0⟩
   . have hie:i=us.length:=by omega
     subst hie
     rw[List.drop_length] at hml
     rw[hml]
     (try (conv=>whnf));repeat' (first|refine Ok.seq ?_|refine OkL.cons ?_|((first|refine Ok.region tok ?_|refine Ok.cond ?_|refine Ok.exit ?_|refine Ok.ret ?_);conv=>whnf)|(refine bI ?_ ?_<;>intro<;>(conv=>whnf)<;>(try (exfalso;omega)))|fail)
     refine Or.inl ?_;(conv=>whnf)
     exact⟨rfl,_,rfl,kr,rr,rfl,rfl⟩
 . rw[minusO_not hfp]
   (try (conv=>whnf));repeat' (first|refine Ok.seq ?_|refine OkL.cons ?_|((first|refine Ok.region tok ?_|refine Ok.cond ?_|refine Ok.skip ?_|refine Ok.ret ?_);conv=>whnf)|(refine Or.inl ?_;(conv=>whnf);(repeat (refine aI ?_;conv=>whnf));refine⟨_,hfit,rfl,?_⟩;conv=>whnf)|(refine bI ?_ ?_<;>intro<;>(conv=>whnf)<;>(try (exfalso;omega)))|fail)
   . refine Or.inl ?_;(conv=>whnf)
     exact⟨rfl,_,rfl,PSp.nil 0⟩
   . rename_i h
     exact absurd hfp h
end Go.Proofs.YtcglkonooeddfaaGreatDoor
namespace Go.Proofs.YtcglkonooeddfaaGreatDoor
open Go Go.Vx
section
variable {α : Type} {R L : α → α → Prop} {r b : α → α → Bool}
def addB(r:α->α->Bool)(k:List α)(x:α):List α:=if k.any (r x)=true then k else k.filter (fun y=>!r y x)++[x]
def grB(r:α->α->Bool)(l:List α):List α:=l.foldl (addB r) []
def insB(b:α->α->Bool)(c:α):List α->List α
 | []=>[c]
 | x :: q=>if b c x=true then c :: x :: q else x :: insB b c q
def srtB(b:α->α->Bool)(l:List α):List α:=l.foldl (fun acc x=>insB b x acc) []
theorem filt_eq(h:∀ x y,R x y ↔ r x y=true)(k:List α)(x:α)[∀ y,Decidable (¬ R y x)]:k.filter (fun y=>decide (¬ R y x))=k.filter (fun y=>!r y x):=by
 refine List.filter_congr fun y _=>?_
 cases hr:r y x with
 | true=>simp[(h y x).2 hr]
 | false=>
  have hn:¬ R y x:=fun e=>by rw[(h y x).1 e] at hr;cases hr
  simp[hn]
theorem any_eq(h:∀ x y,R x y ↔ r x y=true)(k:List α)(x:α):(∃ y ∈ k,R x y) ↔ k.any (r x)=true:=by simp[h]
theorem addG_eq(h:∀ x y,R x y ↔ r x y=true)(k:List α)(x:α):addG R k x=addB r k x:=by
 unfold addG addB
 by_cases hk:k.any (r x)=true
 . rw[if_pos ((any_eq h k x).2 hk),if_pos hk]
 . rw[if_neg (fun e=>hk ((any_eq h k x).1 e)),if_neg hk,filt_eq h]
theorem grG_eq(h:∀ x y,R x y ↔ r x y=true)(l:List α):grG R l=grB r l:=by
 have e:addG R=addB r:=by funext k x;exact addG_eq h k x
 unfold grG grB
 rw[e]
theorem insG_eq(h:∀ x y,L x y ↔ b x y=true)(c:α):∀ l:List α,insG L c l=insB b c l
 | []=>rfl
 | x :: q=>by
  unfold insG insB
  by_cases hk:b c x=true
  . rw[if_pos ((h c x).2 hk),if_pos hk]
  . rw[if_neg (fun e=>hk ((h c x).1 e)),if_neg hk,insG_eq h c q]
theorem srt_eq(h:∀ x y,L x y ↔ b x y=true)(l:List α):srt L l=srtB b l:=by
 unfold srt srtB
 congr 1
 funext acc x
 exact insG_eq h x acc
end
def inB:Str->Str->Bool
 | [],[]=>true
 | a :: c,b :: d=>(b == 120 || b == a) && inB c d
 | _,_=>false
theorem inL_b:∀ c d:Str,inL c d ↔ inB c d=true
 | [],[]=>by simp[inL,inB]
 | [],_ :: _=>by simp[inL,inB]
 | _ :: _,[]=>by simp[inL,inB]
 | a :: c,b :: d=>by simp[inL,inB,inL_b c d]
def inTB(c d:Str):Bool:=!c.isEmpty && inB c d
theorem inT_b(c d:Str):inT c d ↔ inTB c d=true:=by
 unfold inT inTB
 rw[inL_b]
 cases c<;>simp
def covB(t u:Term):Bool:=inTB t.p u.p && u.less.all fun m=>match meetT m t.p with|none=>true|some c=>t.less.any fun n=>inTB c n
theorem covT_b(t u:Term):covT t u ↔ covB t u=true:=by
 unfold covT covB
 rw[inT_b,Bool.and_eq_true,List.all_eq_true]
 refine and_congr_right fun _=>forall_congr' fun m=>forall_congr' fun _=>?_
 cases meetT m t.p with
 | none=>simp
 | some c=>simp[inT_b]
def lexB:List Str->List Str->Bool
 | _,[]=>false
 | [],_ :: _=>true
 | x :: a,y :: b=>Op.bytesLess x y || (x == y && lexB a b)
theorem lexL_b:∀ a b:List Str,lexL a b ↔ lexB a b=true
 | a,[]=>by cases a<;>simp[lexL,lexB]
 | [],_ :: _=>by simp[lexL,lexB]
 | x :: a,y :: b=>by simp[lexL,lexB,lexL_b a b]
def formB(l:List Term):List Term:=srtB (fun t u=>lexB (t.p :: t.less) (u.p :: u.less)) (grB covB l)
theorem formT_b(l:List Term):formT l=formB l:=by
 unfold formT formB
 rw[grG_eq covT_b]
 exact srt_eq (L:=aheadT) (b:=fun t u=>lexB (t.p :: t.less) (u.p :: u.less)) (fun t u=>lexL_b _ _) _
instance (n:Int) (w:Str):Decidable (OkW n w):=decidable_of_iff ((w.length:Int)=n/\(w.length<=256/\∀ b ∈ w,b=48\/b=49\/b=120)/\w ≠ []) ⟨fun h=>⟨h.1,⟨h.2.1.1,h.2.1.2⟩,h.2.2⟩,fun h=>⟨h.1,⟨h.2.1.1,h.2.1.2⟩,h.2.2⟩⟩
instance (n:Int) (ms:List (List Str)):Decidable (OkP n ms):=inferInstanceAs (Decidable (∀ m ∈ ms,∀ w ∈ m,OkW n w))
theorem sptext_at{n:Int}{ts:List Term}(hf:Fine n ts)(ks:List TR)(rm:List (List D))(h1:ks.map TR.t=ts):FSpec Tryz.prog T 57 [.agg [.i .i64 n,.lst 142 (ks.map trow) rm]] (fun d _=>d = .s (textS ts)):=by
 have h:=text2_at n.toNat ks (room:=rm) (hf.sp h1) rfl
 rw[hf.cast,h1] at h
 exact h
end Go.Proofs.YtcglkonooeddfaaGreatDoor
namespace Go.Proofs.YtcglkonooeddfaaGreatDoor
open Go Go.Vx Go.RowKit
theorem idle_of(p q:Addr)(w:World):CallsD Tryz.prog 345 #[.pointer (some p),.pointer (some q)] .returning w fun e u' w'=>e = .returned (.tuple #[])/\u' = .returning/\Ext w w':=by
 refine callsD_of_wpS Tryz.func345 rfl fun c₀ cs hu=>?_
 apply wpS_seq
 apply wpS_region
 simp[wpOpsS,go_sem,recoverD,hu,Tryz.ntmps345,Exit.thenS]
 refine (ours_nil w).mono ?_
 rintro e w' ⟨rfl,rfl⟩
 refine wpS_cond (t:=false) (by simp[Act.eval,Act.put,Array.replicate]) ?_
 simp only[Bool.false_eq_true,if_false]
 refine wpS_of_wp (wp_skip ?_)
 cases c₀
 simp_all[bodyPostS,results,Tryz.results345]
 exact Ext.refl _
theorem caught_of(p q:Addr)(w:World){R:Ending->FrameMode->World->Prop}(h:∀ w1,Ext w w1->∃ w2,(storeCells p [.int .i64 0,.slice none 0 0]).run Tryz.prog w1 = .ok () w2/\∃ w3,(storeCells q [.int .i64 3]).run Tryz.prog w2 = .ok () w3)
    (hR:∀ w1 w2 w3,Ext w w1->(storeCells p [.int .i64 0,.slice none 0 0]).run Tryz.prog w1 = .ok () w2->(storeCells q [.int .i64 3]).run Tryz.prog w2 = .ok () w3->R (.returned (.tuple #[])) (.panicking [{ v:=.iface 196 (.agg #[]),recovered:=true }]) w3) :
    CallsD Tryz.prog 345 #[.pointer (some p),.pointer (some q)] (.panicking [{ v:=.iface 196 (.agg #[]),recovered:=false }]) w R:=by
 refine callsD_of_wpS Tryz.func345 rfl fun c₀ cs hu=>?_
 apply wpS_seq
 apply wpS_region
 simp[wpOpsS,go_sem,recoverD,hu,Tryz.ntmps345,Exit.thenS]
 refine (ours_passed w).mono ?_
 rintro e w1 ⟨rfl,hx⟩
 obtain⟨w2,h1,w3,h2⟩:=h w1 hx
 have hr:=hR w1 w2 w3 hx h1 h2
 refine wpS_cond (t:=true) (by simp[Act.eval,Act.put,Array.replicate]) ?_
 simp only[if_true]
 refine wpS_of_wp ?_
 refine wp_region_lit ?_
 unfold wpList
 rw[if_pos (by simp[Region.wanted])]
 left
 unfold Oper.wp
 rw[run_build2]
 show wpList _ _ _ [_,_] (Act.put _ (some 4) _) w1
 unfold wpList
 rw[if_pos (by simp[Region.wanted])]
 left
 unfold Oper.wp
 rw[run_store2 (p:=p) (z:=[.int .i64 0,.slice none 0 0]) (fun w=>by kernel_rfl) (by simp[Act.eval,Act.put,Array.replicate]) (by simp[Act.eval,Act.put,Array.replicate,Value.cells]) h1]
 show wpList _ _ _ [_] _ w2
 unfold wpList
 rw[if_pos (by simp[Region.wanted])]
 left
 unfold Oper.wp
 rw[run_store2 (p:=q) (z:=[.int .i64 3]) (fun w=>by kernel_rfl) (by simp[Act.eval,Act.put,Array.replicate]) (by simp[Act.eval,Value.cells]) h2]
 show bodyPostS _ _ _ _ _ .normal _ _ w3
 cases c₀
 simp_all[bodyPostS,results,Tryz.results345]
 try exact rfl
theorem def_of:DefSpec Tryz.prog 345 (.iface 196 (.agg #[])) [.int .i64 0,.slice none 0 0] [.int .i64 3]:=
 ⟨Tryz.call345,idle_of,fun p q w h=>caught_of p q w h fun _ _ _ hx h1 h2=>⟨rfl,rfl,_,_,hx,h1,h2⟩⟩
def allC(n:Int):Str:=if n<1\/256<n then [] else List.replicate n.toNat 120
theorem rep_bits(n:Nat)(i:Nat):car (List.replicate n 120) i=false/\one (List.replicate n 120) i=false:=by
 by_cases h:i<n
 . have e:(List.replicate n (120:UInt8))[i]? = some 120:=by simp[List.getElem?_replicate,h]
   rw[(at_b e).1,(at_b e).2]
   exact⟨rfl,rfl⟩
 . exact at_out (by simp;omega)
theorem wof_none{f:Nat->Bool}(h:∀ i,f i=false)(k:Nat):wof f k=0#64:=BitVec.eq_of_getLsbD_eq fun i hi=>by rw[wof_get _ _ _ hi,h];simp
theorem crow_rep(n:Nat):crow (List.replicate n 120)=[.i .i64 n,.i .u64 0,.i .u64 0,.i .u64 0,.i .u64 0,.i .u64 0,.i .u64 0,.i .u64 0,.i .u64 0]:=by
 have h1:=wof_none (fun i=>(rep_bits n i).1)
 have h2:=wof_none (fun i=>(rep_bits n i).2)
 simp only[crow,cells9,h1,h2,List.length_replicate]
 rfl
theorem all_at(n:Int):FSpec Tryz.prog T 283 [.i .i64 n] (fun d rows=>d = .agg (crow (allC n))/\rows=[]):=by
 refine FSpec.of_ok tok Tryz.func283 rfl Tryz.call283 (by simp) ?_
 (try (conv=>whnf));repeat' (first|refine Ok.seq ?_|((first|refine Ok.region tok ?_|refine Ok.cond ?_|refine Ok.skip ?_|refine Ok.ret ?_);conv=>whnf)|(refine bI ?_ ?_<;>intro<;>(conv=>whnf)<;>(try (exfalso;omega)))|fail)
 all_goals
  refine Or.inl ?_;(conv=>whnf)
  refine⟨?_,rfl⟩
  unfold allC
  first
   | (rw[if_pos (by omega),crow_nil];rfl)
   | (rw[if_neg (by omega),crow_rep,Int.toNat_of_nonneg (by omega)];rfl)
open Classical in
noncomputable def ofO(c:Str)(less:List Str):Int × Int × List Term:=
 if 2048<less.length then (2,0,[]) else if (∃ m ∈ less,m.length ≠ c.length)\/c=[] then (11,0,[]) else match termT c less with
  | none=>(0,(c.length:Int),[])
  | some t=>bndO c.length (formT [t])
theorem ofO_long{c:Str}{less:List Str}(h:2048<less.length):ofO c less=(2,0,[]):=by unfold ofO;rw[if_pos h]
theorem ofO_wide{c:Str}{less:List Str}(h:¬ 2048<less.length)(h2:(∃ m ∈ less,m.length ≠ c.length)\/c=[]):ofO c less=(11,0,[]):=by unfold ofO;rw[if_neg h,if_pos h2]
theorem ofO_none{c:Str}{less:List Str}(h:¬ 2048<less.length)(h2:¬ ((∃ m ∈ less,m.length ≠ c.length)\/c=[]))(h3:termT c less=none):ofO c less=(0,(c.length:Int),[]):=by unfold ofO;rw[if_neg h,if_neg h2,h3]
theorem ofO_some{c:Str}{less:List Str}{t:Term}(h:¬ 2048<less.length)(h2:¬ ((∃ m ∈ less,m.length ≠ c.length)\/c=[]))(h3:termT c less=some t):ofO c less=bndO c.length (formT [t]):=by unfold ofO;rw[if_neg h,if_neg h2,h3]
theorem ofO_fine{c:Str}{less:List Str}(hc:CT c)(hl:∀ m ∈ less,CT m):Fine (ofO c less).2.1 (ofO c less).2.2:=by
 by_cases h:2048<less.length
 . rw[ofO_long h];exact Fine.nil (n:=0) (by decide) (by decide)
 by_cases h2:(∃ m ∈ less,m.length ≠ c.length)\/c=[]
 . rw[ofO_wide h h2];exact Fine.nil (n:=0) (by decide) (by decide)
 have hcn:CN c:=⟨hc,fun e=>h2 (.inr e)⟩
 have:=hc.len
 cases ht:termT c less with
 | none=>rw[ofO_none h h2 ht];exact Fine.nil (n:=(c.length:Int)) (by omega) (by omega)
 | some t=>
  rw[ofO_some h h2 ht]
  exact bndO_fine (n:=(c.length:Int)) (by omega) (by omega) (fun x hx=>by
   simp at hx
   subst hx
   exact (termT_good hcn (by simp) hl ht).1)
theorem of_at(c:Str)(less:List Str)(room:List (List D))(hc:CT c)(hl:∀ m ∈ less,CT m) :
    FSpec Tryz.prog T 344 [.agg (crow c),.lst 138 (less.map crow) room] (POut (ofO c less)):=by
 have htx:=text_at c hc
 have hlm:(less.map crow).length=less.length:=by simp
 have hcl:=hc.len
 refine FSpec.of_deferK 8 tok Tryz.func344 rfl Tryz.call344 (by simp) def_of (zd1:=[.i .i64 0,.nilS]) (zd2:=[.i .i64 3]) rfl rfl (by simp[Value.oneCell']) (by simp[Value.oneCell']) rfl ?_
 by_cases hlong:2048<less.length
 . rw[ofO_long hlong]
   (try (conv=>whnf));repeat' (first|refine Ok.seq ?_|refine OkL.cons ?_|((first|refine Ok.region tok ?_|refine Ok.cond ?_|refine Ok.ret ?_);conv=>whnf)|(refine bI ?_ ?_<;>intro<;>(conv=>whnf)<;>(try (exfalso;omega)))|fail)
   all_goals first
    | (exfalso;omega)
    | (refine Or.inl ?_;(conv=>whnf)
       exact⟨rfl,_,rfl,PSp.nil 0⟩)
 (try (conv=>whnf));repeat' (first|refine OkL.cons ?_|((first|refine Ok.region tok ?_|refine Ok.cond ?_);conv=>whnf)|refine Ok.block ?_|(refine Ok.skip ?_;conv=>whnf)|(refine Or.inl ?_;(conv=>whnf);(repeat (refine aI ?_;conv=>whnf));refine⟨_,htx,rfl,?_⟩;conv=>whnf)|(refine bI ?_ ?_<;>intro<;>(conv=>whnf)<;>(try (exfalso;omega)))|fail)
 all_goals first
  | (exfalso;omega)
  | skip
 refine Ok.loopU [1,2,4,5,6,18,19] [20] 0 3 (fun (i:Nat)=>[.i .i64 (i:Nat)]) (fun (i:Nat) (_:List (List D))=>[crow c,[.i .i64 0,.nilS],[.i .i64 0]]) (fun _ r=>r) (fun (i:Nat)=>i<=less.length/\∀ m ∈ less.take i,m.length=c.length) (fun (i:Nat)=>less.length - i) (0) (⟨Nat.zero_le _,by simp⟩) ?_;(conv=>whnf);refine⟨by ((conv=>whnf);first|rfl|(simp[envCat,tkL0,crow,trow,srow,drow];done)|(simp[envCat,tkL0,crow,trow,srow,drow];rw[IntKind.wrap_i64];omega)),?_⟩
 rintro i ⟨hi,hw⟩
 (conv=>whnf)
 by_cases hil:i<less.length
 . obtain⟨m,hm⟩:∃ m,less[i]? = some m:=⟨_,gEt0 hil⟩
   have hmI:less[((i:Nat):Int).toNat]? = some m:=hm
   have hmc:=hl m (mOf0 hm)
   have hmx:=text_at m hmc
   by_cases hml:m.length=c.length
   . (try (conv=>whnf));repeat' (first|refine Ok.seq ?_|((first|refine Ok.region tok ?_|refine Ok.cond ?_);conv=>whnf)|refine Ok.block ?_|((first|refine Ok.skip ?_|refine nI ?_|refine ix _ (by assumption) ?_);conv=>whnf)|(refine Or.inl ?_;(conv=>whnf);(repeat (refine aI ?_;conv=>whnf));refine⟨_,hmx,rfl,?_⟩;conv=>whnf)|(refine bI ?_ ?_<;>intro<;>(conv=>whnf)<;>(try (exfalso;omega)))|fail)
     all_goals first
      | (exfalso;omega)
      | (refine⟨i+1,by omega,⟨by omega,fun x hx=>by
          rw[take_snoc hm] at hx
          rcases mAp0.1 hx with hx|hx
          . exact hw x hx
          . simp at hx;rw[hx];exact hml⟩,?_⟩
         (conv=>whnf)
         rfl)
   . rw[ofO_wide hlong (.inl ⟨m,mOf0 hm,hml⟩)]
     (try (conv=>whnf));repeat' (first|refine Ok.seq ?_|((first|refine Ok.region tok ?_|refine Ok.cond ?_);conv=>whnf)|refine Ok.block ?_|((first|refine Ok.skip ?_|refine Ok.ret ?_|refine ix _ (by assumption) ?_);conv=>whnf)|(refine Or.inl ?_;(conv=>whnf);(repeat (refine aI ?_;conv=>whnf));refine⟨_,hmx,rfl,?_⟩;conv=>whnf)|(refine bI ?_ ?_<;>intro<;>(conv=>whnf)<;>(try (exfalso;omega)))|fail)
     all_goals first
      | (exfalso;omega)
      | (refine Or.inl ?_;(conv=>whnf)
         exact⟨rfl,_,rfl,PSp.nil 0⟩)
 have hie:i=less.length:=by omega
 subst hie
 rw[List.take_length] at hw
 by_cases hc0:c=[]
 . rw[ofO_wide hlong (.inr hc0)]
   have hc00:c.length=0:=by rw[hc0];rfl
   (try (conv=>whnf));repeat' (first|refine Ok.seq ?_|refine OkL.cons ?_|((first|refine Ok.region tok ?_|refine Ok.cond ?_|refine Ok.exit ?_|refine Ok.ret ?_);conv=>whnf)|(refine bI ?_ ?_<;>intro<;>(conv=>whnf)<;>(try (exfalso;omega)))|fail)
   all_goals first
    | (exfalso;omega)
    | (refine Or.inl ?_;(conv=>whnf)
       exact⟨rfl,_,rfl,PSp.nil 0⟩)
 have hpos:0<c.length:=List.length_pos_iff.2 hc0
 have h2:¬ ((∃ m ∈ less,m.length ≠ c.length)\/c=[]):=fun h=>h.elim (fun⟨m,hm,hne⟩=>hne (hw m hm)) hc0
 have hcn:CN c:=⟨hc,hc0⟩
 have hnew:∀ rl room,rl=List.map lrow [⟨less,room⟩]->∀ room2,FSpec Tryz.prog T 63 [.agg (crow c),.lst 133 rl room2] (NewT c less):=fun rl room h room2=>by
  have:=newTerm_at c [⟨less,room⟩] (room:=room2) hcn (by
   intro x hx m hm
   simp at hx
   subst hx
   exact hl m hm) (by simp[allL];omega) (by simp) h
  rwa [show allL [⟨less,room⟩]=less by simp[allL]] at this
 (try (conv=>whnf));repeat' (first|refine Ok.seq ?_|refine OkL.cons ?_|((first|refine Ok.region tok ?_|refine Ok.cond ?_|refine Ok.skip ?_|refine Ok.exit ?_);conv=>whnf)|(refine bI ?_ ?_<;>intro<;>(conv=>whnf)<;>(try (exfalso;omega)))|fail)
 all_goals first
  | (exfalso;omega)
  | skip
 refine OkL.nil ?_
 (conv=>whnf)
 refine⟨1,2,rfl,rfl,by decide,by decide,by decide,rfl,?_⟩
 have hnb:noneB (c.length:Int)=c.length:=by unfold noneB;rw[if_neg (by omega)]
 cases ht0:termT c less with
 | none=>
  rw[ofO_none hlong h2 ht0]
  (try (conv=>whnf));repeat' (first|refine Ok.seq ?_|refine OkL.cons ?_|((first|refine Ok.region tok ?_|refine Ok.cond ?_|refine Ok.skip ?_|refine Ok.ret ?_);conv=>whnf)|(refine Or.inr (Or.inl ?_);(conv=>whnf);(repeat (refine aI ?_;conv=>whnf));refine⟨_,hnew _ room (by simp[lrow,tkL0,List.drop_of_length_le]) _ , ?_⟩;rintro _ _ ⟨rfl,(⟨ht,rfl⟩|⟨t,rm4,ht,rfl⟩)⟩<;>(conv=>whnf))|(refine Or.inr (Or.inl ?_);(conv=>whnf);(repeat (refine aI ?_;conv=>whnf));refine⟨_,none_at (c.length:Int),?_⟩;rintro _ _ ⟨rfl,rfl⟩<;>(conv=>whnf))|(refine bI ?_ ?_<;>intro<;>(conv=>whnf)<;>(try (exfalso;omega)))|fail)
  all_goals first
   | (rename_i h;exact absurd trivial h)
   | (rename_i h;cases h;done)
   | (exfalso;rw[ht0] at ht;cases ht;done)
   | (refine Or.inl ?_;(conv=>whnf)
      rw[hnb]
      exact⟨rfl,_,rfl,PSp.nil _⟩)
 | some t0=>
  rw[ofO_some hlong h2 ht0]
  obtain⟨hg0,_⟩:=termT_good (n:=c.length) hcn rfl hl ht0
  have hle0:t0.less.length<=1048576:=by have:=termT_sz ht0;omega
  by_cases hsz:szT (formT [t0])<=128
  . rw[bndO_le hsz]
    have hform:∀ t rm4,termT c less=some t->FSpec Tryz.prog T 64 [.i .i64 (c.length:Int),.lst 142 [trow ⟨t,rm4⟩] []] (fun d rows=>∃ (ks:List TR) (rm:List (List D)),d = .agg [.i .i64 (c.length:Int),.lst 142 (ks.map trow) rm]/\rows=[]/\ks.map TR.t=formT [t0]):=fun t rm4 ht=>by
     rw[ht0] at ht
     cases ht
     refine FSpec.mono (form_at (room:=[]) (c.length:Int) c.length [⟨t0,rm4⟩] (by simp) (by
      intro x hx
      simp at hx
      subst hx
      exact hg0.to hle0) rfl (by simpa using hsz)) ?_
     rintro d rows ⟨ks,rm,h1,h2,h3,_⟩
     exact⟨ks,rm,h1,h2,by simpa using h3⟩
    (try (conv=>whnf));repeat' (first|refine Ok.seq ?_|refine OkL.cons ?_|((first|refine Ok.region tok ?_|refine Ok.cond ?_|refine Ok.skip ?_|refine Ok.ret ?_);conv=>whnf)|(refine Or.inr (Or.inl ?_);(conv=>whnf);(repeat (refine aI ?_;conv=>whnf));refine⟨_,hnew _ room (by simp[lrow,tkL0,List.drop_of_length_le]) _ , ?_⟩;rintro _ _ ⟨rfl,(⟨ht,rfl⟩|⟨t,rm4,ht,rfl⟩)⟩<;>(conv=>whnf))|(refine Or.inr (Or.inl ?_);(conv=>whnf);(repeat (refine aI ?_;conv=>whnf));refine⟨_,hform t rm4 ht , ?_⟩;rintro _ _ ⟨ks3,rm3,rfl,rfl,hks3⟩<;>(conv=>whnf))|(refine bI ?_ ?_<;>intro<;>(conv=>whnf)<;>(try (exfalso;omega)))|fail)
    all_goals first
     | (rename_i h;exact absurd trivial h)
     | (rename_i h;cases h;done)
     | (exfalso;rw[ht0] at ht;cases ht;done)
     | (refine Or.inl ?_;(conv=>whnf)
        exact⟨rfl,_,rfl,ks3,rm3,rfl,hks3⟩)
  . rw[bndO_gt (by omega)]
    (try (conv=>whnf));repeat' (first|(refine Ok.region_pan (id:=15) tok 3 ?_;conv=>whnf)|refine Ok.seq ?_|refine OkL.cons ?_|((first|refine Ok.region tok ?_|refine Ok.cond ?_|refine Ok.skip ?_);conv=>whnf)|(refine Or.inr (Or.inl ?_);(conv=>whnf);(repeat (refine aI ?_;conv=>whnf));refine⟨_,hnew _ room (by simp[lrow,tkL0,List.drop_of_length_le]) _ , ?_⟩;rintro _ _ ⟨rfl,(⟨ht,rfl⟩|⟨t,rm4,ht,rfl⟩)⟩<;>(conv=>whnf))|(refine bI ?_ ?_<;>intro<;>(conv=>whnf)<;>(try (exfalso;omega)))|(refine aJ ?_;conv=>whnf)|fail)
    all_goals first
     | (rename_i h;exact absurd trivial h)
     | (rename_i h;cases h;done)
     | (exfalso;rw[ht0] at ht;cases ht;done)
     | skip
    rw[ht0] at ht
    cases ht
    refine⟨_,form_pan (c.length:Int) c.length [⟨t0,rm4⟩] (by simp) (by
     intro x hx
     simp at hx
     subst hx
     exact hg0.to hle0) rfl (by simp;omega),?_⟩
    (conv=>whnf)
    refine⟨rfl,1,2,_,_,rfl,rfl,rfl,rfl,rfl,rfl,by decide,rfl,?_⟩
    (conv=>whnf)
    refine Or.inl ?_;(conv=>whnf)
    exact⟨rfl,_,rfl,PSp.nil 0⟩
end Go.Proofs.YtcglkonooeddfaaGreatDoor
namespace Go.Proofs.YtcglkonooeddfaaGreatDoor
open Go Go.Vx
structure TermF(t:Term):Prop where
 sorted:t.less.Pairwise blt
 anti:t.less.Pairwise fun x y=>¬ inL x y/\¬ inL y x
 proper:t.less ≠ [t.p]
theorem termT_form{p:Str}{less:List Str}{t:Term}(h:termT p less=some t):TermF t:=by
 have hb:=putG_fold (R:=inL) (L:=blt) inL_refl (fun _ _ _=>inL_trans) blt_trans blt_total (metL p less)
 by_cases hk:PK p less=[p]
 . rw[termT_pk0 hk] at h;cases h
 . rw[termT_pk1 hk] at h
   cases h
   exact⟨hb.2,hb.1.anti,hk⟩
theorem putG_id{k:List Str}(h1:k.Pairwise blt)(h2:k.Pairwise fun x y=>¬ inL x y/\¬ inL y x):k.foldl (putG inL blt) []=k:=by
 have hb:=putG_fold (R:=inL) (L:=blt) inL_refl (fun _ _ _=>inL_trans) blt_trans blt_total k
 have ha:Anti inL k k:=⟨fun _ h=>h,h2,fun x hx=>⟨x,hx,inL_refl x⟩⟩
 exact sorted_uniq blt_irrefl blt_trans (hb.1.perm inL_refl (fun _ _ _=>inL_trans) (fun _ _=>inL_antisymm) ha) hb.2 h1
theorem metL_id{p:Str}:∀ {l:List Str},(∀ m ∈ l,inL m p)->(∀ m ∈ l,m ≠ [])->metL p l=l
 | [],_,_=>rfl
 | m :: l,h,h2=>by
  have h1:=metL_id (l:=l) (fun x hx=>h x (by simp[hx])) (fun x hx=>h2 x (by simp[hx]))
  have hm:meetT m p=some m:=by
   unfold meetT
   rw[if_neg (h2 m (by simp))]
   exact meetL_self.2 (h m (by simp))
  unfold metL at *
  rw[List.filterMap_cons_some (f:=fun m=>meetT m p) hm,h1]
theorem termT_id{n:Nat}{t:Term}(hg:GoodT n t)(hf:TermF t):termT t.p t.less=some t:=by
 have hm:=metL_id hg.ok.less (fun m hm=>(hg.less m hm).2)
 have hp:PK t.p t.less=t.less:=by unfold PK;rw[hm];exact putG_id hf.sorted hf.anti
 rw[termT_pk1 (by rw[hp];exact hf.proper),hp]
theorem grG_id{α:Type}{R:α->α->Prop}{l:List α}(h:l.Pairwise fun x y=>¬ R x y/\¬ R y x):grG R l=l:=by
 have go:∀ (l k:List α),(k++l).Pairwise (fun x y=>¬ R x y/\¬ R y x)->l.foldl (addG R) k=k++l:=by
  intro l
  induction l with
  | nil=>intro k _;simp
  | cons x l ih=>
   intro k h
   have hk:∀ y ∈ k,¬ R y x/\¬ R x y:=fun y hy=>(List.pairwise_append.1 h).2.2 y hy x (by simp)
   have e:addG R k x=k++[x]:=by
    rw[addG_out fun y hy hR=>(hk y hy).2 hR]
    congr 1
    exact List.filter_eq_self.2 fun y hy=>by simpa using (hk y hy).1
   rw[List.foldl_cons,e,ih _ (by simpa using h)]
   simp
 have h0:=go l [] (by simpa using h)
 rw[List.nil_append] at h0
 exact h0
structure InF(ts:List Term):Prop where
 t:∀ t ∈ ts,TermF t
 anti:ts.Pairwise fun x y=>¬ covT x y/\¬ covT y x
 sorted:ts.Pairwise aheadT
theorem InF.nil:InF []:=⟨by simp,by simp,by simp⟩
theorem formT_inF{n:Nat}{l:List Term}(hg:∀ t ∈ l,GoodT n t)(hf:∀ t ∈ l,TermF t):InF (formT l):=by
 have ha:=grG_anti covT_trans l fun t ht=>covT_refl (hg t ht).ok
 have hp:=srt_perm aheadT (grG covT l)
 refine⟨fun t ht=>hf t (formT_mem ht),(hp.pairwise_iff fun {a b} h=>⟨h.2,h.1⟩).2 ha.anti,?_⟩
 refine srt_sorted ahead_trans _ ?_
 exact (grG_differ fun t ht=>(hg t ht).ok).imp ahead_total
theorem formT_id{n:Nat}{ts:List Term}(hg:∀ t ∈ ts,GoodT n t)(hf:InF ts):formT ts=ts:=by
 unfold formT
 rw[grG_id hf.anti]
 refine (srt_uniq ahead_irrefl ahead_trans ?_ (.refl _) hf.sorted).symm
 exact hf.anti.imp_of_mem fun {a b} ha _ h=>ahead_total fun e=>h.1 (by rw[<- e];exact covT_refl (hg a ha).ok)
theorem cutL_join(c:UInt8):∀ {x:Str} {xs:List Str},(∀ y ∈ x :: xs,c ∉ y)->cutL c (x++(xs.map fun y=>c :: y).flatten)=x :: xs
 | x,[],h=>by simp;exact cutL_none (h x (by simp))
 | x,y :: ys,h=>by
  rw[List.map_cons,List.flatten_cons,List.cons_append,cutL_at (h x (by simp)),cutL_join c fun z hz=>h z (List.mem_cons_of_mem _ hz)]
theorem sepT_cons(t:Term)(l:List Term):sepT (t :: l)=ttxt t++((l.map ttxt).map fun y=>(43:UInt8) :: y).flatten:=by
 unfold sepT
 rw[List.map_cons,List.flatten_cons,List.cons_append,List.drop_one,List.tail_cons,List.map_map]
 rfl
theorem CN.no{c:Str}(h:CN c){b:UInt8}(hb:b ≠ 48/\b ≠ 49/\b ≠ 120):b ∉ c:=fun hm=>by
 rcases h.1.cub b hm with e|e|e
 . exact hb.1 e
 . exact hb.2.1 e
 . exact hb.2.2 e
theorem ttxt_no{n:Nat}{t:Term}(h:GoodT n t):(43:UInt8) ∉ ttxt t:=by
 intro hm
 rcases mAp0.1 hm with hm|hm
 . exact h.p.no (by decide) hm
 . obtain⟨l,hl,hm⟩:=List.mem_flatten.1 hm
   obtain⟨m,hmm,rfl⟩:=List.mem_map.1 hl
   rcases List.mem_cons.1 hm with e|hm
   . exact absurd e (by decide)
   . exact (h.less m hmm).no (by decide) hm
theorem ttxt_cut{n:Nat}{t:Term}(h:GoodT n t):cutL 45 (ttxt t)=t.p :: t.less:=by
 unfold ttxt tTail
 refine cutL_join 45 fun y hy=>?_
 rcases List.mem_cons.1 hy with rfl|hy
 . exact h.p.no (by decide)
 . exact (h.less y hy).no (by decide)
theorem pieces_text{n:Nat}{t:Term}{l:List Term}(h:∀ x ∈ t :: l,GoodT n x):pieces (sepT (t :: l))=(t :: l).map fun t=>t.p :: t.less:=by
 unfold pieces
 rw[sepT_cons,cutL_join 43 (fun y hy=>by
  have:∃ x ∈ t :: l,ttxt x=y:=by
   rcases List.mem_cons.1 hy with rfl|hy
   . exact⟨t,by simp,rfl⟩
   . obtain⟨x,hx,rfl⟩:=List.mem_map.1 hy
     exact⟨x,by simp[hx],rfl⟩
  obtain⟨x,hx,rfl⟩:=this
  exact ttxt_no (h x hx)),<- List.map_cons,List.map_map]
 exact List.map_congr_left fun x hx=>ttxt_cut (h x hx)
theorem trms_text{n:Nat}:∀ {l:List Term},(∀ x ∈ l,GoodT n x)->(∀ x ∈ l,TermF x)->trms (l.map fun t=>t.p :: t.less)=l
 | [],_,_=>rfl
 | t :: l,hg,hf=>by
  have ih:=trms_text (l:=l) (fun x hx=>hg x (by simp[hx])) (fun x hx=>hf x (by simp[hx]))
  have e:trm (t.p :: t.less)=some t:=termT_id (hg t (by simp)) (hf t (by simp))
  unfold trms at *
  rw[List.map_cons,List.filterMap_cons_some e,ih]
theorem cntP_text:∀ l:List Term,cntP (l.map fun t=>t.p :: t.less)=szT l
 | []=>rfl
 | t :: l=>by
  have ih:=cntP_text l
  simp only[cntP,szT,List.map_cons,List.sum_cons,List.length_cons] at ih ⊢
  omega
theorem parO_text{n:Int}{ts:List Term}(hf:Fine n ts)(hn:0<n)(hi:InF ts):parO n (textS ts)=(0,n,ts):=by
 have hb:¬ (n<1\/256<n):=by have:=hf.n1;omega
 cases ts with
 | nil=>
  have e:textS []=[110,111,110,101]:=by unfold textS;rw[if_pos rfl]
  rw[e,parO_none (by decide) hb rfl]
 | cons t l=>
  have e:textS (t :: l)=sepT (t :: l):=by unfold textS;rw[if_neg (by simp)]
  have hlen:=sepT_len (l:=t :: l) fun x hx=>⟨(hf.good x hx).p.1.len,fun m hm=>((hf.good x hx).less m hm).1.len⟩
  have hsz:szS (t :: l)<=128:=hf.sz
  have hp:=pieces_text hf.good
  have hne:sepT (t :: l) ≠ [110,111,110,101]:=by
   intro h
   have hg:=hf.good t (by simp)
   cases hq:t.p with
   | nil=>exact hg.p.2 hq
   | cons b r=>
    rw[sepT_cons,ttxt,hq] at h
    have hb2:=hg.p.1.cub b (by rw[hq];simp)
    simp only[List.cons_append,List.cons.injEq] at h
    rw[h.1] at hb2
    exact absurd hb2 (by decide)
  rw[e,parO_form (by omega) hb hne ?_ ?_]
  . rw[hp,trms_text hf.good hi.t,formT_id hf.good hi]
  . rw[hp]
    intro m hm w hw
    obtain⟨x,hx,rfl⟩:=List.mem_map.1 hm
    have hg:=hf.good x hx
    have hc:=hf.cast
    rcases List.mem_cons.1 hw with rfl|hw
    . exact⟨by have:=hg.ok.p;omega,hg.p⟩
    . exact⟨by have:=hg.ok.wide.2 w hw;omega,hg.less w hw⟩
  . rw[hp,cntP_text]
    have:=hf.sz
    omega
end Go.Proofs.YtcglkonooeddfaaGreatDoor
namespace Go.Proofs.YtcglkonooeddfaaGreatDoor
open Go Go.Vx
def hasC(c h:Str):Prop:=c ≠ []/\h.length=c.length/\(∀ b ∈ h,b=48\/b=49)/\inL h c
theorem has_at(c h:Str)(hc:CT c):FSpec Tryz.prog T 124 [.agg (crow c),.s h] (fun r _=>r = .b (hasC c h)):=by
 have hcl:=hc.len
 refine FSpec.of_ok tok Tryz.func124 rfl Tryz.call124 (by simp) ?_
 (try (conv=>whnf));repeat' (first|refine Ok.seq ?_|((first|refine Ok.region tok ?_|refine Ok.cond ?_);conv=>whnf)|refine Ok.block ?_|((first|refine Ok.skip ?_|refine Ok.ret ?_);conv=>whnf)|(refine bI ?_ ?_<;>intro<;>(conv=>whnf)<;>(try (exfalso;omega)))|fail)
 . rename_i h0
   refine Or.inl ?_;(conv=>whnf)
   show D.b False=_
   exact congrArg D.b (propext ⟨fun q=>q.elim,fun q=>q.1 (List.eq_nil_of_length_eq_zero (by omega))⟩)
 . rename_i h0 h1
   refine Or.inl ?_;(conv=>whnf)
   show D.b False=_
   exact congrArg D.b (propext ⟨fun q=>q.elim,fun q=>by have:=q.2.1;omega⟩)
 rename_i h0 h1
 have hl:h.length=c.length:=by omega
 have hne:c ≠ []:=fun e=>h0 (by rw[e];rfl)
 refine Ok.loopU [1,2,17] [18] 0 1 (fun (i:Nat)=>[.i .i64 (i:Nat)]) (fun _ b=>b) (fun _ r=>r) (fun (i:Nat)=>i<=c.length/\(∀ (k:Nat) a b,k<i->h[k]? = some a->c[k]? = some b->(a=48\/a=49)/\(b=120\/b=a))) (fun (i:Nat)=>c.length - i) (0) (⟨Nat.zero_le _,fun k _ _ hk=>absurd hk (by omega)⟩) ?_;(conv=>whnf);refine⟨by ((conv=>whnf);first|rfl|(simp[envCat,tkL0,cells9,crow,trow];done)|(simp[envCat,tkL0,cells9,crow,trow];rw[IntKind.wrap_i64];omega)),?_⟩
 rintro i ⟨hi,hall⟩
 (conv=>whnf)
 by_cases hil:i<c.length
 . obtain⟨a,ha⟩:∃ a,h[i]? = some a:=⟨_,gEt0 (by omega)⟩
   obtain⟨b,hb⟩:∃ b,c[i]? = some b:=⟨_,gEt0 hil⟩
   have haI:h[((i:Nat):Int).toNat]? = some a:=ha
   have s1:=at_two (car c) (one c) i (by omega)
   have s2:=at_one (one c) i (by omega)
   have miss:¬ ((a=48\/a=49)/\(b=120\/b=a))->¬ hasC c h:=fun hm q=>hm ⟨q.2.2.1 a (mOf0 ha),(inL_iff.1 q.2.2.2).2 i a b ha hb⟩
   have step:(a=48\/a=49)/\(b=120\/b=a)->∀ (k:Nat) x y,k<i+1->h[k]? = some x->c[k]? = some y->(x=48\/x=49)/\(y=120\/y=x):=fun hm k x y hk hx hy=>by
    by_cases hki:k=i
    . subst hki
      rw[ha] at hx
      rw[hb] at hy
      cases hx
      cases hy
      exact hm
    . exact hall k x y (by omega) hx hy
   by_cases hd:a=48\/a=49
   . have hbc:=hc.cub b (mOf0 hb)
     rw[(at_b hb).1] at s1
     rw[(at_b hb).2] at s2
     rcases hbc with rfl|rfl|rfl<;>rcases hd with rfl|rfl
     all_goals
      (try (conv=>whnf));repeat' (first|refine Ok.seq ?_|((first|refine Ok.region tok ?_|refine Ok.region_plan (id:=8) tok follows [(2,6,[3])] [.q 0,.q 1,.l 2,.q 3,.q 4,.q 5,.q 7,.q 8,.q 9,.q 10,.l 6,.q 11,.q 12] (by kernel_rfl) ?_|refine Ok.cond ?_);conv=>whnf)|refine Ok.block ?_|((first|refine Ok.skip ?_|refine Ok.ret ?_|refine nI ?_|refine⟨_,by assumption,?_⟩);conv=>whnf)|(refine Or.inr (Or.inr (Or.inr ?_));(conv=>whnf);refine effK.peek (by rfl) (pk2 (.bp _ _ ( crow c) rfl (fun d hd=>ints_crow _ d (List.mem_of_mem_drop hd))) (.i _ _)) (s1 ) ?_;rintro _ _ ⟨rfl,rfl⟩;(refine And.intro (by simp[gRowsP,grounds,D.ground]) ?_;conv=>whnf))|(refine Or.inr (Or.inr (Or.inr ?_));(conv=>whnf);refine effK.peek (by rfl) (pk2 (.bp _ _ ( crow c) rfl (fun d hd=>ints_crow _ d (List.mem_of_mem_drop hd))) (.i _ _)) (s2 ) ?_;rintro _ _ ⟨rfl,rfl⟩;(refine And.intro (by simp[gRowsP,grounds,D.ground]) ?_;conv=>whnf))|(refine bI ?_ ?_<;>intro<;>(conv=>whnf)<;>(try (exfalso;omega)))|((first|refine aJ ?_|refine num_any ?_);conv=>whnf)|fail)
      all_goals first
       | contradiction
       | (refine⟨i+1,by omega,⟨by omega,step (by decide)⟩,?_⟩
          (conv=>whnf)
          rfl)
       | (refine Or.inl ?_;(conv=>whnf)
          show D.b False=_
          exact congrArg D.b (propext ⟨fun q=>q.elim,fun q=>miss (by decide) q⟩))
   . have hb3:=u8_ne (fun e=>hd (.inl e):a ≠ 48)
     have hb4:=u8_ne (fun e=>hd (.inr e):a ≠ 49)
     rw[show (((48:UInt8).toNat:Nat):Int)=48 from rfl] at hb3
     rw[show (((49:UInt8).toNat:Nat):Int)=49 from rfl] at hb4
     (try (conv=>whnf));repeat' (first|refine Ok.seq ?_|((first|refine Ok.region tok ?_|refine Ok.cond ?_);conv=>whnf)|refine Ok.block ?_|((first|refine Ok.skip ?_|refine Ok.ret ?_|refine⟨_,by assumption,?_⟩);conv=>whnf)|(refine bI ?_ ?_<;>intro<;>(conv=>whnf)<;>(try (exfalso;omega)))|((first|refine aJ ?_|refine num_any ?_);conv=>whnf)|fail)
     all_goals first
      | contradiction
      | (refine Or.inl ?_;(conv=>whnf)
         show D.b False=_
         exact congrArg D.b (propext ⟨fun q=>q.elim,fun q=>miss (fun m=>hd m.1) q⟩))
 . have hie:i=c.length:=by omega
   subst hie
   (try (conv=>whnf));repeat' (first|refine Ok.seq ?_|((first|refine Ok.region tok ?_|refine Ok.cond ?_|refine Ok.exit ?_|refine Ok.ret ?_);conv=>whnf)|(refine bI ?_ ?_<;>intro<;>(conv=>whnf)<;>(try (exfalso;omega)))|fail)
   refine Or.inl ?_;(conv=>whnf)
   show D.b True=_
   refine congrArg D.b (propext ⟨fun _=>⟨hne,hl,fun b hb=>?_,inL_iff.2 ⟨hl,fun k x y hx hy=>(hall k x y (by have:=(gSm0.1 hy).1;omega) hx hy).2⟩⟩,fun _=>trivial⟩)
   obtain⟨k,hk⟩:=List.getElem?_of_mem hb
   have hkl:=(gSm0.1 hk).1
   exact (hall k b _ (by omega) hk (gEt0 (by omega))).1
end Go.Proofs.YtcglkonooeddfaaGreatDoor
namespace Go.Proofs.YtcglkonooeddfaaGreatDoor
open Go Go.Vx
def termHas(t:Term)(h:Str):Prop:=hasC t.p h/\∀ m ∈ t.less,¬ hasC m h
def hasS(ts:List Term)(h:Str):Prop:=∃ t ∈ ts,termHas t h
theorem termHas_at(x:TR)(hx:TN x)(h:Str):FSpec Tryz.prog T 67 [.agg (trow x),.s h] (fun r _=>r = .b (termHas x.t h)):=by
 have hn:=hx.n
 have hll:(x.t.less.map crow).length=x.t.less.length:=by simp
 refine FSpec.of_ok tok Tryz.func67 rfl Tryz.call67 (by simp) ?_
 (try (conv=>whnf));repeat' (first|refine Ok.seq ?_|((first|refine Ok.region tok ?_|refine Ok.cond ?_);conv=>whnf)|refine Ok.block ?_|((first|refine Ok.skip ?_|refine Ok.ret ?_);conv=>whnf)|(refine Or.inl ?_;(conv=>whnf);(repeat (refine aI ?_;conv=>whnf));refine⟨_,has_at x.t.p h hx.p.1,rfl,?_⟩;conv=>whnf)|(refine bI ?_ ?_<;>intro<;>(conv=>whnf)<;>(try (exfalso;omega)))|fail)
 . rename_i h0
   refine Or.inl ?_;(conv=>whnf)
   show D.b False=_
   exact congrArg D.b (propext ⟨fun q=>q.elim,fun q=>h0 q.1⟩)
 rename_i h0
 have hp:=Classical.not_not.1 h0
 refine Ok.loopU [1,13,14] [15] 0 1 (fun (i:Nat)=>[.i .i64 (i:Nat)]) (fun _ b=>b) (fun _ r=>r) (fun (i:Nat)=>i<=x.t.less.length/\∀ m ∈ x.t.less.take i,¬ hasC m h) (fun (i:Nat)=>x.t.less.length - i) (0) (⟨Nat.zero_le _,by simp⟩) ?_;(conv=>whnf);refine⟨by ((conv=>whnf);first|rfl|(simp[envCat,tkL0,crow,trow,srow,drow];done)|(simp[envCat,tkL0,crow,trow,srow,drow];rw[IntKind.wrap_i64];omega)),?_⟩
 rintro i ⟨hi,hno⟩
 (conv=>whnf)
 by_cases hil:i<x.t.less.length
 . obtain⟨m,hm⟩:∃ m,x.t.less[i]? = some m:=⟨_,gEt0 hil⟩
   have hmc:=hx.less m (mOf0 hm)
   (try (conv=>whnf));repeat' (first|refine Ok.seq ?_|((first|refine Ok.region tok ?_|refine Ok.cond ?_);conv=>whnf)|refine Ok.block ?_|((first|refine Ok.skip ?_|refine Ok.ret ?_|refine nI ?_|refine ix _ (by assumption) ?_);conv=>whnf)|(refine Or.inl ?_;(conv=>whnf);(repeat (refine aI ?_;conv=>whnf));refine⟨_,has_at m h hmc.1,rfl,?_⟩;conv=>whnf)|(refine bI ?_ ?_<;>intro<;>(conv=>whnf)<;>(try (exfalso;omega)))|fail)
   . rename_i h1
     refine Or.inl ?_;(conv=>whnf)
     show D.b False=_
     exact congrArg D.b (propext ⟨fun q=>q.elim,fun q=>q.2 m (mOf0 hm) h1⟩)
   . rename_i h1
     refine⟨i+1,by omega,⟨by omega,fun z hz=>?_⟩,?_⟩
     . rw[take_snoc hm] at hz
       rcases mAp0.1 hz with hz|hz
       . exact hno z hz
       . simp at hz;rw[hz];exact h1
     . (conv=>whnf)
       rfl
 . have hie:i=x.t.less.length:=by omega
   subst hie
   rw[List.take_length] at hno
   (try (conv=>whnf));repeat' (first|refine Ok.seq ?_|((first|refine Ok.region tok ?_|refine Ok.cond ?_|refine Ok.exit ?_|refine Ok.ret ?_);conv=>whnf)|(refine bI ?_ ?_<;>intro<;>(conv=>whnf)<;>(try (exfalso;omega)))|fail)
   refine Or.inl ?_;(conv=>whnf)
   show D.b True=_
   exact congrArg D.b (propext ⟨fun _=>⟨hp,hno⟩,fun _=>trivial⟩)
theorem hasS_at{n:Int}{ts:List Term}(hf:Fine n ts)(ks:List TR)(rm:List (List D))(h1:ks.map TR.t=ts)(h:Str):FSpec Tryz.prog T 33 [.agg [.i .i64 n,.lst 142 (ks.map trow) rm],.s h] (fun r _=>r = .b (hasS ts h)):=by
 have hll:(ks.map trow).length=ks.length:=by simp
 have hkl:=hf.mlen h1
 refine FSpec.of_ok tok Tryz.func33 rfl Tryz.call33 (by simp) ?_
 (try (conv=>whnf));repeat' (first|refine Ok.seq ?_|(refine Ok.region tok ?_;conv=>whnf)|refine Ok.block ?_|fail)
 refine Ok.loopU [1,8,9] [10] 0 1 (fun (i:Nat)=>[.i .i64 (i:Nat)]) (fun _ b=>b) (fun _ r=>r) (fun (i:Nat)=>i<=ks.length/\∀ x ∈ ks.take i,¬ termHas x.t h) (fun (i:Nat)=>ks.length - i) (0) (⟨Nat.zero_le _,by simp⟩) ?_;(conv=>whnf);refine⟨by ((conv=>whnf);first|rfl|(simp[envCat,tkL0,crow,trow,srow,drow];done)|(simp[envCat,tkL0,crow,trow,srow,drow];rw[IntKind.wrap_i64];omega)),?_⟩
 rintro i ⟨hi,hno⟩
 (conv=>whnf)
 by_cases hil:i<ks.length
 . obtain⟨x,hx⟩:∃ x,ks[i]? = some x:=⟨_,gEt0 hil⟩
   have hxm:=mOf0 hx
   (try (conv=>whnf));repeat' (first|refine Ok.seq ?_|((first|refine Ok.region tok ?_|refine Ok.cond ?_);conv=>whnf)|refine Ok.block ?_|((first|refine Ok.skip ?_|refine Ok.ret ?_|refine nI ?_|refine ix _ (by assumption) ?_);conv=>whnf)|(refine Or.inl ?_;(conv=>whnf);(repeat (refine aI ?_;conv=>whnf));refine⟨_,termHas_at x (hf.to h1 x hxm).tn h,rfl,?_⟩;conv=>whnf)|(refine bI ?_ ?_<;>intro<;>(conv=>whnf)<;>(try (exfalso;omega)))|fail)
   . rename_i h2
     refine Or.inl ?_;(conv=>whnf)
     show D.b True=_
     exact congrArg D.b (propext ⟨fun _=>⟨x.t,mem_of_map h1 hxm,h2⟩,fun _=>trivial⟩)
   . rename_i h2
     refine⟨i+1,by omega,⟨by omega,fun z hz=>?_⟩,?_⟩
     . rw[take_snoc hx] at hz
       rcases mAp0.1 hz with hz|hz
       . exact hno z hz
       . simp at hz;rw[hz];exact h2
     . (conv=>whnf)
       rfl
 . have hie:i=ks.length:=by omega
   subst hie
   rw[List.take_length] at hno
   (try (conv=>whnf));repeat' (first|refine Ok.seq ?_|((first|refine Ok.region tok ?_|refine Ok.cond ?_|refine Ok.exit ?_|refine Ok.ret ?_);conv=>whnf)|(refine bI ?_ ?_<;>intro<;>(conv=>whnf)<;>(try (exfalso;omega)))|fail)
   refine Or.inl ?_;(conv=>whnf)
   show D.b False=_
   refine congrArg D.b (propext ⟨fun q=>q.elim,fun⟨t,ht,q⟩=>?_⟩)
   rw[<- h1] at ht
   obtain⟨x,hx,rfl⟩:=List.mem_map.1 ht
   exact hno x hx q
end Go.Proofs.YtcglkonooeddfaaGreatDoor
namespace Go.Proofs.YtcglkonooeddfaaGreatDoor
open Go Go.Vx
theorem hasC_in{c d h:Str}(hc:hasC c h)(hi:inL c d):hasC d h:=by
 obtain⟨h1,h2,h3,h4⟩:=hc
 have hl:=inL_len hi
 exact⟨fun e=>h1 (List.eq_nil_of_length_eq_zero (by rw[hl,e];rfl)),by omega,h3,inL_trans h4 hi⟩
theorem hasC_meet{c d m h:Str}(hm:meetT c d=some m):hasC m h ↔ hasC c h/\hasC d h:=by
 have hne:c ≠ []:=fun e=>by rw[e] at hm;simp[meetT] at hm
 rw[meetT_eq hne] at hm
 have hi:=meetL_in hm
 have hl:=meetL_len hm
 constructor
 . intro hh
   exact⟨hasC_in hh hi.1,hasC_in hh hi.2⟩
 . rintro⟨h1,h2⟩
   obtain⟨m',hm',hi'⟩:=meetL_glb h1.2.2.2 h2.2.2.2
   rw[hm] at hm'
   cases hm'
   exact⟨fun e=>hne (List.eq_nil_of_length_eq_zero (by rw[hl.1,e];rfl)),by rw[h1.2.1,hl.1],h1.2.2.1,hi'⟩
theorem hasC_meets{c d h:Str}(h1:hasC c h)(h2:hasC d h):∃ m,meetT c d=some m/\hasC m h:=by
 obtain⟨m,hm,_⟩:=meetL_glb h1.2.2.2 h2.2.2.2
 have:=(meetT_eq h1.1).trans hm
 exact⟨m,this,(hasC_meet this).2 ⟨h1,h2⟩⟩
theorem termHas_cov{t u:Term}{h:Str}(hc:covT t u)(ht:termHas t h):termHas u h:=by
 refine⟨hasC_in ht.1 hc.1.2,fun m hm hh=>?_⟩
 obtain⟨c,hcm,hch⟩:=hasC_meets hh ht.1
 obtain⟨n,hn,hcn⟩:=hc.2 m hm c hcm
 exact ht.2 n hn (hasC_in hch hcn.2)
theorem hasS_form{n:Nat}{l:List Term}(hl:∀ t ∈ l,t.Ok n)(h:Str):hasS (formT l) h ↔ hasS l h:=by
 have ha:=grG_anti covT_trans l fun t ht=>covT_refl (hl t ht)
 constructor
 . rintro⟨t,ht,hh⟩
   exact⟨t,formT_mem ht,hh⟩
 . rintro⟨t,ht,hh⟩
   obtain⟨u,hu,hc⟩:=ha.cov t ht
   exact⟨u,(srt_perm aheadT _).mem_iff.2 hu,termHas_cov hc hh⟩
def rawHas(p:Str)(less:List Str)(h:Str):Prop:=hasC p h/\∀ m ∈ less,¬ hasC m h
theorem PK_has{p:Str}{less:List Str}{h:Str}(hp:hasC p h):(∃ m ∈ PK p less,hasC m h) ↔ ∃ m ∈ less,hasC m h:=by
 have hb:=(putG_fold (R:=inL) (L:=blt) inL_refl (fun _ _ _=>inL_trans) blt_trans blt_total (metL p less)).1
 constructor
 . rintro⟨m,hm,hh⟩
   obtain⟨x,hx,hxm⟩:=metL_mem (hb.sub m hm)
   exact⟨x,hx,((hasC_meet hxm).1 hh).1⟩
 . rintro⟨m,hm,hh⟩
   obtain⟨c,hc,hch⟩:=hasC_meets hh hp
   obtain⟨y,hy,hcy⟩:=hb.cov c (List.mem_filterMap.2 ⟨m,hm,hc⟩)
   exact⟨y,hy,hasC_in hch hcy⟩
theorem termT_has{p:Str}{less:List Str}(h:Str):(∃ t,termT p less=some t/\termHas t h) ↔ rawHas p less h:=by
 by_cases hk:PK p less=[p]
 . rw[termT_pk0 hk]
   constructor
   . rintro⟨t,ht,_⟩;cases ht
   . rintro⟨h1,h2⟩
     obtain⟨m,hm,hh⟩:=(PK_has (less:=less) h1).1 ⟨p,by rw[hk];simp,h1⟩
     exact absurd hh (h2 m hm)
 . rw[termT_pk1 hk]
   constructor
   . rintro⟨t,ht,h1,h2⟩
     cases ht
     exact⟨h1,fun m hm hh=>by
      obtain⟨y,hy,hyh⟩:=(PK_has (less:=less) h1).2 ⟨m,hm,hh⟩
      exact h2 y hy hyh⟩
   . rintro⟨h1,h2⟩
     exact⟨_,rfl,h1,fun m hm hh=>by
      obtain⟨y,hy,hyh⟩:=(PK_has (less:=less) h1).1 ⟨m,hm,hh⟩
      exact h2 y hy hyh⟩
theorem hasS_append{a b:List Term}{h:Str}:hasS (a++b) h ↔ hasS a h\/hasS b h:=by
 unfold hasS
 constructor
 . rintro⟨t,ht,hh⟩
   rcases mAp0.1 ht with ht|ht
   . exact .inl ⟨t,ht,hh⟩
   . exact .inr ⟨t,ht,hh⟩
 . rintro (⟨t,ht,hh⟩|⟨t,ht,hh⟩)
   . exact⟨t,List.mem_append_left _ ht,hh⟩
   . exact⟨t,List.mem_append_right _ ht,hh⟩
theorem meet2_has{a b:Term}(h:Str):(∃ t,meet2 a b=some t/\termHas t h) ↔ termHas a h/\termHas b h:=by
 unfold meet2
 cases hm:meetT a.p b.p with
 | none=>
  constructor
  . rintro⟨t,ht,_⟩;cases ht
  . rintro⟨h1,h2⟩
    obtain⟨m,hm2,_⟩:=hasC_meets h1.1 h2.1
    rw[hm] at hm2;cases hm2
 | some p=>
  rw[Option.bind_some,termT_has]
  unfold rawHas termHas
  rw[hasC_meet hm]
  constructor
  . rintro⟨⟨h1,h2⟩,h3⟩
    exact⟨⟨h1,fun m hm=>h3 m (List.mem_append_left _ hm)⟩,h2,fun m hm=>h3 m (List.mem_append_right _ hm)⟩
  . rintro⟨⟨h1,h2⟩,h3,h4⟩
    exact⟨⟨h1,h3⟩,fun m hm=>(mAp0.1 hm).elim (h2 m) (h4 m)⟩
theorem meets_has{ts us:List Term}(h:Str):hasS (meets ts us) h ↔ hasS ts h/\hasS us h:=by
 constructor
 . rintro⟨t,ht,hh⟩
   obtain⟨a,ha,ht⟩:=List.mem_flatMap.1 ht
   obtain⟨b,hb,hab⟩:=List.mem_filterMap.1 ht
   obtain⟨h1,h2⟩:=(meet2_has h).1 ⟨t,hab,hh⟩
   exact⟨⟨a,ha,h1⟩,⟨b,hb,h2⟩⟩
 . rintro⟨⟨a,ha,h1⟩,⟨b,hb,h2⟩⟩
   obtain⟨t,hab,hh⟩:=(meet2_has h).2 ⟨h1,h2⟩
   exact⟨t,List.mem_flatMap.2 ⟨a,ha,List.mem_filterMap.2 ⟨b,hb,hab⟩⟩,hh⟩
theorem wouts_has{ts:List Term}{u:Term}(h:Str):hasS (wouts ts u) h ↔ hasS ts h/\¬ termHas u h:=by
 constructor
 . rintro⟨t,ht,hh⟩
   obtain⟨a,ha,ht⟩:=List.mem_flatMap.1 ht
   rcases mAp0.1 ht with ht|ht
   . have h1:=(termT_has (p:=a.p) (less:=a.less++[u.p]) h).1 ⟨t,by simpa[wout1] using ht,hh⟩
     exact⟨⟨a,ha,h1.1,fun m hm=>h1.2 m (List.mem_append_left _ hm)⟩,fun hu=>h1.2 u.p (by simp) hu.1⟩
   . obtain⟨m,hm,hb⟩:=List.mem_filterMap.1 ht
     unfold wout2 at hb
     cases hmt:meetT a.p m with
     | none=>rw[hmt] at hb;cases hb
     | some p=>
      rw[hmt,Option.bind_some] at hb
      have h1:=(termT_has (p:=p) (less:=a.less) h).1 ⟨t,hb,hh⟩
      have h2:=(hasC_meet hmt).1 h1.1
      exact⟨⟨a,ha,h2.1,h1.2⟩,fun hu=>hu.2 m hm h2.2⟩
 . rintro⟨⟨a,ha,h1,h2⟩,hu⟩
   by_cases hp:hasC u.p h
   . have:∃ m ∈ u.less,hasC m h:=Classical.byContradiction fun hno=>hu ⟨hp,fun m hm hh=>hno ⟨m,hm,hh⟩⟩
     obtain⟨m,hm,hh⟩:=this
     obtain⟨p,hpm,hph⟩:=hasC_meets h1 hh
     obtain⟨t,ht,hth⟩:=(termT_has (p:=p) (less:=a.less) h).2 ⟨hph,h2⟩
     refine⟨t,List.mem_flatMap.2 ⟨a,ha,List.mem_append_right _ (List.mem_filterMap.2 ⟨m,hm,?_⟩)⟩,hth⟩
     unfold wout2
     rw[hpm]
     exact ht
   . obtain⟨t,ht,hth⟩:=(termT_has (p:=a.p) (less:=a.less++[u.p]) h).2 ⟨h1,fun m hm=>by
       rcases mAp0.1 hm with hm|hm
       . exact h2 m hm
       . simp at hm;rw[hm];exact hp⟩
     exact⟨t,List.mem_flatMap.2 ⟨a,ha,List.mem_append_left _ (by rw[wout1,ht];simp)⟩,hth⟩
theorem bndO_zero{n:Int}{l:List Term}(h:(bndO n l).1=0):bndO n l=(0,n,l):=by
 unfold bndO at h ⊢
 split
 . rfl
 . rename_i hh;rw[if_neg hh] at h;cases h
theorem joinO_has{n m:Int}{ts us:List Term}(hf:Fine n ts)(hg:Fine m us)(h0:(joinO n m ts us).1=0)(h:Str):hasS (joinO n m ts us).2.2 h ↔ hasS ts h\/hasS us h:=by
 unfold joinO at h0 ⊢
 by_cases hfit:fitP n m
 . rw[if_pos hfit] at h0 ⊢
   rw[bndO_zero h0]
   obtain⟨rfl,_⟩:=hfit
   show hasS (formT (ts++us)) h ↔ _
   rw[hasS_form (n:=n.toNat) (fun t ht=>by
    rcases mAp0.1 ht with ht|ht
    . exact (hf.good t ht).ok
    . exact (hg.good t ht).ok),hasS_append]
 . rw[if_neg hfit] at h0;cases h0
theorem meets_good2{n:Nat}{ts us:List Term}(hf:∀ t ∈ ts,GoodT n t)(hg:∀ t ∈ us,GoodT n t):∀ t ∈ meets ts us,GoodT n t:=by
 intro t ht
 obtain⟨a,ha,ht⟩:=List.mem_flatMap.1 ht
 obtain⟨b,hb,hab⟩:=List.mem_filterMap.1 ht
 unfold meet2 at hab
 cases hm:meetT a.p b.p with
 | none=>rw[hm] at hab;cases hab
 | some p=>
  rw[hm,Option.bind_some] at hab
  have hct:=meetT_ct hm (hf a ha).p.1 (hg b hb).p.1
  have hpl:p.length=n:=by rw[hct.2.1];exact (hf a ha).ok.p
  refine (termT_good ⟨hct.1,fun e=>?_⟩ hpl (fun m hm=>?_) hab).1
  . have:=(hf a ha).ok.pos;rw[e] at hpl;simp at hpl;omega
  . rcases mAp0.1 hm with hm|hm
    . exact ((hf a ha).less m hm).1
    . exact ((hg b hb).less m hm).1
theorem meetO_has{n m:Int}{ts us:List Term}(hf:Fine n ts)(hg:Fine m us)(h0:(meetO n m ts us).1=0)(h:Str):hasS (meetO n m ts us).2.2 h ↔ hasS ts h/\hasS us h:=by
 unfold meetO at h0 ⊢
 by_cases hfit:fitP n m
 . rw[if_pos hfit] at h0 ⊢
   by_cases hl:ts.length*us.length<=2048
   . rw[if_pos hl] at h0 ⊢
     rw[bndO_zero h0]
     obtain⟨rfl,_⟩:=hfit
     show hasS (formT (meets ts us)) h ↔ _
     rw[hasS_form (n:=n.toNat) (fun t ht=>(meets_good2 hf.good hg.good t ht).ok),meets_has]
   . rw[if_neg hl] at h0;cases h0
 . rw[if_neg hfit] at h0;cases h0
theorem minusL_has{n:Int}:∀ {us ts:List Term},Fine n ts->(∀ u ∈ us,GoodT n.toNat u)->(minusL n ts us).1=0->∀ h,hasS (minusL n ts us).2.2 h ↔ hasS ts h/\¬ hasS us h
 | [],ts,_,_,_,h=>by
  unfold minusL
  exact⟨fun q=>⟨q,fun⟨_,hu,_⟩=>by simp at hu⟩,fun q=>q.1⟩
 | u :: us,ts,hf,hg,h0,h=>by
  rcases withoutO_cases n ts u with hw|⟨hw,hs,_⟩
  . rw[minusL_stop hw] at h0;cases h0
  . rw[minusL_go hw] at h0 ⊢
    have hfw:=wouts_good hf.good (hg u (by simp))
    have hfo:Fine n (formT (wouts ts u)):=.form hf.n0 hf.n1 hfw hs
    rw[minusL_has hfo (fun x hx=>hg x (by simp[hx])) h0 h,hasS_form (fun t ht=>(hfw t ht).ok),wouts_has]
    constructor
    . rintro⟨⟨h1,h2⟩,h3⟩
      exact⟨h1,fun⟨t,ht,hh⟩=>by
       rcases List.mem_cons.1 ht with rfl|ht
       . exact h2 hh
       . exact h3 ⟨t,ht,hh⟩⟩
    . rintro⟨h1,h2⟩
      exact⟨⟨h1,fun hh=>h2 ⟨u,by simp,hh⟩⟩,fun⟨t,ht,hh⟩=>h2 ⟨t,by simp[ht],hh⟩⟩
theorem minusO_has{n m:Int}{ts us:List Term}(hf:Fine n ts)(hg:Fine m us)(h0:(minusO n m ts us).1=0)(h:Str):hasS (minusO n m ts us).2.2 h ↔ hasS ts h/\¬ hasS us h:=by
 by_cases hfit:fitP n m
 . rw[minusO_fit hfit] at h0 ⊢
   obtain⟨rfl,_⟩:=hfit
   exact minusL_has hf hg.good h0 h
 . rw[minusO_not hfit] at h0;cases h0
end Go.Proofs.YtcglkonooeddfaaGreatDoor
namespace Go.Proofs.YtcglkonooeddfaaGreatDoor
open Go Go.Vx Go.Shelf
def worF(n:Nat)(b:UInt8):Nat:=2*n+(if b=49 then 1 else 0)
def wor(s:Str):Nat:=s.foldl worF 0
theorem wor_snoc(s:Str)(b:UInt8):wor (s++[b])=worF (wor s) b:=by unfold wor;rw[List.foldl_append];rfl
theorem wor_take{s:Str}{i:Nat}{b:UInt8}(h:s[i]? = some b):wor (s.take (i+1))=worF (wor (s.take i)) b:=by rw[take_snoc h,wor_snoc]
theorem worF_le(n:Nat)(b:UInt8):worF n b<=2*n+1:=by unfold worF;split<;>omega
theorem foldW(y:Str):∀ a:Nat,y.foldl worF a=a*tw y.length+y.foldl worF 0/\y.foldl worF 0<tw y.length:=by
 induction y with
 | nil=>intro a;simp[tw]
 | cons b y ih=>
  intro a
  simp only[List.foldl_cons,List.length_cons]
  have h2:=(ih (worF a b)).1
  have h3:=(ih (worF 0 b)).1
  have h4:=(ih 0).2
  have h5:=worF_le 0 b
  rw[h2,h3,tw_succ]
  have e:worF a b=2*a+worF 0 b:=by unfold worF;omega
  rw[e]
  have e2:(2*a+worF 0 b)*tw y.length=a*(tw y.length+tw y.length)+worF 0 b*tw y.length:=by
   rw[Nat.add_mul,Nat.mul_comm 2 a,Nat.mul_assoc,Nat.two_mul]
  have e3:worF 0 b*tw y.length<=1*tw y.length:=Nat.mul_le_mul_right _ (by omega)
  refine⟨by rw[e2];omega,by omega⟩
theorem wor_app(x y:Str):wor (x++y)=wor x*tw y.length+wor y:=by
 unfold wor;rw[List.foldl_append];exact (foldW y _).1
theorem wor_lt(s:Str):wor s<tw s.length:=(foldW s 0).2
theorem wor_lt62{s:Str}{k:Nat}(h:s.length<=k)(hk:k<=62):wor s<4611686018427387904+1:=by
 have h1:=wor_lt s
 have h2:=tw_mono h
 have h3:=tw62 hk
 omega
theorem wor_shr(s:Str)(j:Nat)(hj:j<=s.length):wor s / tw (s.length - j)=wor (s.take j):=by
 have h1:=wor_app (s.take j) (s.drop j)
 rw[List.take_append_drop] at h1
 have h2:=wor_lt (s.drop j)
 have h3:(s.drop j).length=s.length - j:=by simp
 rw[h3] at h1 h2
 rw[h1,Nat.mul_comm,Nat.mul_add_div (tw_pos _),Nat.div_eq_of_lt h2,Nat.add_zero]
theorem wor_bit{s:Str}{i:Nat}{b:UInt8}(h:s[i]? = some b)(hb:b=48\/b=49):bitC (wor s) (s.length - 1 - i)=b:=by
 have hi:=(gSm0.1 h).1
 have h1:=wor_shr s (i+1) (by omega)
 rw[show s.length - (i+1)=s.length - 1 - i by omega,wor_take h] at h1
 have h2:bitC (wor s) (s.length - 1 - i)=if wor s / tw (s.length - 1 - i) % 2=1 then 49 else 48:=rfl
 rw[h2,h1]
 unfold worF
 rcases hb with rfl|rfl
 . rw[if_neg (show ¬ ((48:UInt8)=49) by decide),if_neg (by omega)]
 . rw[if_pos rfl,if_pos (by omega)]
def Bin(s:Str):Prop:=∀ b ∈ s,b=48\/b=49
theorem Bin.tk{s:Str}(h:Bin s)(k:Nat):Bin (s.take k):=fun b hb=>h b (List.mem_of_mem_take hb)
theorem Bin.dp{s:Str}(h:Bin s)(k:Nat):Bin (s.drop k):=fun b hb=>h b (List.mem_of_mem_drop hb)
theorem number_at(s:Str)(hs:s.length<=60):FSpec Tryz.prog T 123 [.s s] (fun d _=>d = .i .i64 (wor s:Nat)):=by
 refine FSpec.of_ok tok Tryz.func123 rfl Tryz.call123 (by simp) ?_
 (try (conv=>whnf));repeat' (first|refine Ok.seq ?_|(refine Ok.region tok ?_;conv=>whnf)|refine Ok.block ?_|fail)
 refine Ok.loopU [0,6] [3,7] 0 0 (fun (i:Nat)=>[.i .i64 (wor (s.take i):Nat),.i .i64 (i:Nat)]) (fun _ b=>b) (fun _ r=>r) (fun (i:Nat)=>i<=s.length) (fun (i:Nat)=>s.length - i) (0) (Nat.zero_le _) ?_;(conv=>whnf);refine⟨by ((conv=>whnf);first|rfl|(simp[envCat,tkL0,nrow,frow,bcell];done)|(simp[envCat,tkL0,nrow,frow,bcell];rw[IntKind.wrap_i64];omega)),?_⟩
 intro i hi
 (conv=>whnf)
 have hw:=wor_lt62 (s:=s.take i) (k:=i) (by simp;omega) (by omega)
 by_cases hil:i<s.length
 . obtain⟨b,hb⟩:∃ b,s[i]? = some b:=⟨_,gEt0 hil⟩
   have hbI:s[((i:Nat):Int).toNat]? = some b:=hb
   have hw2:=wor_take hb
   have hw3:=wor_lt62 (s:=s.take (i+1)) (k:=i+1) (by simp;omega) (by omega)
   unfold worF at hw2
   by_cases h49:b=49
   . subst h49
     rw[if_pos rfl] at hw2
     (try (conv=>whnf));repeat' (first|refine Ok.seq ?_|((first|refine Ok.region tok ?_|refine Ok.cond ?_);conv=>whnf)|refine Ok.block ?_|((first|refine Ok.skip ?_|refine nI ?_|refine⟨_,by assumption,?_⟩);conv=>whnf)|(refine bI ?_ ?_<;>intro<;>(conv=>whnf)<;>(try (exfalso;omega)))|((first|refine aJ ?_|refine num_any ?_);conv=>whnf)|fail)
     all_goals first
      | (exfalso;omega)
      | (rename_i h;exact absurd rfl h)
      | skip
     refine⟨i+1,by omega,by omega,?_⟩
     rw[hw2]
     (conv=>whnf)
     simp[envCat]
     try omega
   . have hb3:=u8_ne h49
     rw[show (((49:UInt8).toNat:Nat):Int)=49 from rfl] at hb3
     rw[if_neg h49] at hw2
     (try (conv=>whnf));repeat' (first|refine Ok.seq ?_|((first|refine Ok.region tok ?_|refine Ok.cond ?_);conv=>whnf)|refine Ok.block ?_|((first|refine Ok.skip ?_|refine nI ?_|refine⟨_,by assumption,?_⟩);conv=>whnf)|(refine bI ?_ ?_<;>intro<;>(conv=>whnf)<;>(try (exfalso;omega)))|((first|refine aJ ?_|refine num_any ?_);conv=>whnf)|fail)
     all_goals first
      | (exfalso;omega)
      | skip
     refine⟨i+1,by omega,by omega,?_⟩
     rw[hw2]
     (conv=>whnf)
     simp[envCat]
     try omega
 . have hie:i=s.length:=by omega
   subst hie
   rw[List.take_length]
   (try (conv=>whnf));repeat' (first|refine Ok.seq ?_|((first|refine Ok.region tok ?_|refine Ok.cond ?_|refine Ok.exit ?_|refine Ok.ret ?_);conv=>whnf)|(refine bI ?_ ?_<;>intro<;>(conv=>whnf)<;>(try (exfalso;omega)))|fail)
   all_goals first
    | (exfalso;omega)
    | (refine Or.inl ?_;(conv=>whnf)
       rfl)
def HdrOk(n:Nat)(h:Str):Prop:=h.length=n/\n ≠ 0/\Bin h
def bitsI(l:List Fd)(h:Str)(k:Nat):Str:=match l[k]? with|some c=>(h.drop (wid (l.take k))).take c.bits.toNat|none=>[]
theorem bitsI_some{l:List Fd}{h:Str}{k:Nat}{c:Fd}(hc:l[k]? = some c):bitsI l h k=(h.drop (wid (l.take k))).take c.bits.toNat:=by unfold bitsI;rw[hc]
theorem bitsI_bin{l:List Fd}{h:Str}(hB:Bin h)(k:Nat):Bin (bitsI l h k):=by
 unfold bitsI
 split
 . exact Bin.tk (Bin.dp hB _) _
 . intro b hb;cases hb
theorem wid_split{l:List Fd}{k:Nat}{c:Fd}(hc:l[k]? = some c):wid (l.take k)+c.bits.toNat<=wid l:=by
 have h1:=wid_app l (k+1)
 have h2:=wid_snoc hc
 omega
theorem bitsI_len{l:List Fd}{h:Str}{k:Nat}{c:Fd}(hc:l[k]? = some c)(hl:h.length=wid l):(bitsI l h k).length=c.bits.toNat:=by
 have:=wid_split hc
 rw[bitsI_some hc]
 simp
 omega
end Go.Proofs.YtcglkonooeddfaaGreatDoor
namespace Go.Proofs.YtcglkonooeddfaaGreatDoor
open Go Go.Vx Go.Shelf
def fitsV(t:Tst)(v b:Nat):Prop:=
 (t.form=1/\((t.op<=2/\(v:Int)=t.lo)\/(t.op=3/\(v:Int)<t.lo)\/(t.op=4/\(v:Int)<=t.lo)\/(t.op=5/\t.lo<(v:Int))\/(t.op=6/\t.lo<=(v:Int))))
 \/ (t.form=2/\v / tw (b - t.len.toNat)=t.lo.toNat / tw (b - t.len.toNat))
 \/ (t.form=3/\t.lo<=(v:Int)/\(v:Int)<=t.hi)
 \/ (t.form=4/\∀ (i:Nat) c,i<b->t.pat[i]? = some c->c=120\/c=bitC v (b - 1 - i))
theorem fitsV1{f:Str}{op lo hi len:Int}{pat:Str}{v b:Nat}:fitsV ⟨f,op,1,lo,hi,len,pat⟩ v b ↔ ((op<=2/\(v:Int)=lo)\/(op=3/\(v:Int)<lo)\/(op=4/\(v:Int)<=lo)\/(op=5/\lo<(v:Int))\/(op=6/\lo<=(v:Int))):=by simp[fitsV]
theorem fitsV2{f:Str}{op lo hi len:Int}{pat:Str}{v b:Nat}:fitsV ⟨f,op,2,lo,hi,len,pat⟩ v b ↔ v / tw (b - len.toNat)=lo.toNat / tw (b - len.toNat):=by simp[fitsV]
theorem fitsV3{f:Str}{op lo hi len:Int}{pat:Str}{v b:Nat}:fitsV ⟨f,op,3,lo,hi,len,pat⟩ v b ↔ lo<=(v:Int)/\(v:Int)<=hi:=by simp[fitsV]
theorem fitsV4{f:Str}{op lo hi len:Int}{pat:Str}{v b:Nat}:fitsV ⟨f,op,4,lo,hi,len,pat⟩ v b ↔ ∀ (i:Nat) c,i<b->pat[i]? = some c->c=120\/c=bitC v (b - 1 - i):=by simp[fitsV]
theorem bitC_tw(v k:Nat):((bitC v k).toNat:Int)=48+((v / tw k % 2:Nat):Int):=bitC_nat v k
theorem pat_step{pat:Str}{v b i:Nat}{c:UInt8}(h:∀ (j:Nat) d,j<i->pat[j]? = some d->d=120\/d=bitC v (b - 1 - j))(hc:pat[i]? = some c)(hn:c=120\/c=bitC v (b - 1 - i)):∀ (j:Nat) d,j<i+1->pat[j]? = some d->d=120\/d=bitC v (b - 1 - j):=by
 intro j d hj hd
 by_cases hji:j=i
 . subst hji;rw[hc] at hd;cases hd;exact hn
 . exact h j d (by omega) hd
theorem tfits_at(f:Str)(op form lo hi len:Int)(pat:Str)(v b:Nat)(h1b:1<=b)(hb:b<=32)(hv:v<tw b)(he:errT ⟨f,op,form,lo,hi,len,pat⟩ b=0) :
    FSpec Tryz.prog T 350 [.agg (tcl f op form lo hi len pat),.i .i64 (v:Nat),.i .i64 (b:Nat)] (fun d _=>d = .b (fitsV ⟨f,op,form,lo,hi,len,pat⟩ v b)):=by
 have htb:=tw62 (show b<=62 by omega)
 obtain⟨hF,hV,hD⟩:=errT_zero he
 obtain⟨hA,hP⟩:=hF
 unfold ValOk at hV
 dsimp only at hA hP hV hD
 have h4:form=1\/form=2\/form=3\/form=4:=by omega
 refine FSpec.of_ok tok Tryz.func350 rfl Tryz.call350 (by simp) ?_
 rcases h4 with rfl|rfl|rfl|rfl
 . have h6:op=1\/op=2\/op=3\/op=4\/op=5\/op=6:=by omega
   rcases h6 with rfl|rfl|rfl|rfl|rfl|rfl
   all_goals
    (try (conv=>whnf));repeat' (first|refine Ok.seq ?_|((first|refine Ok.region tok ?_|refine Ok.cond ?_);conv=>whnf)|refine Ok.block ?_|((first|refine Ok.skip ?_|refine Ok.ret ?_);conv=>whnf)|(refine bI ?_ ?_<;>intro<;>(conv=>whnf)<;>(try (exfalso;omega)))|fail)
    refine Or.inl ?_;(conv=>whnf)
    exact congrArg D.b (propext (by rw[fitsV1];omega))
 . obtain⟨vl,rfl⟩:∃ v:Nat,lo=v:=⟨lo.toNat,by omega⟩
   obtain⟨vn,rfl⟩:∃ v:Nat,len=v:=⟨len.toNat,by omega⟩
   have hsh:((b:Int) - (vn:Int))=((b - vn:Nat):Int)/\b - vn<=62:=by omega
   (try (conv=>whnf));repeat' (first|((with_reducible_and_instances refine shr_i rfl (by assumption) ?_);conv=>whnf)|refine Ok.seq ?_|((first|refine Ok.region tok ?_|refine Ok.region_draw tok follows (by kernel_rfl) ?_|refine Ok.cond ?_);conv=>whnf)|refine Ok.block ?_|((first|refine Ok.ret ?_|refine nI ?_);conv=>whnf)|(refine bI ?_ ?_<;>intro<;>(conv=>whnf)<;>(try (exfalso;omega)))|(refine aJ ?_;conv=>whnf)|fail)
   all_goals first
    | (exfalso;omega)
    | (refine Or.inl ?_;(conv=>whnf)
       refine congrArg D.b (propext ?_)
       rw[fitsV2,show ((vn:Int)).toNat=vn by omega,show ((vl:Int)).toNat=vl by omega]
       omega)
 . (try (conv=>whnf));repeat' (first|refine Ok.seq ?_|((first|refine Ok.region tok ?_|refine Ok.cond ?_);conv=>whnf)|refine Ok.block ?_|(refine Ok.ret ?_;conv=>whnf)|(refine bI ?_ ?_<;>intro<;>(conv=>whnf)<;>(try (exfalso;omega)))|fail)
   all_goals first
    | (exfalso;omega)
    | (refine Or.inl ?_;(conv=>whnf)
       exact congrArg D.b (propext (by rw[fitsV3];omega)))
    | (refine Or.inl ?_;(conv=>whnf)
       show D.b False=_
       exact congrArg D.b (propext ⟨fun h=>h.elim,fun h2=>by have:=fitsV3.1 h2;omega⟩))
 . obtain⟨hd1,hd2⟩:=hD rfl
   (try (conv=>whnf));repeat' (first|refine Ok.seq ?_|((first|refine Ok.region tok ?_|refine Ok.cond ?_);conv=>whnf)|refine Ok.block ?_|(refine bI ?_ ?_<;>intro<;>(conv=>whnf)<;>(try (exfalso;omega)))|fail)
   refine Ok.loopU [1,2,3,47] [48] 0 1 (fun (i:Nat)=>[.i .i64 (i:Nat)]) (fun _ b=>b) (fun _ r=>r) (fun (i:Nat)=>i<=b/\∀ (j:Nat) d,j<i->pat[j]? = some d->d=120\/d=bitC v (b - 1 - j)) (fun (i:Nat)=>b - i) (0) (⟨Nat.zero_le _,fun j d hj=>absurd hj (by omega)⟩) ?_;(conv=>whnf);refine⟨by ((conv=>whnf);first|rfl|(simp[envCat,tkL0,nrow,frow,bcell,tcells];done)|(simp[envCat,tkL0,nrow,frow,bcell,tcells];rw[IntKind.wrap_i64];omega)),?_⟩
   rintro i ⟨hi,hall⟩
   (conv=>whnf)
   by_cases hil:i<b
   . obtain⟨c,hc⟩:∃ c,pat[i]? = some c:=⟨_,gEt0 (by omega)⟩
     have hcI:pat[((i:Nat):Int).toNat]? = some c:=hc
     have hsh:((b:Int) - 1 - (i:Int))=((b - 1 - i:Nat):Int)/\b - 1 - i<=62:=by omega
     have hm2:=mod2 v (b - 1 - i)
     have hbc:=bitC_tw v (b - 1 - i)
     have hvl:v<9223372036854775808:=by omega
     by_cases hok:c=120\/c=bitC v (b - 1 - i)
     . have hok2:((c.toNat:Nat):Int)=120\/((c.toNat:Nat):Int)=48+((v / tw (b - 1 - i) % 2:Nat):Int):=by
         rcases hok with rfl|h
         . exact .inl rfl
         . right;rw[<- hbc,h]
       (try (conv=>whnf));repeat' (first|((first|with_reducible_and_instances refine shr_i rfl (by assumption) ?_|refine and_1' ⟨rfl,bits_pos hvl⟩ rfl ?_|with_reducible_and_instances refine num_u8 (by omega) (by omega) ?_);conv=>whnf)|refine Ok.seq ?_|((first|refine Ok.region tok ?_|refine Ok.cond ?_);conv=>whnf)|refine Ok.block ?_|((first|refine Ok.skip ?_|refine nI ?_|refine⟨_,by assumption,?_⟩);conv=>whnf)|(refine bI ?_ ?_<;>intro<;>(conv=>whnf)<;>(try (exfalso;omega)))|((first|refine aJ ?_|refine num_any ?_);conv=>whnf)|fail)
       all_goals first
        | (exfalso;omega)
        | (refine⟨i+1,by omega,⟨by omega,pat_step hall hc hok⟩,?_⟩
           (conv=>whnf)
           rfl)
     . have hb3:=u8_ne (fun e=>hok (.inl e):c ≠ 120)
       have hb4:=u8_ne (fun e=>hok (.inr e):c ≠ bitC v (b - 1 - i))
       rw[show (((120:UInt8).toNat:Nat):Int)=120 from rfl] at hb3
       rw[hbc] at hb4
       (try (conv=>whnf));repeat' (first|((first|with_reducible_and_instances refine shr_i rfl (by assumption) ?_|refine and_1' ⟨rfl,bits_pos hvl⟩ rfl ?_|with_reducible_and_instances refine num_u8 (by omega) (by omega) ?_);conv=>whnf)|refine Ok.seq ?_|((first|refine Ok.region tok ?_|refine Ok.cond ?_);conv=>whnf)|refine Ok.block ?_|((first|refine Ok.skip ?_|refine Ok.ret ?_|refine nI ?_|refine⟨_,by assumption,?_⟩);conv=>whnf)|(refine bI ?_ ?_<;>intro<;>(conv=>whnf)<;>(try (exfalso;omega)))|((first|refine aJ ?_|refine num_any ?_);conv=>whnf)|fail)
       all_goals first
        | (exfalso;omega)
        | (refine Or.inl ?_;(conv=>whnf)
           exact congrArg D.b (propext ⟨fun h=>h.elim,fun h2=>hok (fitsV4.1 h2 i c hil hc)⟩))
   . have hie:i=b:=by omega
     subst hie
     (try (conv=>whnf));repeat' (first|refine Ok.seq ?_|((first|refine Ok.region tok ?_|refine Ok.cond ?_|refine Ok.exit ?_|refine Ok.ret ?_);conv=>whnf)|(refine bI ?_ ?_<;>intro<;>(conv=>whnf)<;>(try (exfalso;omega)))|fail)
     all_goals first
      | (exfalso;omega)
      | (refine Or.inl ?_;(conv=>whnf)
         exact congrArg D.b (propext ⟨fun _=>fitsV4.2 hall,fun _=>trivial⟩))
def tstH(l:List Fd)(h:Str)(t:Tst):Prop:=¬ (fitsV t (wor (bitsI l h (findI t.f l 0).toNat)) (bitsI l h (findI t.f l 0).toNat).length ↔ t.op=2)
def vals(l:List Fd)(h:Str):List Nat:=(List.range l.length).map fun k=>wor (bitsI l h k)
theorem vals_len(l:List Fd)(h:Str):(vals l h).length=l.length:=by simp[vals]
theorem vals_get{l:List Fd}{h:Str}{k:Nat}(hk:k<l.length):(vals l h)[k]? = some (wor (bitsI l h k)):=by simp[vals,hk]
@[reducible] def irow(n:Nat):List D:=[.i .i64 (n:Int)]
end Go.Proofs.YtcglkonooeddfaaGreatDoor
namespace Go.Proofs.YtcglkonooeddfaaGreatDoor
open Go Go.Vx Go.Shelf
@[reducible] def hv(l:List Fd)(r:List (List D))(h:Str)(r2:List (List D)):D:=.agg [.lst 127 (l.map frow) r,.lst 3 ((vals l h).map irow) r2]
theorem tholds_at(l:List Fd)(r:List (List D))(r2:List (List D))(hl:l.length<=1000)(hlay:LayF l)(f:Str)(op form lo hi len:Int)(pat:Str)(h:Str)(hh:h.length=wid l)(he:errF l ⟨f,op,form,lo,hi,len,pat⟩=0) :
    FSpec Tryz.prog T 346 [.agg (tcl f op form lo hi len pat),hv l r h r2] (fun d _=>d = .b (tstH l h ⟨f,op,form,lo,hi,len,pat⟩)):=by
 rcases find_cases f l with hfi|⟨k,c,hfi,hc⟩
 . rw[errF_none hfi] at he;cases he
 rw[errF_some hfi hc] at he
 have h1:(l.map frow).length=l.length:=by simp
 have h2:((vals l h).map irow).length=l.length:=by simp[vals]
 have hcb:=hlay c (mOf0 hc)
 have hbl:=bitsI_len hc hh
 have hkl:=(gSm0.1 hc).1
 have hvk:=vals_get (h:=h) hkl
 have htH:tstH l h ⟨f,op,form,lo,hi,len,pat⟩=¬ (fitsV ⟨f,op,form,lo,hi,len,pat⟩ (wor (bitsI l h k)) (bitsI l h k).length ↔ op=2):=by
  unfold tstH
  dsimp only
  rw[hfi]
  rfl
 rw[htH]
 have hwl:=wor_lt (bitsI l h k)
 rw[hbl] at hwl ⊢
 have hwl2:=tw62 (show c.bits.toNat<=62 by omega)
 generalize wor (bitsI l h k)=v at *
 have hft:=tfits_at f op form lo hi len pat v c.bits.toNat (by omega) (by omega) hwl he
 rw[show ((c.bits.toNat:Nat):Int)=c.bits by omega] at hft
 generalize fitsV ⟨f,op,form,lo,hi,len,pat⟩ v c.bits.toNat=F at *
 refine FSpec.of_ok tok Tryz.func346 rfl Tryz.call346 (by simp) ?_
 (try (conv=>whnf));repeat' (first|refine Ok.seq ?_|(refine Ok.region tok ?_;conv=>whnf)|refine Ok.block ?_|fail)
 refine Ok.loopU [2,3,8,9] [10] 0 2 (fun (i:Nat)=>[.i .i64 (i:Nat)]) (fun _ b=>b) (fun _ r=>r) (fun (i:Nat)=>i<=l.length/\findI f l 0=findI f (l.drop i) i) (fun (i:Nat)=>l.length - i) (0) (⟨Nat.zero_le _,rfl⟩) ?_;(conv=>whnf);refine⟨by ((conv=>whnf);first|rfl|(simp[envCat,tkL0,nrow,frow,bcell,tcells,irow];done)|(simp[envCat,tkL0,nrow,frow,bcell,tcells,irow];rw[IntKind.wrap_i64];omega)),?_⟩
 rintro i ⟨hi',hfd⟩
 (conv=>whnf)
 by_cases hil:i<l.length
 . obtain⟨d,hd⟩:∃ d,l[i]? = some d:=⟨_,gEt0 hil⟩
   have hdI:l[((i:Nat):Int).toNat]? = some d:=hd
   rw[fdrop_at hd] at hfd
   by_cases hnm:d.name=f
   . have hik:i=k:=by
       have h3:findI f l 0=(i:Nat):=by
        rw[hfd]
        unfold findI
        rw[if_pos hnm]
       omega
     subst hik
     rw[hc] at hd
     cases hd
     have hvI:(vals l h)[((i:Nat):Int).toNat]? = some v:=hvk
     (try (conv=>whnf));repeat' (first|refine Ok.seq ?_|((first|refine Ok.region tok ?_|refine Ok.region_draw tok follows (by kernel_rfl) ?_|refine Ok.cond ?_);conv=>whnf)|refine Ok.block ?_|((first|refine Ok.skip ?_|refine Ok.ret ?_|refine nI ?_|refine ix _ (by assumption) ?_|refine⟨_,by assumption,?_⟩);conv=>whnf)|(refine bI ?_ ?_<;>intro<;>(conv=>whnf)<;>(try (exfalso;omega)))|(refine aJ ?_;conv=>whnf)|fail)
     all_goals first
      | (exfalso;omega)
      | (rename_i h;exact absurd hnm h)
      | (refine Or.inl ?_;(conv=>whnf)
         rfl)
   . (try (conv=>whnf));repeat' (first|refine Ok.seq ?_|((first|refine Ok.region tok ?_|refine Ok.region_draw tok follows (by kernel_rfl) ?_|refine Ok.cond ?_);conv=>whnf)|refine Ok.block ?_|((first|refine Ok.skip ?_|refine nI ?_|refine ix _ (by assumption) ?_);conv=>whnf)|(refine bI ?_ ?_<;>intro<;>(conv=>whnf)<;>(try (exfalso;omega)))|(refine aJ ?_;conv=>whnf)|fail)
     all_goals first
      | (exfalso;omega)
      | (rename_i h;exact absurd h hnm)
      | (refine⟨i+1,by omega,⟨by omega,?_⟩,?_⟩
         . rw[hfd]
           conv=>lhs;unfold findI
           rw[if_neg hnm]
         . (conv=>whnf)
           rfl)
 . have hie:i=l.length:=by omega
   subst hie
   rw[List.drop_length] at hfd
   have hfd:findI f l 0=-1:=hfd
   exfalso
   omega
def Tr.hold(l:List Fd)(h:Str):Tr->Prop
 | .leaf p=>p|.test t=>tstH l h t|.neg x=>¬ x.hold l h|.and x y=>x.hold l h/\y.hold l h|.or x y=>x.hold l h\/y.hold l h
def Tr.ok(l:List Fd):Tr->Prop
 | .leaf _=>True|.test t=>errF l t=0|.neg x=>x.ok l|.and x y=>x.ok l/\y.ok l|.or x y=>x.ok l/\y.ok l
theorem hLeaf:MethC Tryz.prog "reach/expr.holds" 282 339:=.of tok (by kernel_rfl) (by kernel_rfl) Tryz.call339
theorem hTest:MethC Tryz.prog "reach/expr.holds" 284 346:=.of tok (by kernel_rfl) (by kernel_rfl) Tryz.call346
theorem hNot:MethC Tryz.prog "reach/expr.holds" 286 359:=.of tok (by kernel_rfl) (by kernel_rfl) Tryz.call359
theorem hAnd:MethC Tryz.prog "reach/expr.holds" 290 365:=.of tok (by kernel_rfl) (by kernel_rfl) Tryz.call365
theorem hOr:MethC Tryz.prog "reach/expr.holds" 291 375:=.of tok (by kernel_rfl) (by kernel_rfl) Tryz.call375
theorem leafH(l:List Fd)(r:List (List D))(h:Str)(r2:List (List D))(p:Prop):FSpec Tryz.prog T 339 [.agg [.b p],hv l r h r2] (fun d _=>d = .b p):=by
 refine FSpec.of_ok tok Tryz.func339 rfl Tryz.call339 (by simp) ?_
 (try (conv=>whnf));repeat' (first|refine Ok.seq ?_|((first|refine Ok.region tok ?_|refine Ok.ret ?_);conv=>whnf)|fail)
 refine Or.inl ?_;(conv=>whnf)
 rfl
theorem pboth_at(l:List Fd)(r:List (List D))(h:Str)(r2:List (List D))(x y:Tr)(fx fy:FuncId)(mx:MethC Tryz.prog "reach/expr.holds" x.ty fx)(my:MethC Tryz.prog "reach/expr.holds" y.ty fy)
    (sx:FSpec Tryz.prog T fx [.agg x.cs,hv l r h r2] (fun d _=>d = .b (x.hold l h)))(sy:FSpec Tryz.prog T fy [.agg y.cs,hv l r h r2] (fun d _=>d = .b (y.hold l h))) :
    FSpec Tryz.prog T 369 [.agg [x.d,y.d],hv l r h r2] (fun d _=>d = .tup [.b (x.hold l h),.b (y.hold l h)]):=by
 refine FSpec.of_ok tok Tryz.func369 rfl Tryz.call369 (by simp) ?_
 (try (conv=>whnf));repeat' (first|refine Ok.seq ?_|((first|refine Ok.region tok ?_|refine Ok.region_draw tok follows (by kernel_rfl) ?_|refine Ok.ret ?_|refine⟨_,by assumption,?_⟩|refine aJ ?_);conv=>whnf)|fail)
 refine Or.inl ?_;(conv=>whnf)
 rfl
theorem holds_at(l:List Fd)(r:List (List D))(h:Str)(r2:List (List D))(hl:l.length ≤ 1000)(hlay:LayF l)(hh:h.length=wid l)(x:Tr)(hx:x.ok l) :
    ∃ f,MethC Tryz.prog "reach/expr.holds" x.ty f ∧ FSpec Tryz.prog T f [.agg x.cs,hv l r h r2] (fun d _=>d = .b (x.hold l h)):=by
 induction x with
 | leaf p=>exact⟨_,hLeaf,leafH l r h r2 p⟩
 | test t=>exact⟨_,hTest,tholds_at l r r2 hl hlay t.f t.op t.form t.lo t.hi t.len t.pat h hh hx⟩
 | neg x ih=>
  obtain⟨fx,mx,sx⟩:=ih hx
  refine⟨_,hNot,?_⟩
  refine FSpec.of_ok tok Tryz.func359 rfl Tryz.call359 (by simp) ?_
  (try (conv=>whnf));repeat' (first|refine Ok.seq ?_|((first|refine Ok.region tok ?_|refine Ok.ret ?_);conv=>whnf)|(refine Or.inl ?_;(conv=>whnf);(repeat (refine aI ?_;conv=>whnf));refine⟨_,mx,_,sx,rfl,?_⟩;conv=>whnf)|fail)
  refine Or.inl ?_;(conv=>whnf)
  rfl
 | and x y ih1 ih2=>
  obtain⟨fx,mx,sx⟩:=ih1 hx.1
  obtain⟨fy,my,sy⟩:=ih2 hx.2
  refine⟨_,hAnd,?_⟩
  have hb:=pboth_at l r h r2 x y fx fy mx my sx sy
  show FSpec Tryz.prog T 365 [.agg [x.d,y.d],hv l r h r2] (fun d _=>d = .b (x.hold l h ∧ y.hold l h))
  generalize x.hold l h=p at *
  generalize y.hold l h=q at *
  refine FSpec.of_ok tok Tryz.func365 rfl Tryz.call365 (by simp) ?_
  (try (conv=>whnf));repeat' (first|refine Ok.seq ?_|((first|refine Ok.region tok ?_|refine Ok.ret ?_);conv=>whnf)|(refine Or.inl ?_;(conv=>whnf);(repeat (refine aI ?_;conv=>whnf));refine⟨_,hb,rfl,?_⟩;conv=>whnf)|(refine bI ?_ ?_<;>intro<;>(conv=>whnf)<;>(try (exfalso;omega)))|fail)
  all_goals first
   | (refine Or.inl ?_;(conv=>whnf)
      exact congrArg D.b (propext (by simp[*])))
 | or x y ih1 ih2=>
  obtain⟨fx,mx,sx⟩:=ih1 hx.1
  obtain⟨fy,my,sy⟩:=ih2 hx.2
  refine⟨_,hOr,?_⟩
  have hb:=pboth_at l r h r2 x y fx fy mx my sx sy
  show FSpec Tryz.prog T 375 [.agg [x.d,y.d],hv l r h r2] (fun d _=>d = .b (x.hold l h ∨ y.hold l h))
  generalize x.hold l h=p at *
  generalize y.hold l h=q at *
  refine FSpec.of_ok tok Tryz.func375 rfl Tryz.call375 (by simp) ?_
  (try (conv=>whnf));repeat' (first|refine Ok.seq ?_|((first|refine Ok.region tok ?_|refine Ok.ret ?_);conv=>whnf)|(refine Or.inl ?_;(conv=>whnf);(repeat (refine aI ?_;conv=>whnf));refine⟨_,hb,rfl,?_⟩;conv=>whnf)|(refine bI ?_ ?_<;>intro<;>(conv=>whnf)<;>(try (exfalso;omega)))|fail)
  all_goals first
   | (refine Or.inl ?_;(conv=>whnf)
      exact congrArg D.b (propext (by simp[*])))
end Go.Proofs.YtcglkonooeddfaaGreatDoor
namespace Go.Proofs.YtcglkonooeddfaaGreatDoor
open Go Go.Vx Go.Shelf
theorem trim_bin(s:Str):Lib.trimS s [48,49]=[] ↔ Bin s:=by
 rw[trim_nil]
 unfold Bin
 constructor
 . intro h b hb
   have:=h b hb
   simpa using this
 . intro h b hb
   have:=h b hb
   simpa using this
theorem trim01(s:Str)(h:s.length<=9223372036854775807):FSpec Tryz.prog T 122 [.s s,.s [48,49]] (fun d _=>d = .s (Lib.trimS s [48,49])):=
 trim_at Tryz.vxTrim (by kernel_rfl) Tryz.call122 s [48,49] h (by decide) (by decide)
theorem vals_succ{l:List Fd}{h:Str}{i:Nat}(hi:i<l.length):((vals l h).take (i+1)).map irow=((vals l h).take i).map irow++[irow (wor (bitsI l h i))]:=by
 rw[take_snoc (vals_get hi),List.map_append];rfl
theorem unpack_ok(l:List Fd)(r:List (List D))(h:Str)(hl:l.length<=1000)(hc:(chkO l).1=0)(hh:HdrOk (wid l) h) :
    FSpec Tryz.prog T 66 [.lst 127 (l.map frow) r,.s h] (fun d rows=>d = .tup [.lst 3 ((vals l h).map irow) [],.i .i64 0]/\rows=[]):=by
 have h1:(l.map frow).length=l.length:=by simp
 have hch:=check_at l r (by omega)
 rw[hc] at hch
 obtain⟨hlay,_⟩:=chk_lay hc
 have hwd:=width_at l r hl hlay
 have hww:=wid_le hlay
 obtain⟨hh1,hh2,hh3⟩:=hh
 have htr:=trim01 h (by omega)
 rw[(trim_bin h).2 hh3] at htr
 refine FSpec.of_ok tok Tryz.func66 rfl Tryz.call66 (by simp) ?_
 (try (conv=>whnf));repeat' (first|refine Ok.seq ?_|((first|refine Ok.region tok ?_|refine Ok.cond ?_);conv=>whnf)|refine Ok.block ?_|((first|refine Ok.skip ?_|refine Ok.ret ?_);conv=>whnf)|(refine Or.inl ?_;(conv=>whnf);(repeat (refine aI ?_;conv=>whnf));refine⟨_,hch,rfl,?_⟩;conv=>whnf)|(refine Or.inl ?_;(conv=>whnf);(repeat (refine aI ?_;conv=>whnf));refine⟨_,hwd,rfl,?_⟩;conv=>whnf)|(refine Or.inl ?_;(conv=>whnf);(repeat (refine aI ?_;conv=>whnf));refine⟨_,htr,rfl,?_⟩;conv=>whnf)|(refine bI ?_ ?_<;>intro<;>(conv=>whnf)<;>(try (exfalso;omega)))|fail)
 all_goals first
  | (exfalso;omega)
  | (rename_i h;exact absurd rfl h)
  | skip
 refine Ok.ghost 8 3 rfl ?_
 (conv=>whnf)
 refine Ok.loopU [29,30] [1,8,31] 1 0 (fun (i:Nat)=>[.s (h.drop (wid (l.take i))),.own 0 i,.i .i64 (i:Nat)]) (fun _ b=>b) (fun (i:Nat) (_:Vx.Rows)=>[some (3,((vals l h).take i).map irow)]) (fun (i:Nat)=>i<=l.length) (fun (i:Nat)=>l.length - i) (0) (Nat.zero_le _) ?_;(conv=>whnf);refine⟨by ((conv=>whnf);first|rfl|(simp[envCat,tkL0,nrow,frow,bcell,tcells,irow];done)|(simp[envCat,tkL0,nrow,frow,bcell,tcells,irow];rw[IntKind.wrap_i64];omega)),?_⟩
 intro i hi
 have htv:(((vals l h).take i).map irow).length=i:=by simp[vals];omega
 (conv=>whnf)
 by_cases hil:i<l.length
 . obtain⟨c,hc⟩:∃ c,l[i]? = some c:=⟨_,gEt0 hil⟩
   have hcI:l[((i:Nat):Int).toNat]? = some c:=hc
   have hcb:=hlay c (mOf0 hc)
   have hsn:=wid_snoc hc
   have hsp:=wid_split hc
   have hbl:=bitsI_len hc hh1
   have hnu:=number_at (bitsI l h i) (by omega)
   have hvs:=vals_succ (h:=h) hil
   have hwl:=wor_lt62 (s:=bitsI l h i) (k:=32) (by omega) (by omega)
   have hbs:=bitsI_some (h:=h) hc
   have hdl:(h.drop (wid (l.take i))).length=wid l - wid (l.take i):=by simp;omega
   have hdd:(h.drop (wid (l.take i))).drop c.bits.toNat=h.drop (wid (l.take (i+1))):=by rw[List.drop_drop,hsn]
   generalize h.drop (wid (l.take i))=hd at *
   (try (conv=>whnf));repeat' (first|(refine⟨0,c.bits.toNat,rfl,(by show c.bits=((c.bits.toNat:Nat):Int);omega),(by omega),(by omega),?_⟩;conv=>whnf)|(refine⟨bitsI l h i,(by rw[hbs];rfl),?_⟩;conv=>whnf)|(refine⟨c.bits.toNat,hd.length,(by show c.bits=((c.bits.toNat:Nat):Int);omega),rfl,(by omega),(by omega),?_⟩;conv=>whnf)|(refine⟨h.drop (wid (l.take (i+1))),(by rw[List.take_length,hdd]),?_⟩;conv=>whnf)|refine Ok.seq ?_|((first|refine Ok.region tok ?_|refine Ok.cond ?_);conv=>whnf)|refine Ok.block ?_|((first|refine Ok.skip ?_|refine nI ?_|refine ix _ (by assumption) ?_);conv=>whnf)|(refine Or.inl ?_;(conv=>whnf);(repeat (refine aI ?_;conv=>whnf));refine⟨_,hnu,rfl,?_⟩;conv=>whnf)|((first|refine Alt2.l (aI ?_)|refine⟨_,.inl ⟨rfl,rfl⟩,?_⟩|refine⟨_,_,rfl,rfl,?_⟩);conv=>whnf)|(refine bI ?_ ?_<;>intro<;>(conv=>whnf)<;>(try (exfalso;omega)))|(refine aJ ?_;conv=>whnf)|fail)
   all_goals first
    | (exfalso;omega)
    | skip
   refine⟨i+1,by omega,by omega,?_⟩
   rw[hvs]
   (conv=>whnf)
   simp[envCat,vals]
   try omega
 . have hie:i=l.length:=by omega
   subst hie
   have htk:(vals l h).take l.length=vals l h:=tkL0 (by rw[vals_len];omega)
   (try (conv=>whnf));repeat' (first|refine Ok.seq ?_|((first|refine Ok.region tok ?_|refine Ok.cond ?_|refine Ok.exit ?_|refine Ok.ret ?_);conv=>whnf)|(refine bI ?_ ?_<;>intro<;>(conv=>whnf)<;>(try (exfalso;omega)))|fail)
   all_goals first
    | (exfalso;omega)
    | skip
   rw[htk]
   refine Or.inl ?_;(conv=>whnf)
   refine⟨?_,rfl⟩
   rw[tkL0 (by simp[vals]),List.drop_of_length_le (by simp[vals])]
   rfl
theorem unpack_err(l:List Fd)(r:List (List D))(h:Str)(hl:l.length<=1000)(hc:(chkO l).1=0)(hh:¬ HdrOk (wid l) h)(hw0:wid l ≠ 0) :
    FSpec Tryz.prog T 66 [.lst 127 (l.map frow) r,.s h] (fun d rows=>d = .tup [.lst 3 [] [],.i .i64 46]/\rows=[]):=by
 have h1:(l.map frow).length=l.length:=by simp
 have hch:=check_at l r (by omega)
 rw[hc] at hch
 obtain⟨hlay,_⟩:=chk_lay hc
 have hwd:=width_at l r hl hlay
 have hww:=wid_le hlay
 refine FSpec.of_ok tok Tryz.func66 rfl Tryz.call66 (by simp) ?_
 by_cases hlen:h.length=wid l
 . have htr:=trim01 h (by omega)
   have hnb:=trim_bin h
   generalize Lib.trimS h [48,49]=q at *
   (try (conv=>whnf));repeat' (first|refine Ok.seq ?_|((first|refine Ok.region tok ?_|refine Ok.cond ?_);conv=>whnf)|refine Ok.block ?_|((first|refine Ok.skip ?_|refine Ok.ret ?_);conv=>whnf)|(refine Or.inl ?_;(conv=>whnf);(repeat (refine aI ?_;conv=>whnf));refine⟨_,hch,rfl,?_⟩;conv=>whnf)|(refine Or.inl ?_;(conv=>whnf);(repeat (refine aI ?_;conv=>whnf));refine⟨_,hwd,rfl,?_⟩;conv=>whnf)|(refine Or.inl ?_;(conv=>whnf);(repeat (refine aI ?_;conv=>whnf));refine⟨_,htr,rfl,?_⟩;conv=>whnf)|(refine bI ?_ ?_<;>intro<;>(conv=>whnf)<;>(try (exfalso;omega)))|fail)
   all_goals first
    | (exfalso;omega)
    | (rename_i h9;exact absurd ⟨hlen,hw0,hnb.1 (by simpa using h9)⟩ hh)
    | (refine Or.inl ?_;(conv=>whnf)
       exact⟨rfl,rfl⟩)
 . (try (conv=>whnf));repeat' (first|refine Ok.seq ?_|((first|refine Ok.region tok ?_|refine Ok.cond ?_|refine Ok.skip ?_|refine Ok.ret ?_);conv=>whnf)|(refine Or.inl ?_;(conv=>whnf);(repeat (refine aI ?_;conv=>whnf));refine⟨_,hch,rfl,?_⟩;conv=>whnf)|(refine Or.inl ?_;(conv=>whnf);(repeat (refine aI ?_;conv=>whnf));refine⟨_,hwd,rfl,?_⟩;conv=>whnf)|(refine bI ?_ ?_<;>intro<;>(conv=>whnf)<;>(try (exfalso;omega)))|fail)
   all_goals first
    | (exfalso;omega)
    | (refine Or.inl ?_;(conv=>whnf)
       exact⟨rfl,rfl⟩)
theorem tstE_all{l:List Fd}:∀ {e:List Nd},tstE l e=0->∀ c ∈ e,c.kind=3->errC l c.t=0
 | [],_,c,hc,_=>by cases hc
 | a :: e,h,c,hc,hk=>by
  by_cases hb:a.kind=3/\errC l a.t ≠ 0
  . rw[tstE_bad hb.1 hb.2] at h;exact absurd h hb.2
  . rw[tstE_ok hb] at h
    rcases List.mem_cons.1 hc with rfl|hc
    . exact Classical.byContradiction fun e=>hb ⟨hk,e⟩
    . exact tstE_all h c hc hk
theorem shapeT_ok{l:List Fd}{c:Nd}{rs rs':List Tr}(h:shapeT c rs=some rs')(hc:c.kind=3->errF l c.t=0)(hr:∀ x ∈ rs,x.ok l):∀ x ∈ rs',x.ok l:=by
 unfold shapeT at h
 split at h
 . cases h
   intro x hx
   rcases List.mem_cons.1 hx with rfl|hx
   . exact trivial
   . exact hr x hx
 split at h
 . rename_i hk
   cases h
   intro x hx
   rcases List.mem_cons.1 hx with rfl|hx
   . exact hc hk
   . exact hr x hx
 split at h
 . split at h
   . cases h
     rename_i y r1
     intro x hx
     rcases List.mem_cons.1 hx with rfl|hx
     . exact hr y (by simp)
     . exact hr x (by simp[hx])
   . cases h
 split at h
 . split at h
   . cases h
     intro x hx
     rcases List.mem_cons.1 hx with rfl|hx
     . exact⟨hr _ (by simp),hr _ (by simp)⟩
     . exact hr x (by simp[hx])
   . cases h
 split at h
 . split at h
   . cases h
     intro x hx
     rcases List.mem_cons.1 hx with rfl|hx
     . exact⟨hr _ (by simp),hr _ (by simp)⟩
     . exact hr x (by simp[hx])
   . cases h
 . cases h
theorem bld_go{c:Nd}{e:List Nd}{rs z:List Tr}(h:buildR (c :: e) rs=some z):∃ rs1,shapeT c rs=some rs1/\buildR e rs1=some z:=by
 unfold buildR at h
 split at h
 . rename_i r1 h1
   unfold stepT at h1
   split at h1
   . cases h1
   . exact⟨_,h1,h⟩
 . cases h
theorem buildR_ok{l:List Fd}:∀ {e:List Nd} {rs z:List Tr},buildR e rs=some z->(∀ c ∈ e,c.kind=3->errF l c.t=0)->(∀ x ∈ rs,x.ok l)->∀ x ∈ z,x.ok l
 | [],rs,z,h,_,hr=>by unfold buildR at h;cases h;exact hr
 | c :: e,rs,z,h,hc,hr=>by
  obtain⟨rs1,h1,h2⟩:=bld_go h
  exact buildR_ok h2 (fun d hd=>hc d (by simp[hd])) (shapeT_ok h1 (hc c (by simp)) hr)
theorem bldO_one{e:List Nd}{x:Tr}(h:bldO e=some x):buildR e []=some [x]:=by
 unfold bldO at h
 cases hb:buildR e [] with
 | none=>rw[hb] at h;cases h
 | some l=>
  rw[hb] at h
  match l,h with
  | [y],h=>cases h;rfl
theorem chk_good{l:List Fd}{e:List Nd}(h:chkE l e=0):(chkO l).1=0/\e.length<=64/\∃ x,bldO e=some x/\x.ok l/\∀ c ∈ e,c.kind=3->errF l c.t=0:=by
 have h1:(chkO l).1=0:=Classical.byContradiction fun n=>n (by rw[<- chkE_f n];exact h)
 have h2:¬ 64<e.length:=fun n=>by rw[chkE_l h1 n] at h;cases h
 refine⟨h1,by omega,?_⟩
 cases hb:bldO e with
 | none=>rw[chkE_b h1 h2 hb] at h;cases h
 | some x=>
  by_cases h4:32<x.nest
  . rw[chkE_d h1 h2 hb h4] at h;cases h
  rw[chkE_t h1 h2 hb h4] at h
  have ht:∀ c ∈ e,c.kind=3->errF l c.t=0:=fun c hc hk=>by rw[<- errC_f h1];exact tstE_all h c hc hk
  exact⟨x,rfl,buildR_ok (bldO_one hb) ht (by simp) x (by simp),ht⟩
theorem wid_pos{l:List Fd}(h:(chkO l).1=0):wid l ≠ 0:=by
 obtain⟨hlay,_⟩:=chk_lay h
 cases l with
 | nil=>rw[chkO_nil rfl] at h;cases h
 | cons f l=>
  have:=hlay f (by simp)
  simp only[wid,List.map_cons,List.sum_cons]
  omega
def evlP(l:List Fd)(e:List Nd)(h:Str):Prop:=chkE l e=0/\HdrOk (wid l) h/\∃ x,bldO e=some x/\x.hold l h
open Classical in
noncomputable def evlE(l:List Fd)(e:List Nd)(h:Str):Int:=if chkE l e ≠ 0 then chkE l e else if HdrOk (wid l) h then 0 else 46
theorem evl_err{l:List Fd}{e:List Nd}{h:Str}(hn:chkE l e ≠ 0):evlP l e h=False/\evlE l e h=chkE l e:=by
 unfold evlP evlE
 rw[if_pos hn]
 exact⟨propext ⟨fun x=>hn x.1,False.elim⟩,rfl⟩
theorem evl_hdr{l:List Fd}{e:List Nd}{h:Str}(hn:chkE l e=0)(hh:¬ HdrOk (wid l) h):evlP l e h=False/\evlE l e h=46:=by
 unfold evlP evlE
 rw[if_neg (fun x=>x hn),if_neg hh]
 exact⟨propext ⟨fun x=>hh x.2.1,False.elim⟩,rfl⟩
theorem evl_ok{l:List Fd}{e:List Nd}{h:Str}{x:Tr}(hn:chkE l e=0)(hh:HdrOk (wid l) h)(hb:bldO e=some x):evlP l e h=x.hold l h/\evlE l e h=0:=by
 unfold evlP evlE
 rw[if_neg (fun x=>x hn),if_pos hh]
 exact⟨propext ⟨fun⟨_,_,y,hy,h2⟩=>by rw[hb] at hy;cases hy;exact h2,fun h2=>⟨hn,hh,x,hb,h2⟩⟩,rfl⟩
theorem eval_at(l:List Fd)(r:List (List D))(e:List Nd)(r2:List (List D))(h:Str)(hl:l.length<=1000)(he:e.length<=1000)(htx:TxtOk e) :
    FSpec Tryz.prog T 32 [.lst 127 (l.map frow) r,.lst 219 (e.map nrow) r2,.s h] (fun d _=>d = .tup [.b (evlP l e h),.i .i64 (evlE l e h)]):=by
 have h1:(l.map frow).length=l.length:=by simp
 have hk:=echk_at l r e r2 (by omega) (by omega) htx
 by_cases hc:chkE l e=0
 case neg=>
  obtain⟨e1,e2⟩:=evl_err (h:=h) hc
  rw[e1,e2]
  rw[chkD_err rfl hc] at hk
  generalize chkE l e=k at *
  refine FSpec.of_ok tok Tryz.func32 rfl Tryz.call32 (by simp) ?_
  (try (conv=>whnf));repeat' (first|refine Ok.seq ?_|((first|refine Ok.region tok ?_|refine Ok.cond ?_|refine Ok.ret ?_);conv=>whnf)|(refine Or.inr (Or.inl ?_);(conv=>whnf);(repeat (refine aI ?_;conv=>whnf));refine⟨_,hk,?_⟩;rintro _ _ ⟨rfl,rfl⟩;conv=>whnf)|(refine bI ?_ ?_<;>intro<;>(conv=>whnf)<;>(try (exfalso;omega)))|fail)
  all_goals first
   | (exfalso;omega)
   | (refine Or.inl ?_;(conv=>whnf)
      rfl)
 obtain⟨hco,_,x,hb,hxo,_⟩:=chk_good hc
 rw[chkD_ok hc hb] at hk
 by_cases hh:HdrOk (wid l) h
 case neg=>
  obtain⟨e1,e2⟩:=evl_hdr hc hh
  rw[e1,e2]
  have hu:=unpack_err l r h hl hco hh (wid_pos hco)
  refine FSpec.of_ok tok Tryz.func32 rfl Tryz.call32 (by simp) ?_
  (try (conv=>whnf));repeat' (first|refine Ok.seq ?_|((first|refine Ok.region tok ?_|refine Ok.cond ?_|refine Ok.skip ?_|refine Ok.ret ?_);conv=>whnf)|(refine Or.inr (Or.inl ?_);(conv=>whnf);(repeat (refine aI ?_;conv=>whnf));refine⟨_,hk,?_⟩;rintro _ _ ⟨rfl,rfl⟩;conv=>whnf)|(refine Or.inr (Or.inl ?_);(conv=>whnf);(repeat (refine aI ?_;conv=>whnf));refine⟨_,hu , ?_⟩;rintro _ _ ⟨rfl,rfl⟩<;>(conv=>whnf))|(refine bI ?_ ?_<;>intro<;>(conv=>whnf)<;>(try (exfalso;omega)))|fail)
  all_goals first
   | (exfalso;omega)
   | (refine Or.inl ?_;(conv=>whnf)
      rfl)
 obtain⟨e1,e2⟩:=evl_ok hc hh hb
 rw[e1,e2]
 obtain⟨hlay,_⟩:=chk_lay hco
 have hu:=unpack_ok l r h hl hco hh
 obtain⟨fx,mx,sx⟩:=holds_at l r h [] hl hlay hh.1 x hxo
 generalize x.hold l h=b at *
 refine FSpec.of_ok tok Tryz.func32 rfl Tryz.call32 (by simp) ?_
 (try (conv=>whnf));repeat' (first|refine Ok.seq ?_|((first|refine Ok.region tok ?_|refine Ok.cond ?_|refine Ok.skip ?_|refine Ok.ret ?_);conv=>whnf)|(refine Or.inr (Or.inl ?_);(conv=>whnf);(repeat (refine aI ?_;conv=>whnf));refine⟨_,hk,?_⟩;rintro _ _ ⟨rfl,rfl⟩;conv=>whnf)|(refine Or.inl ?_;(conv=>whnf);(repeat (refine aI ?_;conv=>whnf));refine⟨_,mx,_,sx,rfl,?_⟩;conv=>whnf)|(refine Or.inr (Or.inl ?_);(conv=>whnf);(repeat (refine aI ?_;conv=>whnf));refine⟨_,hu , ?_⟩;rintro _ _ ⟨rfl,rfl⟩<;>(conv=>whnf))|(refine bI ?_ ?_<;>intro<;>(conv=>whnf)<;>(try (exfalso;omega)))|fail)
 all_goals first
  | (exfalso;omega)
  | (refine Or.inl ?_;(conv=>whnf)
     rfl)
end Go.Proofs.YtcglkonooeddfaaGreatDoor
namespace Go.Proofs.YtcglkonooeddfaaGreatDoor
open Go Go.Vx Go.Shelf
abbrev Oc:=Int × Int × List Term
def allT(w:Nat):Term:=⟨List.replicate w 120,[]⟩
theorem termT_one{p:Str}:termT p []=some ⟨p,[]⟩:=by
 have h:PK p []=[]:=rfl
 rw[termT_pk1 (by rw[h];simp),h]
theorem formT_one{t:Term}:formT [t]=[t]:=by rw[formT_b];rfl
theorem ofO_one{c:Str}(hn:c ≠ []):ofO c []=(0,(c.length:Int),[⟨c,[]⟩]):=by
 rw[ofO_some (by simp) (fun q=>q.elim (fun⟨m,hm,_⟩=>by cases hm) hn) termT_one,formT_one,bndO_le (by simp[szT])]
theorem one_fine{c:Str}(hc:CT c)(hn:c ≠ []):Fine (c.length:Int) [⟨c,[]⟩]:=by
 have h:=ofO_fine (c:=c) (less:=[]) hc (by simp)
 rw[ofO_one hn] at h
 exact h
theorem rep_ct(w:Nat)(h:w<=256):CT (List.replicate w 120):=⟨by simp;omega,fun b hb=>by rw[(List.mem_replicate.1 hb).2];simp⟩
theorem all_fine{w:Nat}(h0:w ≠ 0)(h:w<=256):Fine (w:Int) [allT w]:=by
 have:=one_fine (rep_ct w h) (fun e=>by have:=congrArg List.length e;simp at this;exact h0 this)
 simpa[allT] using this
theorem allC_nat{w:Nat}(h0:w ≠ 0)(h:w<=256):allC (w:Int)=List.replicate w 120:=by unfold allC;rw[if_neg (by omega)];rfl
noncomputable def negO(w:Nat)(o:Oc):Oc:=if o.1 ≠ 0 then o else minusO w o.2.1 [allT w] o.2.2
noncomputable def cubO:Oc->List Str->Oc
 | o,[]=>o
 | o,c :: cs=>if (joinO o.2.1 c.length o.2.2 [⟨c,[]⟩]).1 ≠ 0 then joinO o.2.1 c.length o.2.2 [⟨c,[]⟩] else cubO (joinO o.2.1 c.length o.2.2 [⟨c,[]⟩]) cs
noncomputable def tstO(l:List Fd)(t:Tst):Oc:=cubO (0,(wid l:Nat),[]) (cubL l t)
def isT(t:Tst):Tst:=⟨t.f,1,t.form,t.lo,t.hi,t.len,t.pat⟩
noncomputable def bothO(f:Int->Int->List Term->List Term->Oc)(x y:Oc):Oc:=if x.1 ≠ 0 then x else if y.1 ≠ 0 then y else f x.2.1 y.2.1 x.2.2 y.2.2
open Classical in
noncomputable def Tr.sp(l:List Fd):Tr->Oc
 | .leaf p=>if p then (0,(wid l:Nat),[allT (wid l)]) else (0,(wid l:Nat),[])
 | .test t=>if t.op=2 then negO (wid l) (tstO l (isT t)) else tstO l t
 | .neg x=>negO (wid l) (x.sp l)
 | .and x y=>bothO meetO (x.sp l) (y.sp l)
 | .or x y=>bothO joinO (x.sp l) (y.sp l)
theorem negO_err{w:Nat}{o:Oc}(h:o.1 ≠ 0):negO w o=o:=if_pos h
theorem negO_ok{w:Nat}{o:Oc}(h:o.1=0):negO w o=minusO w o.2.1 [allT w] o.2.2:=if_neg (fun x=>x h)
theorem bothO_1{f:Int->Int->List Term->List Term->Oc}{x y:Oc}(h:x.1 ≠ 0):bothO f x y=x:=if_pos h
theorem bothO_2{f:Int->Int->List Term->List Term->Oc}{x y:Oc}(h:x.1=0)(h2:y.1 ≠ 0):bothO f x y=y:=(if_neg (fun e=>e h)).trans (if_pos h2)
theorem bothO_3{f:Int->Int->List Term->List Term->Oc}{x y:Oc}(h:x.1=0)(h2:y.1=0):bothO f x y=f x.2.1 y.2.1 x.2.2 y.2.2:=(if_neg (fun e=>e h)).trans (if_neg (fun e=>e h2))
theorem cubO_bad{o:Oc}{c:Str}{cs:List Str}(h:(joinO o.2.1 c.length o.2.2 [⟨c,[]⟩]).1 ≠ 0):cubO o (c :: cs)=joinO o.2.1 c.length o.2.2 [⟨c,[]⟩]:=if_pos h
theorem cubO_ok{o:Oc}{c:Str}{cs:List Str}(h:(joinO o.2.1 c.length o.2.2 [⟨c,[]⟩]).1=0):cubO o (c :: cs)=cubO (joinO o.2.1 c.length o.2.2 [⟨c,[]⟩]) cs:=if_neg (fun e=>e h)
def FineO(o:Oc):Prop:=Fine o.2.1 o.2.2
theorem cubO_fine:∀ (cs:List Str) (o:Oc),FineO o->(∀ c ∈ cs,CT c/\c ≠ [])->FineO (cubO o cs)
 | [],o,h,_=>h
 | c :: cs,o,h,hc=>by
  have h1:=hc c (by simp)
  have h2:FineO (joinO o.2.1 c.length o.2.2 [⟨c,[]⟩]):=joinO_fine h (one_fine h1.1 h1.2)
  by_cases he:(joinO o.2.1 c.length o.2.2 [⟨c,[]⟩]).1=0
  . rw[cubO_ok he];exact cubO_fine cs _ h2 fun x hx=>hc x (by simp[hx])
  . rw[cubO_bad he];exact h2
theorem xsT_cub(n:Nat):cubOk (xsT n):=fun b hb=>by rw[(List.mem_replicate.1 hb).2];simp
theorem cub_app{a b:Str}(ha:cubOk a)(hb:cubOk b):cubOk (a++b):=fun x hx=>(mAp0.1 hx).elim (ha x) (hb x)
theorem bitC_cub(v k:Nat):bitC v k=48\/bitC v k=49:=by unfold bitC;split<;>simp
theorem binT_cub(v b n:Nat):cubOk (binT v b n):=fun x hx=>by
 unfold binT at hx
 obtain⟨i,_,rfl⟩:=List.mem_map.1 hx
 rcases bitC_cub v (b - 1 - i) with h|h<;>simp[h]
theorem coverF_cub{bits H:Nat}:∀ (k lo:Nat),∀ s ∈ coverF bits H k lo,cubOk s
 | 0,lo=>by simp[coverF]
 | k+1,lo=>by
  unfold coverF
  split
  . intro s hs
    rcases List.mem_cons.1 hs with rfl|hs
    . exact cub_app (binT_cub _ _ _) (xsT_cub _)
    . exact coverF_cub k _ s hs
  . simp
theorem val_cub{t:Tst}{b:Nat}(h0:1<=b)(hb:b<=32)(hpl:t.form=4->DigOk t.pat b)(hn:t.len.toNat<=b):∀ s ∈ valT t b,cubOk s:=by
 have hc:∀ H lo,∀ s ∈ coverC b H lo,cubOk s:=fun H lo=>coverF_cub _ _
 have hol:=one_len (t:=t) (b:=b) (fun h=>(hpl h).1) hn
 have hoc:=one_cub (t:=t) (b:=b) (fun h=>(hpl h).2)
 intro s hs
 unfold valT eitT at hs
 repeat' split at hs
 all_goals first
  | exact hc _ _ s hs
  | (rcases mAp0.1 hs with h|h<;>exact hc _ _ s h)
  | (rw[List.mem_singleton.1 hs];exact hoc)
  | (exact ((splitT_cn (xs_cn (by omega) h0) ⟨by omega,hoc⟩) s hs).1.1.2)
theorem chkFrom_wid{all:List Fd}:∀ (r:List Fd) (i:Nat) (sum:Int),(chkFrom all r i sum).1=0->sum<=256->sum+(wid r:Nat)<=256
 | [],_,_,_,hs=>by simp[wid];exact hs
 | f :: r,i,sum,h,hs=>by
  by_cases hb:badF (all.take i) f sum
  . rw[chkFrom_bad hb] at h;cases h
  . rw[chkFrom_ok hb] at h
    have h1:¬ 256<sum+f.bits:=fun e=>hb (.inr (.inr (.inr (.inr (.inr (.inr e))))))
    have h2:¬ f.bits<1:=fun e=>hb (.inr (.inr (.inr (.inr (.inl e)))))
    have:=chkFrom_wid r _ _ h (by omega)
    simp only[wid,List.map_cons,List.sum_cons] at this ⊢
    omega
theorem chk_wid{l:List Fd}(h:(chkO l).1=0):wid l<=256:=by
 by_cases h1:12<l.length
 . rw[chkO_long h1] at h;cases h
 by_cases h2:l.length=0
 . rw[chkO_nil h2] at h;cases h
 rw[chkO_of h1 h2] at h
 have:=chkFrom_wid _ _ _ h (by omega)
 omega
theorem cubL_ct{l:List Fd}{t:Tst}(hc:(chkO l).1=0)(he:errF l t=0):∀ c ∈ cubL l t,CT c/\c ≠ []:=by
 obtain⟨hlay,_⟩:=chk_lay hc
 have hw:=chk_wid hc
 rcases find_cases t.f l with hfi|⟨k,f,hfi,hf⟩
 . rw[errF_none hfi] at he;cases he
 rw[errF_some hfi hf] at he
 have hfb:=hlay f (mOf0 hf)
 obtain⟨hF,hV,hD⟩:=errT_zero he
 have hn:t.len.toNat<=f.bits.toNat:=by have:=hV.2.2.2.2.2;omega
 intro c hcm
 unfold cubL at hcm
 rw[hfi,show ((k:Nat):Int).toNat=k from rfl,hf] at hcm
 dsimp only at hcm
 obtain⟨s,hs,rfl⟩:=List.mem_map.1 hcm
 have h1:=val_one (t:=t) (b:=f.bits.toNat) (by omega) (by omega) hD hn s hs
 have h2:=val_cub (t:=t) (b:=f.bits.toNat) (by omega) (by omega) hD hn s hs
 have h3:=wid_app l (k+1)
 have h4:=wid_snoc hf
 have hlen:(wrapT l k s).length=wid l:=by unfold wrapT;simp only[List.length_append,xsT_len];omega
 refine⟨⟨by omega,cub_app (cub_app (xsT_cub _) h2) (xsT_cub _)⟩,fun e=>?_⟩
 rw[e] at hlen
 simp at hlen
 omega
theorem cubL_len{l:List Fd}{t:Tst}(hc:(chkO l).1=0)(he:errF l t=0):(cubL l t).length<=400:=by
 obtain⟨hlay,_⟩:=chk_lay hc
 rcases find_cases t.f l with hfi|⟨k,f,hfi,hf⟩
 . rw[errF_none hfi] at he;cases he
 rw[errF_some hfi hf] at he
 have hfb:=hlay f (mOf0 hf)
 obtain⟨hF,hV,hD⟩:=errT_zero he
 unfold ValOk at hV
 have h1:=val_len (t:=t) (b:=f.bits.toNat) (by omega) (by omega) (by omega) (by omega)
 unfold cubL
 rw[hfi,show ((k:Nat):Int).toNat=k from rfl,hf]
 simpa using h1
theorem errT_is{t:Tst}{b:Nat}(h:t.op=2):errT (isT t) b=errT t b:=by
 have hF:FormOk (isT t)=FormOk t:=propext ⟨fun⟨a,p⟩=>⟨by simp only[isT] at a;omega,p⟩,fun⟨a,p⟩=>⟨by simp only[isT];omega,p⟩⟩
 unfold errT
 rw[hF]
 rfl
theorem errF_is{l:List Fd}{t:Tst}(h:t.op=2):errF l (isT t)=errF l t:=by
 rcases find_cases t.f l with hfi|⟨k,f,hfi,hf⟩
 . rw[errF_none hfi,errF_none (t:=isT t) hfi]
 . rw[errF_some hfi hf,errF_some (t:=isT t) hfi hf,errT_is h]
theorem negO_fine{w:Nat}{o:Oc}(h0:w ≠ 0)(h:w<=256)(ho:FineO o):FineO (negO w o):=by
 by_cases he:o.1=0
 . rw[negO_ok he];exact minusO_fine (all_fine h0 h) ho
 . rw[negO_err he];exact ho
theorem tstO_fine{l:List Fd}{t:Tst}(hc:(chkO l).1=0)(he:errF l t=0):FineO (tstO l t):=
 cubO_fine _ _ (Fine.nil (by show (0:Int)<=(wid l:Nat);omega) (by have:=chk_wid hc;show ((wid l:Nat):Int)<=256;omega)) (cubL_ct hc he)
theorem sp_fine{l:List Fd}(hc:(chkO l).1=0):∀ x:Tr,x.ok l->FineO (x.sp l)
 | .leaf p,_=>by
  have hw:=chk_wid hc
  have h0:=wid_pos hc
  unfold Tr.sp
  split
  . exact all_fine h0 hw
  . exact Fine.nil (by show (0:Int)<=(wid l:Nat);omega) (by show ((wid l:Nat):Int)<=256;omega)
 | .test t,h=>by
  unfold Tr.sp
  split
  . rename_i h2
    exact negO_fine (wid_pos hc) (chk_wid hc) (tstO_fine hc (by rw[errF_is h2];exact h))
  . exact tstO_fine hc h
 | .neg x,h=>by unfold Tr.sp;exact negO_fine (wid_pos hc) (chk_wid hc) (sp_fine hc x h)
 | .and x y,h=>by
  have h1:=sp_fine hc x h.1
  have h2:=sp_fine hc y h.2
  unfold Tr.sp bothO
  split
  . exact h1
  . split
    . exact h2
    . exact meetO_fine h1 h2
 | .or x y,h=>by
  have h1:=sp_fine hc x h.1
  have h2:=sp_fine hc y h.2
  unfold Tr.sp bothO
  split
  . exact h1
  . split
    . exact h2
    . exact joinO_fine h1 h2
end Go.Proofs.YtcglkonooeddfaaGreatDoor
namespace Go.Proofs.YtcglkonooeddfaaGreatDoor
open Go Go.Vx Go.Shelf
def SpR(o:Oc)(d:D)(rows:Vx.Rows):Prop:=rows=[]/\∃ (n:Int) (ks:List TR) (rm:List (List D)),d = .tup [.agg [.i .i64 n,.lst 142 (ks.map trow) rm],.i .i64 o.1]/\(o.1=0->n=o.2.1/\ks.map TR.t=o.2.2)
theorem SpR.err{o:Oc}{n:Int}{ks:List TR}{rm:List (List D)}(h:o.1 ≠ 0):SpR o (.tup [.agg [.i .i64 n,.lst 142 (ks.map trow) rm],.i .i64 o.1]) []:=⟨rfl,n,ks,rm,rfl,fun e=>absurd e h⟩
theorem every_at(w:Nat)(h0:w ≠ 0)(h:w<=256):FSpec Tryz.prog T 343 [.i .i64 (w:Nat)] (POut (0,(w:Nat),[allT w])):=by
 have hne:List.replicate w (120:UInt8) ≠ []:=fun e=>by have:=congrArg List.length e;simp at this;exact h0 this
 have hal:=all_at (w:Nat)
 rw[allC_nat h0 h] at hal
 have hof:=of_at (List.replicate w 120) [] [] (rep_ct w h) (by simp)
 rw[ofO_one hne,List.length_replicate] at hof
 refine FSpec.of_ok tok Tryz.func343 rfl Tryz.call343 (by simp) ?_
 (try (conv=>whnf));repeat' (first|refine Ok.seq ?_|((first|refine Ok.region tok ?_|refine Ok.ret ?_);conv=>whnf)|(refine Or.inr (Or.inl ?_);(conv=>whnf);(repeat (refine aI ?_;conv=>whnf));refine⟨_,hal , ?_⟩;rintro _ _ ⟨rfl,rfl⟩<;>(conv=>whnf))|(refine Or.inr (Or.inl ?_);(conv=>whnf);(repeat (refine aI ?_;conv=>whnf));refine⟨_,hof , ?_⟩;rintro _ _ ⟨rfl,_,rfl,ks,rm,rfl,hks⟩<;>(conv=>whnf))|fail)
 refine Or.inl ?_;(conv=>whnf)
 exact⟨rfl,_,rfl,ks,rm,rfl,hks⟩
theorem others_at(w:Nat)(h0:w ≠ 0)(h:w<=256)(o:Oc)(ho:FineO o)(n:Int)(ks:List TR)(rm:List (List D))(hk:o.1=0->n=o.2.1/\ks.map TR.t=o.2.2) :
    FSpec Tryz.prog T 351 [.agg [.i .i64 n,.lst 142 (ks.map trow) rm],.i .i64 o.1,.i .i64 (w:Nat)] (SpR (negO w o)):=by
 have hev:=every_at w h0 h
 by_cases he:o.1=0
 . obtain⟨rfl,hks⟩:=hk he
   have hmi:=fun ks1 rm1 hk1=>minus_at (all_fine h0 h) ho ks1 ks rm1 rm hk1 hks
   rw[negO_ok he,he]
   generalize minusO (w:Nat) o.2.1 [allT w] o.2.2=M at *
   refine FSpec.of_ok tok Tryz.func351 rfl Tryz.call351 (by simp) ?_
   (try (conv=>whnf));repeat' (first|refine Ok.seq ?_|((first|refine Ok.region tok ?_|refine Ok.cond ?_|refine Ok.skip ?_|refine Ok.ret ?_);conv=>whnf)|(refine Or.inr (Or.inl ?_);(conv=>whnf);(repeat (refine aI ?_;conv=>whnf));refine⟨_,hev , ?_⟩;rintro _ _ ⟨rfl,_,rfl,ks1,rm1,rfl,hks1⟩<;>(conv=>whnf))|(refine Or.inr (Or.inl ?_);(conv=>whnf);(repeat (refine aI ?_;conv=>whnf));refine⟨_,hmi ks1 rm1 hks1 , ?_⟩;rintro _ _ ⟨rfl,_,rfl,ks2,rm2,rfl,hks2⟩<;>(conv=>whnf))|(refine bI ?_ ?_<;>intro<;>(conv=>whnf)<;>(try (exfalso;omega)))|fail)
   all_goals first
    | (exfalso;omega)
    | (rename_i h;exact absurd rfl h)
    | (refine Or.inl ?_;(conv=>whnf)
       exact⟨rfl,_,ks2,rm2,rfl,fun _=>⟨rfl,hks2⟩⟩)
 . rw[negO_err he]
   refine FSpec.of_ok tok Tryz.func351 rfl Tryz.call351 (by simp) ?_
   (try (conv=>whnf));repeat' (first|refine Ok.seq ?_|((first|refine Ok.region tok ?_|refine Ok.cond ?_|refine Ok.ret ?_);conv=>whnf)|(refine bI ?_ ?_<;>intro<;>(conv=>whnf)<;>(try (exfalso;omega)))|fail)
   all_goals first
    | (exfalso;omega)
    | (refine Or.inl ?_;(conv=>whnf)
       exact SpR.err he)
theorem leafS(l:List Fd)(r:List (List D))(p:Prop)(h0:wid l ≠ 0)(h:wid l<=256):FSpec Tryz.prog T 341 [.agg [.b p],.lst 127 (l.map frow) r,.i .i64 (wid l:Nat)] (SpR ((Tr.leaf p).sp l)):=by
 have hev:=every_at (wid l) h0 h
 have hno:=none_at (wid l:Nat)
 have hnb:noneB (wid l:Nat)=(wid l:Nat):=by unfold noneB;rw[if_neg (by omega)]
 rw[hnb] at hno
 refine FSpec.of_ok tok Tryz.func341 rfl Tryz.call341 (by simp) ?_
 by_cases hp:p
 . rw[show (Tr.leaf p).sp l=((0,((wid l:Nat):Int),[allT (wid l)]):Oc) by unfold Tr.sp;rw[if_pos hp]]
   (try (conv=>whnf));repeat' (first|(refine⟨fun _=>?_,fun h=>absurd hp h⟩;conv=>whnf)|refine Ok.seq ?_|((first|refine Ok.region tok ?_|refine Ok.cond ?_|refine Ok.ret ?_);conv=>whnf)|(refine Or.inr (Or.inl ?_);(conv=>whnf);(repeat (refine aI ?_;conv=>whnf));refine⟨_,hev , ?_⟩;rintro _ _ ⟨rfl,_,rfl,ks1,rm1,rfl,hks1⟩<;>(conv=>whnf))|fail)
   refine Or.inl ?_;(conv=>whnf)
   exact⟨rfl,_,ks1,rm1,rfl,fun _=>⟨rfl,hks1⟩⟩
 . rw[show (Tr.leaf p).sp l=((0,((wid l:Nat):Int),[]):Oc) by unfold Tr.sp;rw[if_neg hp]]
   (try (conv=>whnf));repeat' (first|(refine⟨fun h=>absurd h hp,fun _=>?_⟩;conv=>whnf)|refine Ok.seq ?_|((first|refine Ok.region tok ?_|refine Ok.cond ?_|refine Ok.skip ?_|refine Ok.ret ?_);conv=>whnf)|(refine Or.inr (Or.inl ?_);(conv=>whnf);(repeat (refine aI ?_;conv=>whnf));refine⟨_,hno , ?_⟩;rintro _ _ ⟨rfl,rfl⟩<;>(conv=>whnf))|fail)
   refine Or.inl ?_;(conv=>whnf)
   exact⟨rfl,_,[],[],rfl,fun _=>⟨rfl,rfl⟩⟩
theorem plainS(l:List Fd)(r:List (List D))(hl:l.length<=1000)(hc:(chkO l).1=0)(f:Str)(op form lo hi len:Int)(pat:Str)(hs:pat.length<=1000000000000)(hop:op ≠ 2)(he:errF l ⟨f,op,form,lo,hi,len,pat⟩=0) :
    FSpec Tryz.prog T 348 [.agg (tcl f op form lo hi len pat),.lst 127 (l.map frow) r,.i .i64 (wid l:Nat)] (SpR (tstO l ⟨f,op,form,lo,hi,len,pat⟩)):=by
 have h0:=wid_pos hc
 have hw:=chk_wid hc
 have hcu:=cubes_ok l r hl f op form lo hi len pat hs (by rw[errC_f hc];exact he)
 have hct:=cubL_ct hc he
 have hno:=none_at (wid l:Nat)
 have hnb:noneB (wid l:Nat)=(wid l:Nat):=by unfold noneB;rw[if_neg (by omega)]
 rw[hnb] at hno
 have hcl:(cubL l ⟨f,op,form,lo,hi,len,pat⟩).length<=400:=cubL_len hc he
 unfold tstO
 generalize cubL l ⟨f,op,form,lo,hi,len,pat⟩=C at *
 have hCm:(C.map srow).length=C.length:=by simp
 refine FSpec.of_ok tok Tryz.func348 rfl Tryz.call348 (by simp) ?_
 (try (conv=>whnf));repeat' (first|refine Ok.seq ?_|((first|refine Ok.region tok ?_|refine Ok.cond ?_);conv=>whnf)|refine Ok.block ?_|(refine Ok.skip ?_;conv=>whnf)|(refine Or.inr (Or.inl ?_);(conv=>whnf);(repeat (refine aI ?_;conv=>whnf));refine⟨_,hcu,?_⟩;rintro _ _ ⟨rfl,rfl⟩;conv=>whnf)|(refine Or.inr (Or.inl ?_);(conv=>whnf);(repeat (refine aI ?_;conv=>whnf));refine⟨_,hno , ?_⟩;rintro _ _ ⟨rfl,rfl⟩<;>(conv=>whnf))|(refine bI ?_ ?_<;>intro<;>(conv=>whnf)<;>(try (exfalso;omega)))|fail)
 all_goals first
  | (exfalso;omega)
  | (rename_i h;exact absurd rfl h)
  | skip
 refine Ok.loopU [6,12,50,51] [52] 1 3 (fun (x:Nat × Oc × List TR × List (List D))=>[.i .i64 (x.1:Nat)]) (fun (x:Nat × Oc × List TR × List (List D)) (_:List (List D))=>[tcl f op form lo hi len pat,[.i .i64 0,.nilS],[.i .i64 x.2.1.2.1,.lst 142 (x.2.2.1.map trow) x.2.2.2]]) (fun _ r=>r) (fun (x:Nat × Oc × List TR × List (List D))=>x.1<=C.length/\FineO x.2.1/\x.2.1.1=0/\x.2.2.1.map TR.t=x.2.1.2.2/\cubO (0,(wid l:Nat),[]) C=cubO x.2.1 (C.drop x.1)) (fun (x:Nat × Oc × List TR × List (List D))=>C.length - x.1) ((0,(0,(wid l:Nat),[]),[],[])) (⟨Nat.zero_le _,Fine.nil (by show (0:Int)<=(wid l:Nat);omega) (by show ((wid l:Nat):Int)<=256;omega),rfl,rfl,rfl⟩) ?_;(conv=>whnf);refine⟨by ((conv=>whnf);first|rfl|(simp[envCat,tkL0,nrow,frow,bcell,srow,tcells,crow,qrow,trow,drow];done)|(simp[envCat,tkL0,nrow,frow,bcell,srow,tcells,crow,qrow,trow,drow];rw[IntKind.wrap_i64];omega)),?_⟩
 rintro⟨k,o,ks,rm⟩ ⟨hk,hfo,ho0,hks,hcb⟩
 dsimp only at hk hfo ho0 hks hcb ⊢
 (conv=>whnf)
 by_cases hkl:k<C.length
 . obtain⟨c,hcc⟩:∃ c,C[k]? = some c:=⟨_,gEt0 hkl⟩
   have hcI:C[((k:Nat):Int).toNat]? = some c:=hcc
   obtain⟨hc1,hc2⟩:=hct c (mOf0 hcc)
   have hpa:=parse_at c
   rw[zer_of ⟨hc1,hc2⟩,perr_of ⟨hc1,hc2⟩] at hpa
   have hof:=of_at c [] [] hc1 (by simp)
   rw[ofO_one hc2] at hof
   rw[edrop_at hcc] at hcb
   have hjo:=fun ks1 rm1 hk1=>join_at hfo (one_fine hc1 hc2) ks ks1 rm rm1 hks hk1
   have hjf:FineO (joinO o.2.1 c.length o.2.2 [⟨c,[]⟩]):=joinO_fine hfo (one_fine hc1 hc2)
   have hb1:=cubO_bad (o:=o) (c:=c) (cs:=C.drop (k+1))
   have hb2:=cubO_ok (o:=o) (c:=c) (cs:=C.drop (k+1))
   generalize joinO o.2.1 c.length o.2.2 [⟨c,[]⟩]=J at *
   obtain⟨je,jn,jt⟩:=J
   by_cases hje:je=0
   . subst hje
     have hcb2:=hcb.trans (hb2 rfl)
     (try (conv=>whnf));repeat' (first|refine Ok.seq ?_|((first|refine Ok.region tok ?_|refine Ok.cond ?_);conv=>whnf)|refine Ok.block ?_|((first|refine Ok.skip ?_|refine nI ?_);conv=>whnf)|(refine Or.inr (Or.inl ?_);(conv=>whnf);(repeat (refine aI ?_;conv=>whnf));refine⟨_,hpa , ?_⟩;rintro _ _ ⟨rfl,rfl⟩<;>(conv=>whnf))|(refine Or.inr (Or.inl ?_);(conv=>whnf);(repeat (refine aI ?_;conv=>whnf));refine⟨_,hof , ?_⟩;rintro _ _ ⟨rfl,_,rfl,ks1,rm1,rfl,hks1⟩<;>(conv=>whnf))|(refine Or.inr (Or.inl ?_);(conv=>whnf);(repeat (refine aI ?_;conv=>whnf));refine⟨_,hjo ks1 rm1 hks1 , ?_⟩;rintro _ _ ⟨rfl,_,rfl,ks2,rm2,rfl,hks2⟩<;>(conv=>whnf))|(refine rd rfl (by assumption) ?_;conv=>whnf)|(refine bI ?_ ?_<;>intro<;>(conv=>whnf)<;>(try (exfalso;omega)))|(refine aJ ?_;conv=>whnf)|fail)
     all_goals first
      | (exfalso;omega)
      | (rename_i h;exact absurd rfl h)
      | (refine⟨(k+1,(0,jn,jt),ks2,rm2),by dsimp only;omega,⟨by dsimp only;omega,hjf,rfl,hks2,hcb2⟩,?_⟩
         (conv=>whnf)
         rfl)
   . have hcb2:=hcb.trans (hb1 hje)
     rw[hcb2]
     (try (conv=>whnf));repeat' (first|refine Ok.seq ?_|((first|refine Ok.region tok ?_|refine Ok.cond ?_);conv=>whnf)|refine Ok.block ?_|((first|refine Ok.skip ?_|refine Ok.ret ?_);conv=>whnf)|(refine Or.inr (Or.inl ?_);(conv=>whnf);(repeat (refine aI ?_;conv=>whnf));refine⟨_,hpa , ?_⟩;rintro _ _ ⟨rfl,rfl⟩<;>(conv=>whnf))|(refine Or.inr (Or.inl ?_);(conv=>whnf);(repeat (refine aI ?_;conv=>whnf));refine⟨_,hof , ?_⟩;rintro _ _ ⟨rfl,_,rfl,ks1,rm1,rfl,hks1⟩<;>(conv=>whnf))|(refine Or.inr (Or.inl ?_);(conv=>whnf);(repeat (refine aI ?_;conv=>whnf));refine⟨_,hjo ks1 rm1 hks1 , ?_⟩;rintro _ _ ⟨rfl,_,rfl,ks2,rm2,rfl,hks2⟩<;>(conv=>whnf))|(refine rd rfl (by assumption) ?_;conv=>whnf)|(refine bI ?_ ?_<;>intro<;>(conv=>whnf)<;>(try (exfalso;omega)))|(refine aJ ?_;conv=>whnf)|fail)
     all_goals first
      | (exfalso;omega)
      | (rename_i h;exact absurd rfl h)
      | (refine Or.inl ?_;(conv=>whnf)
         exact SpR.err (o:=(je,jn,jt)) hje)
 . have hke:k=C.length:=by omega
   subst hke
   rw[List.drop_length] at hcb
   have hcb:cubO (0,(wid l:Nat),[]) C=o:=hcb
   rw[hcb]
   (try (conv=>whnf));repeat' (first|refine Ok.seq ?_|((first|refine Ok.region tok ?_|refine Ok.cond ?_|refine Ok.exit ?_|refine Ok.ret ?_);conv=>whnf)|(refine bI ?_ ?_<;>intro<;>(conv=>whnf)<;>(try (exfalso;omega)))|fail)
   all_goals first
    | (exfalso;omega)
    | (refine Or.inl ?_;(conv=>whnf)
       refine⟨rfl,_,ks,rm,?_,fun _=>⟨rfl,hks⟩⟩
       rw[ho0]
       rfl)
end Go.Proofs.YtcglkonooeddfaaGreatDoor
namespace Go.Proofs.YtcglkonooeddfaaGreatDoor
open Go Go.Vx Go.Shelf
theorem testS(l:List Fd)(r:List (List D))(hl:l.length<=1000)(hc:(chkO l).1=0)(f:Str)(op form lo hi len:Int)(pat:Str)(hs:pat.length<=1000000000000)(he:errF l ⟨f,op,form,lo,hi,len,pat⟩=0) :
    FSpec Tryz.prog T 348 [.agg (tcl f op form lo hi len pat),.lst 127 (l.map frow) r,.i .i64 (wid l:Nat)] (SpR ((Tr.test ⟨f,op,form,lo,hi,len,pat⟩).sp l)):=by
 by_cases hop:op=2
 case neg=>
  rw[show (Tr.test ⟨f,op,form,lo,hi,len,pat⟩).sp l=tstO l ⟨f,op,form,lo,hi,len,pat⟩ by unfold Tr.sp;exact if_neg hop]
  exact plainS l r hl hc f op form lo hi len pat hs hop he
 rw[show (Tr.test ⟨f,op,form,lo,hi,len,pat⟩).sp l=negO (wid l) (tstO l ⟨f,1,form,lo,hi,len,pat⟩) by unfold Tr.sp;exact if_pos hop]
 have h0:=wid_pos hc
 have hw:=chk_wid hc
 have he1:errF l ⟨f,1,form,lo,hi,len,pat⟩=0:=by have:=errF_is (l:=l) (t:=⟨f,op,form,lo,hi,len,pat⟩) hop;exact this.trans he
 have hpl:=plainS l r hl hc f 1 form lo hi len pat hs (by decide) he1
 have hof:=tstO_fine hc he1
 subst hop
 generalize tstO l ⟨f,1,form,lo,hi,len,pat⟩=o at *
 have hot:=fun n ks rm hk=>others_at (wid l) h0 hw o hof n ks rm hk
 unfold SpR at hpl hot
 generalize negO (wid l) o=O2 at *
 generalize o.1=o1 at *
 refine FSpec.of_ok tok Tryz.func348 rfl Tryz.call348 (by simp) ?_
 (try (conv=>whnf));repeat' (first|refine Ok.seq ?_|((first|refine Ok.region tok ?_|refine Ok.cond ?_|refine Ok.ret ?_);conv=>whnf)|(refine Or.inr (Or.inl ?_);(conv=>whnf);(repeat (refine aI ?_;conv=>whnf));refine⟨_,hpl , ?_⟩;rintro _ _ ⟨rfl,n1,ks1,rm1,rfl,hk1⟩<;>(conv=>whnf))|(refine Or.inr (Or.inl ?_);(conv=>whnf);(repeat (refine aI ?_;conv=>whnf));refine⟨_,hot n1 ks1 rm1 hk1 , ?_⟩;rintro _ _ ⟨rfl,n2,ks2,rm2,rfl,hk2⟩<;>(conv=>whnf))|(refine bI ?_ ?_<;>intro<;>(conv=>whnf)<;>(try (exfalso;omega)))|fail)
 all_goals first
  | (exfalso;omega)
  | (refine Or.inl ?_;(conv=>whnf)
     exact⟨rfl,n2,ks2,rm2,rfl,hk2⟩)
theorem sLeaf:MethC Tryz.prog "reach/expr.space" 282 341:=.of tok (by kernel_rfl) (by kernel_rfl) Tryz.call341
theorem sTest:MethC Tryz.prog "reach/expr.space" 284 348:=.of tok (by kernel_rfl) (by kernel_rfl) Tryz.call348
theorem sNot:MethC Tryz.prog "reach/expr.space" 286 361:=.of tok (by kernel_rfl) (by kernel_rfl) Tryz.call361
theorem sAnd:MethC Tryz.prog "reach/expr.space" 290 367:=.of tok (by kernel_rfl) (by kernel_rfl) Tryz.call367
theorem sOr:MethC Tryz.prog "reach/expr.space" 291 377:=.of tok (by kernel_rfl) (by kernel_rfl) Tryz.call377
def Tr.pok:Tr->Prop
 | .leaf _=>True|.test t=>t.pat.length<=1000000000000|.neg x=>x.pok|.and x y=>x.pok/\y.pok|.or x y=>x.pok/\y.pok
def SpS(l:List Fd)(r:List (List D))(f:FuncId)(cs:List D)(o:Oc):Prop:=FSpec Tryz.prog T f [.agg cs,.lst 127 (l.map frow) r,.i .i64 (wid l:Nat)] (SpR o)
def SpR2(x y:Oc)(d:D)(rows:Vx.Rows):Prop:=rows=[]/\∃ (n m:Int) (ks ks2:List TR) (rm rm2:List (List D)) (e:Int),d = .tup [.agg [.i .i64 n,.lst 142 (ks.map trow) rm],.agg [.i .i64 m,.lst 142 (ks2.map trow) rm2],.i .i64 e] /\
 (x.1 ≠ 0->e=x.1)/\(x.1=0->e=y.1/\(y.1=0->(n=x.2.1/\ks.map TR.t=x.2.2)/\m=y.2.1/\ks2.map TR.t=y.2.2))
theorem spaces_at(l:List Fd)(r:List (List D))(x y:Tr)(fx fy:FuncId)(mx:MethC Tryz.prog "reach/expr.space" x.ty fx)(my:MethC Tryz.prog "reach/expr.space" y.ty fy)(sx:SpS l r fx x.cs (x.sp l))(sy:SpS l r fy y.cs (y.sp l)) :
    FSpec Tryz.prog T 372 [.agg [x.d,y.d],.lst 127 (l.map frow) r,.i .i64 (wid l:Nat)] (SpR2 (x.sp l) (y.sp l)):=by
 unfold SpS SpR at sx sy
 unfold SpR2
 generalize x.sp l=o at *
 generalize y.sp l=o2 at *
 obtain⟨oe,on,ot⟩:=o
 obtain⟨pe,pn,pt⟩:=o2
 dsimp only at sx sy ⊢
 by_cases hoe:oe=0
 . subst hoe
   refine FSpec.of_ok tok Tryz.func372 rfl Tryz.call372 (by simp) ?_
   (try (conv=>whnf));repeat' (first|refine Ok.seq ?_|((first|refine Ok.region tok ?_|refine Ok.region_plan (id:=5) tok follows [(0,3,[]),(0,4,[]),(1,4,[]),(3,4,[])] [.q 0,.q 1,.q 2,.l 3,.l 4,.q 5] (by kernel_rfl) ?_|refine Ok.cond ?_|refine Ok.skip ?_|refine Ok.ret ?_);conv=>whnf)|(refine Or.inr ?_;(conv=>whnf);refine⟨_,mx,?_⟩;(conv=>whnf);(repeat (refine aI ?_;conv=>whnf));refine⟨_,sx,?_⟩;rintro _ _ ⟨rfl,n1,ks1,rm1,rfl,hk1⟩<;>(conv=>whnf))|(refine Or.inr ?_;(conv=>whnf);refine⟨_,my,?_⟩;(conv=>whnf);(repeat (refine aI ?_;conv=>whnf));refine⟨_,sy,?_⟩;rintro _ _ ⟨rfl,n2,ks2,rm2,rfl,hk2⟩<;>(conv=>whnf))|(refine bI ?_ ?_<;>intro<;>(conv=>whnf)<;>(try (exfalso;omega)))|fail)
   all_goals first
    | (exfalso;omega)
    | (rename_i h;exact absurd rfl h)
    | (refine Or.inl ?_;(conv=>whnf)
       exact⟨rfl,_,_,ks1,ks2,rm1,rm2,_,rfl,fun e=>absurd rfl e,fun _=>⟨rfl,fun e=>⟨hk1 rfl,hk2 e⟩⟩⟩)
 . refine FSpec.of_ok tok Tryz.func372 rfl Tryz.call372 (by simp) ?_
   (try (conv=>whnf));repeat' (first|refine Ok.seq ?_|((first|refine Ok.region tok ?_|refine Ok.region_plan (id:=3) tok follows [(0,3,[]),(0,4,[]),(1,4,[]),(3,4,[])] [.q 0,.q 1,.q 2,.l 3,.l 4,.q 5] (by kernel_rfl) ?_|refine Ok.cond ?_|refine Ok.ret ?_);conv=>whnf)|(refine Or.inr ?_;(conv=>whnf);refine⟨_,mx,?_⟩;(conv=>whnf);(repeat (refine aI ?_;conv=>whnf));refine⟨_,sx,?_⟩;rintro _ _ ⟨rfl,n1,ks1,rm1,rfl,hk1⟩<;>(conv=>whnf))|(refine bI ?_ ?_<;>intro<;>(conv=>whnf)<;>(try (exfalso;omega)))|fail)
   all_goals first
    | (exfalso;omega)
    | (refine Or.inl ?_;(conv=>whnf)
       exact⟨rfl,_,_,ks1,[],rm1,_,_,rfl,fun _=>rfl,fun e=>absurd e hoe⟩)
end Go.Proofs.YtcglkonooeddfaaGreatDoor
namespace Go.Proofs.YtcglkonooeddfaaGreatDoor
open Go Go.Vx Go.Shelf
theorem spaces_1{l:List Fd}{r:List (List D)}{x y:Tr}(h:FSpec Tryz.prog T 372 [.agg [x.d,y.d],.lst 127 (l.map frow) r,.i .i64 (wid l:Nat)] (SpR2 (x.sp l) (y.sp l))){e:Int}(he:(x.sp l).1=e)(h0:e ≠ 0) :
    FSpec Tryz.prog T 372 [.agg [x.d,y.d],.lst 127 (l.map frow) r,.i .i64 (wid l:Nat)] (fun d rows=>rows=[]/\∃ (n m:Int) (ks ks2:List TR) (rm rm2:List (List D)),d = .tup [.agg [.i .i64 n,.lst 142 (ks.map trow) rm],.agg [.i .i64 m,.lst 142 (ks2.map trow) rm2],.i .i64 e]):=by
 refine FSpec.mono h ?_
 rintro d rows ⟨rfl,n,m,ks,ks2,rm,rm2,e',rfl,h1,_⟩
 subst he
 rw[h1 h0]
 exact⟨rfl,n,m,ks,ks2,rm,rm2,rfl⟩
theorem spaces_2{l:List Fd}{r:List (List D)}{x y:Tr}(h:FSpec Tryz.prog T 372 [.agg [x.d,y.d],.lst 127 (l.map frow) r,.i .i64 (wid l:Nat)] (SpR2 (x.sp l) (y.sp l))){e:Int}(hx:(x.sp l).1=0)(he:(y.sp l).1=e) :
    FSpec Tryz.prog T 372 [.agg [x.d,y.d],.lst 127 (l.map frow) r,.i .i64 (wid l:Nat)] (fun d rows=>rows=[]/\∃ (n m:Int) (ks ks2:List TR) (rm rm2:List (List D)),d = .tup [.agg [.i .i64 n,.lst 142 (ks.map trow) rm],.agg [.i .i64 m,.lst 142 (ks2.map trow) rm2],.i .i64 e] /\
     (e=0->(n=(x.sp l).2.1/\ks.map TR.t=(x.sp l).2.2)/\m=(y.sp l).2.1/\ks2.map TR.t=(y.sp l).2.2)):=by
 refine FSpec.mono h ?_
 rintro d rows ⟨rfl,n,m,ks,ks2,rm,rm2,e',rfl,_,h2⟩
 subst he
 obtain⟨rfl,h3⟩:=h2 hx
 exact⟨rfl,n,m,ks,ks2,rm,rm2,rfl,h3⟩
theorem notS(l:List Fd)(r:List (List D))(hc:(chkO l).1=0)(x:Tr)(hf:FineO (x.sp l))(fx:FuncId)(mx:MethC Tryz.prog "reach/expr.space" x.ty fx)(sx:SpS l r fx x.cs (x.sp l)):SpS l r 361 (Tr.neg x).cs ((Tr.neg x).sp l):=by
 have hot:=fun n ks rm hk=>others_at (wid l) (wid_pos hc) (chk_wid hc) (x.sp l) hf n ks rm hk
 have e1:(Tr.neg x).sp l=negO (wid l) (x.sp l):=rfl
 unfold SpS at sx ⊢
 rw[e1]
 unfold SpR at sx hot ⊢
 generalize negO (wid l) (x.sp l)=O2 at *
 generalize x.sp l=o at *
 obtain⟨oe,on,ot⟩:=o
 dsimp only at sx hot
 refine FSpec.of_ok tok Tryz.func361 rfl Tryz.call361 (by simp) ?_
 (try (conv=>whnf));repeat' (first|refine Ok.seq ?_|((first|refine Ok.region tok ?_|refine Ok.ret ?_);conv=>whnf)|(refine Or.inr ?_;(conv=>whnf);refine⟨_,mx,?_⟩;(conv=>whnf);(repeat (refine aI ?_;conv=>whnf));refine⟨_,sx,?_⟩;rintro _ _ ⟨rfl,n1,ks1,rm1,rfl,hk1⟩<;>(conv=>whnf))|(refine Or.inr (Or.inl ?_);(conv=>whnf);(repeat (refine aI ?_;conv=>whnf));refine⟨_,hot n1 ks1 rm1 hk1 , ?_⟩;rintro _ _ ⟨rfl,n2,ks2,rm2,rfl,hk2⟩<;>(conv=>whnf))|fail)
 all_goals first
  | (refine Or.inl ?_;(conv=>whnf)
     exact⟨rfl,n2,ks2,rm2,rfl,hk2⟩)
theorem andS(l:List Fd)(r:List (List D))(x y:Tr)(hfx:FineO (x.sp l))(hfy:FineO (y.sp l))(fx fy:FuncId)(mx:MethC Tryz.prog "reach/expr.space" x.ty fx)(my:MethC Tryz.prog "reach/expr.space" y.ty fy)(sx:SpS l r fx x.cs (x.sp l))(sy:SpS l r fy y.cs (y.sp l)) :
    SpS l r 367 (Tr.and x y).cs ((Tr.and x y).sp l):=by
 have hsp:=spaces_at l r x y fx fy mx my sx sy
 have e1:(Tr.and x y).sp l=bothO meetO (x.sp l) (y.sp l):=rfl
 unfold SpS
 rw[e1]
 show FSpec Tryz.prog T 367 [.agg [x.d,y.d],.lst 127 (l.map frow) r,.i .i64 (wid l:Nat)] _
 refine FSpec.of_ok tok Tryz.func367 rfl Tryz.call367 (by simp) ?_
 by_cases hx:(x.sp l).1=0
 . by_cases hy:(y.sp l).1=0
   . have h2:=spaces_2 hsp hx hy
     rw[bothO_3 hx hy]
     have hme:=fun ks ks2 rm rm2 h1 h2=>meet2_at hfx hfy ks ks2 rm rm2 h1 h2
     generalize meetO (x.sp l).2.1 (y.sp l).2.1 (x.sp l).2.2 (y.sp l).2.2=M at *
     (try (conv=>whnf));repeat' (first|(obtain⟨⟨rfl,hk1⟩,rfl,hk2⟩:=hk rfl;clear hk)|refine Ok.seq ?_|((first|refine Ok.region tok ?_|refine Ok.cond ?_|refine Ok.skip ?_|refine Ok.ret ?_);conv=>whnf)|(refine Or.inr (Or.inl ?_);(conv=>whnf);(repeat (refine aI ?_;conv=>whnf));refine⟨_,h2 , ?_⟩;rintro _ _ ⟨rfl,n1,n2,ks1,ks2,rm1,rm2,rfl,hk⟩<;>(conv=>whnf))|(refine Or.inr (Or.inl ?_);(conv=>whnf);(repeat (refine aI ?_;conv=>whnf));refine⟨_,hme ks1 ks2 rm1 rm2 hk1 hk2 , ?_⟩;rintro _ _ ⟨rfl,_,rfl,ks3,rm3,rfl,hks3⟩<;>(conv=>whnf))|(refine bI ?_ ?_<;>intro<;>(conv=>whnf)<;>(try (exfalso;omega)))|fail)
     all_goals first
      | (exfalso;omega)
      | (rename_i h;exact absurd rfl h)
      | (refine Or.inl ?_;(conv=>whnf)
         exact⟨rfl,_,ks3,rm3,rfl,fun _=>⟨rfl,hks3⟩⟩)
   . have h2:=spaces_2 hsp hx rfl
     rw[bothO_2 hx hy]
     generalize y.sp l=o at *
     obtain⟨oe,on,ot⟩:=o
     dsimp only at h2 hy
     (try (conv=>whnf));repeat' (first|refine Ok.seq ?_|((first|refine Ok.region tok ?_|refine Ok.cond ?_|refine Ok.ret ?_);conv=>whnf)|(refine Or.inr (Or.inl ?_);(conv=>whnf);(repeat (refine aI ?_;conv=>whnf));refine⟨_,h2 , ?_⟩;rintro _ _ ⟨rfl,n1,n2,ks1,ks2,rm1,rm2,rfl,hk⟩<;>(conv=>whnf))|(refine bI ?_ ?_<;>intro<;>(conv=>whnf)<;>(try (exfalso;omega)))|fail)
     all_goals first
      | (exfalso;omega)
      | (refine Or.inl ?_;(conv=>whnf)
         exact SpR.err (o:=(oe,on,ot)) hy)
 . have h1:=spaces_1 hsp rfl hx
   rw[bothO_1 hx]
   generalize x.sp l=o at *
   obtain⟨oe,on,ot⟩:=o
   dsimp only at h1 hx
   (try (conv=>whnf));repeat' (first|refine Ok.seq ?_|((first|refine Ok.region tok ?_|refine Ok.cond ?_|refine Ok.ret ?_);conv=>whnf)|(refine Or.inr (Or.inl ?_);(conv=>whnf);(repeat (refine aI ?_;conv=>whnf));refine⟨_,h1 , ?_⟩;rintro _ _ ⟨rfl,n1,n2,ks1,ks2,rm1,rm2,rfl⟩<;>(conv=>whnf))|(refine bI ?_ ?_<;>intro<;>(conv=>whnf)<;>(try (exfalso;omega)))|fail)
   all_goals first
    | (exfalso;omega)
    | (refine Or.inl ?_;(conv=>whnf)
       exact SpR.err (o:=(oe,on,ot)) hx)
theorem orS(l:List Fd)(r:List (List D))(x y:Tr)(hfx:FineO (x.sp l))(hfy:FineO (y.sp l))(fx fy:FuncId)(mx:MethC Tryz.prog "reach/expr.space" x.ty fx)(my:MethC Tryz.prog "reach/expr.space" y.ty fy)(sx:SpS l r fx x.cs (x.sp l))(sy:SpS l r fy y.cs (y.sp l)) :
    SpS l r 377 (Tr.or x y).cs ((Tr.or x y).sp l):=by
 have hsp:=spaces_at l r x y fx fy mx my sx sy
 have e1:(Tr.or x y).sp l=bothO joinO (x.sp l) (y.sp l):=rfl
 unfold SpS
 rw[e1]
 show FSpec Tryz.prog T 377 [.agg [x.d,y.d],.lst 127 (l.map frow) r,.i .i64 (wid l:Nat)] _
 refine FSpec.of_ok tok Tryz.func377 rfl Tryz.call377 (by simp) ?_
 by_cases hx:(x.sp l).1=0
 . by_cases hy:(y.sp l).1=0
   . have h2:=spaces_2 hsp hx hy
     rw[bothO_3 hx hy]
     have hme:=fun ks ks2 rm rm2 h1 h2=>join_at hfx hfy ks ks2 rm rm2 h1 h2
     generalize joinO (x.sp l).2.1 (y.sp l).2.1 (x.sp l).2.2 (y.sp l).2.2=M at *
     (try (conv=>whnf));repeat' (first|(obtain⟨⟨rfl,hk1⟩,rfl,hk2⟩:=hk rfl;clear hk)|refine Ok.seq ?_|((first|refine Ok.region tok ?_|refine Ok.cond ?_|refine Ok.skip ?_|refine Ok.ret ?_);conv=>whnf)|(refine Or.inr (Or.inl ?_);(conv=>whnf);(repeat (refine aI ?_;conv=>whnf));refine⟨_,h2 , ?_⟩;rintro _ _ ⟨rfl,n1,n2,ks1,ks2,rm1,rm2,rfl,hk⟩<;>(conv=>whnf))|(refine Or.inr (Or.inl ?_);(conv=>whnf);(repeat (refine aI ?_;conv=>whnf));refine⟨_,hme ks1 ks2 rm1 rm2 hk1 hk2 , ?_⟩;rintro _ _ ⟨rfl,_,rfl,ks3,rm3,rfl,hks3⟩<;>(conv=>whnf))|(refine bI ?_ ?_<;>intro<;>(conv=>whnf)<;>(try (exfalso;omega)))|fail)
     all_goals first
      | (exfalso;omega)
      | (rename_i h;exact absurd rfl h)
      | (refine Or.inl ?_;(conv=>whnf)
         exact⟨rfl,_,ks3,rm3,rfl,fun _=>⟨rfl,hks3⟩⟩)
   . have h2:=spaces_2 hsp hx rfl
     rw[bothO_2 hx hy]
     generalize y.sp l=o at *
     obtain⟨oe,on,ot⟩:=o
     dsimp only at h2 hy
     (try (conv=>whnf));repeat' (first|refine Ok.seq ?_|((first|refine Ok.region tok ?_|refine Ok.cond ?_|refine Ok.ret ?_);conv=>whnf)|(refine Or.inr (Or.inl ?_);(conv=>whnf);(repeat (refine aI ?_;conv=>whnf));refine⟨_,h2 , ?_⟩;rintro _ _ ⟨rfl,n1,n2,ks1,ks2,rm1,rm2,rfl,hk⟩<;>(conv=>whnf))|(refine bI ?_ ?_<;>intro<;>(conv=>whnf)<;>(try (exfalso;omega)))|fail)
     all_goals first
      | (exfalso;omega)
      | (refine Or.inl ?_;(conv=>whnf)
         exact SpR.err (o:=(oe,on,ot)) hy)
 . have h1:=spaces_1 hsp rfl hx
   rw[bothO_1 hx]
   generalize x.sp l=o at *
   obtain⟨oe,on,ot⟩:=o
   dsimp only at h1 hx
   (try (conv=>whnf));repeat' (first|refine Ok.seq ?_|((first|refine Ok.region tok ?_|refine Ok.cond ?_|refine Ok.ret ?_);conv=>whnf)|(refine Or.inr (Or.inl ?_);(conv=>whnf);(repeat (refine aI ?_;conv=>whnf));refine⟨_,h1 , ?_⟩;rintro _ _ ⟨rfl,n1,n2,ks1,ks2,rm1,rm2,rfl⟩<;>(conv=>whnf))|(refine bI ?_ ?_<;>intro<;>(conv=>whnf)<;>(try (exfalso;omega)))|fail)
   all_goals first
    | (exfalso;omega)
    | (refine Or.inl ?_;(conv=>whnf)
       exact SpR.err (o:=(oe,on,ot)) hx)
theorem space_at(l:List Fd)(r:List (List D))(hl:l.length ≤ 1000)(hc:(chkO l).1=0):∀ x:Tr,x.ok l → x.pok → ∃ f,MethC Tryz.prog "reach/expr.space" x.ty f ∧ SpS l r f x.cs (x.sp l)
 | .leaf p,_,_=>⟨_,sLeaf,leafS l r p (wid_pos hc) (chk_wid hc)⟩
 | .test t,h,hp=>⟨_,sTest,testS l r hl hc t.f t.op t.form t.lo t.hi t.len t.pat hp h⟩
 | .neg x,h,hp=>by
  obtain⟨fx,mx,sx⟩:=space_at l r hl hc x h hp
  exact⟨_,sNot,notS l r hc x (sp_fine hc x h) fx mx sx⟩
 | .and x y,h,hp=>by
  obtain⟨fx,mx,sx⟩:=space_at l r hl hc x h.1 hp.1
  obtain⟨fy,my,sy⟩:=space_at l r hl hc y h.2 hp.2
  exact⟨_,sAnd,andS l r x y (sp_fine hc x h.1) (sp_fine hc y h.2) fx fy mx my sx sy⟩
 | .or x y,h,hp=>by
  obtain⟨fx,mx,sx⟩:=space_at l r hl hc x h.1 hp.1
  obtain⟨fy,my,sy⟩:=space_at l r hl hc y h.2 hp.2
  exact⟨_,sOr,orS l r x y (sp_fine hc x h.1) (sp_fine hc y h.2) fx fy mx my sx sy⟩
theorem shapeT_pok{c:Nd}{rs rs':List Tr}(h:shapeT c rs=some rs')(hc:c.t.pat.length<=1000000000000)(hr:∀ x ∈ rs,x.pok):∀ x ∈ rs',x.pok:=by
 unfold shapeT at h
 split at h
 . cases h
   intro x hx
   rcases List.mem_cons.1 hx with rfl|hx
   . exact trivial
   . exact hr x hx
 split at h
 . cases h
   intro x hx
   rcases List.mem_cons.1 hx with rfl|hx
   . exact hc
   . exact hr x hx
 split at h
 . split at h
   . cases h
     rename_i y r1
     intro x hx
     rcases List.mem_cons.1 hx with rfl|hx
     . exact hr y (by simp)
     . exact hr x (by simp[hx])
   . cases h
 split at h
 . split at h
   . cases h
     intro x hx
     rcases List.mem_cons.1 hx with rfl|hx
     . exact⟨hr _ (by simp),hr _ (by simp)⟩
     . exact hr x (by simp[hx])
   . cases h
 split at h
 . split at h
   . cases h
     intro x hx
     rcases List.mem_cons.1 hx with rfl|hx
     . exact⟨hr _ (by simp),hr _ (by simp)⟩
     . exact hr x (by simp[hx])
   . cases h
 . cases h
theorem buildR_pok:∀ {e:List Nd} {rs z:List Tr},buildR e rs=some z->(∀ c ∈ e,c.t.pat.length<=1000000000000)->(∀ x ∈ rs,x.pok)->∀ x ∈ z,x.pok
 | [],rs,z,h,_,hr=>by unfold buildR at h;cases h;exact hr
 | c :: e,rs,z,h,hc,hr=>by
  obtain⟨rs1,h1,h2⟩:=bld_go h
  exact buildR_pok h2 (fun d hd=>hc d (by simp[hd])) (shapeT_pok h1 (hc c (by simp)) hr)
noncomputable def spcT(l:List Fd):Option Tr->Oc
 | some x=>if (x.sp l).1 ≠ 0 then ((x.sp l).1,0,[]) else x.sp l
 | none=>(0,0,[])
open Classical in
noncomputable def spcO(l:List Fd)(e:List Nd):Oc:=if chkE l e ≠ 0 then (chkE l e,0,[]) else spcT l (bldO e)
theorem spcO_err{l:List Fd}{e:List Nd}(h:chkE l e ≠ 0):spcO l e=(chkE l e,0,[]):=by unfold spcO;rw[if_pos h]
theorem spcO_sp{l:List Fd}{e:List Nd}{x:Tr}(h:chkE l e=0)(hb:bldO e=some x)(h2:(x.sp l).1 ≠ 0):spcO l e=((x.sp l).1,0,[]):=by unfold spcO;rw[if_neg (fun e=>e h),hb];exact if_pos h2
theorem spcO_ok{l:List Fd}{e:List Nd}{x:Tr}(h:chkE l e=0)(hb:bldO e=some x)(h2:(x.sp l).1=0):spcO l e=x.sp l:=by unfold spcO;rw[if_neg (fun e=>e h),hb];exact if_neg (fun e=>e h2)
theorem spcO_fine(l:List Fd)(e:List Nd):FineO (spcO l e):=by
 by_cases h:chkE l e=0
 . obtain⟨hco,_,x,hb,hxo,_⟩:=chk_good h
   by_cases h2:(x.sp l).1=0
   . rw[spcO_ok h hb h2];exact sp_fine hco x hxo
   . rw[spcO_sp h hb h2];exact Fine.nil (n:=0) (by decide) (by decide)
 . rw[spcO_err h];exact Fine.nil (n:=0) (by decide) (by decide)
theorem espace_at(l:List Fd)(r:List (List D))(e:List Nd)(r2:List (List D))(hl:l.length<=1000)(he:e.length<=1000)(htx:TxtOk e) :
    FSpec Tryz.prog T 56 [.lst 127 (l.map frow) r,.lst 219 (e.map nrow) r2] (POut (spcO l e)):=by
 have h1:(l.map frow).length=l.length:=by simp
 have hk:=echk_at l r e r2 (by omega) (by omega) htx
 by_cases hc:chkE l e=0
 case neg=>
  rw[spcO_err hc]
  rw[chkD_err rfl hc] at hk
  generalize chkE l e=k at *
  refine FSpec.of_ok tok Tryz.func56 rfl Tryz.call56 (by simp) ?_
  (try (conv=>whnf));repeat' (first|refine Ok.seq ?_|((first|refine Ok.region tok ?_|refine Ok.cond ?_|refine Ok.ret ?_);conv=>whnf)|(refine Or.inr (Or.inl ?_);(conv=>whnf);(repeat (refine aI ?_;conv=>whnf));refine⟨_,hk,?_⟩;rintro _ _ ⟨rfl,rfl⟩;conv=>whnf)|(refine bI ?_ ?_<;>intro<;>(conv=>whnf)<;>(try (exfalso;omega)))|fail)
  all_goals first
   | (exfalso;omega)
   | (refine Or.inl ?_;(conv=>whnf)
      exact⟨rfl,_,rfl,PSp.nil 0⟩)
 obtain⟨hco,_,x,hb,hxo,_⟩:=chk_good hc
 rw[chkD_ok hc hb] at hk
 obtain⟨hlay,_⟩:=chk_lay hco
 have hww:=wid_le hlay
 have hpk:x.pok:=buildR_pok (bldO_one hb) (fun c hc=>(htx c hc).2) (by simp) x (by simp)
 obtain⟨fx,mx,sx⟩:=space_at l r hl hco x hxo hpk
 unfold SpS SpR at sx
 have hs1:=spcO_sp hc hb
 have hs2:=spcO_ok hc hb
 generalize x.sp l=o at *
 obtain⟨oe,on,ot⟩:=o
 dsimp only at sx hs1
 refine FSpec.of_ok tok Tryz.func56 rfl Tryz.call56 (by simp) ?_
 (try (conv=>whnf));repeat' (first|refine Ok.seq ?_|((first|refine Ok.region tok ?_|refine Ok.cond ?_);conv=>whnf)|refine Ok.block ?_|(refine Ok.skip ?_;conv=>whnf)|(refine Or.inr (Or.inl ?_);(conv=>whnf);(repeat (refine aI ?_;conv=>whnf));refine⟨_,hk,?_⟩;rintro _ _ ⟨rfl,rfl⟩;conv=>whnf)|(refine bI ?_ ?_<;>intro<;>(conv=>whnf)<;>(try (exfalso;omega)))|fail)
 all_goals first
  | (exfalso;omega)
  | (rename_i h;exact absurd rfl h)
  | skip
 refine Ok.loopU [0,4,6,22,23] [8,24] 0 1 (fun (i:Nat)=>[.i .i64 (wid (l.take i):Nat),.i .i64 (i:Nat)]) (fun (i:Nat) (_:List (List D))=>[[.i .i64 0,.nilS]]) (fun _ r=>r) (fun (i:Nat)=>i<=l.length) (fun (i:Nat)=>l.length - i) (0) (Nat.zero_le _) ?_;(conv=>whnf);refine⟨by ((conv=>whnf);first|rfl|(simp[envCat,tkL0,nrow,frow,bcell,srow,tcells,crow,qrow,trow,drow];done)|(simp[envCat,tkL0,nrow,frow,bcell,srow,tcells,crow,qrow,trow,drow];rw[IntKind.wrap_i64];omega)),?_⟩
 intro i hi
 (conv=>whnf)
 by_cases hil:i<l.length
 . obtain⟨c,hcc⟩:∃ c,l[i]? = some c:=⟨_,gEt0 hil⟩
   have hcI:l[((i:Nat):Int).toNat]? = some c:=hcc
   have hcb:=hlay c (mOf0 hcc)
   have hsn:=wid_snoc hcc
   have hsp:=wid_split hcc
   (try (conv=>whnf));repeat' (first|refine Ok.seq ?_|((first|refine Ok.region tok ?_|refine Ok.cond ?_);conv=>whnf)|refine Ok.block ?_|((first|refine Ok.skip ?_|refine nI ?_|refine ix _ (by assumption) ?_);conv=>whnf)|(refine bI ?_ ?_<;>intro<;>(conv=>whnf)<;>(try (exfalso;omega)))|fail)
   all_goals first
    | (exfalso;omega)
    | skip
   refine⟨i+1,by omega,by omega,?_⟩
   rw[hsn,show ((wid (l.take i)+c.bits.toNat:Nat):Int)=(wid (l.take i):Int)+c.bits by omega]
   (conv=>whnf)
   rfl
 . have hie:i=l.length:=by omega
   subst hie
   rw[List.take_length]
   by_cases hoe:oe=0
   . subst hoe
     rw[hs2 rfl]
     (try (conv=>whnf));repeat' (first|refine Ok.seq ?_|((first|refine Ok.region tok ?_|refine Ok.cond ?_|refine Ok.skip ?_|refine Ok.exit ?_|refine Ok.ret ?_);conv=>whnf)|(refine Or.inr ?_;(conv=>whnf);refine⟨_,mx,?_⟩;(conv=>whnf);(repeat (refine aI ?_;conv=>whnf));refine⟨_,sx,?_⟩;rintro _ _ ⟨rfl,n1,ks1,rm1,rfl,hk1⟩<;>(conv=>whnf))|(refine bI ?_ ?_<;>intro<;>(conv=>whnf)<;>(try (exfalso;omega)))|fail)
     all_goals first
      | (exfalso;omega)
      | (rename_i h;exact absurd rfl h)
      | (obtain⟨rfl,hk2⟩:=hk1 rfl
         refine Or.inl ?_;(conv=>whnf)
         exact⟨rfl,_,rfl,ks1,rm1,rfl,hk2⟩)
   . rw[hs1 hoe]
     (try (conv=>whnf));repeat' (first|refine Ok.seq ?_|((first|refine Ok.region tok ?_|refine Ok.cond ?_|refine Ok.exit ?_|refine Ok.ret ?_);conv=>whnf)|(refine Or.inr ?_;(conv=>whnf);refine⟨_,mx,?_⟩;(conv=>whnf);(repeat (refine aI ?_;conv=>whnf));refine⟨_,sx,?_⟩;rintro _ _ ⟨rfl,n1,ks1,rm1,rfl,hk1⟩<;>(conv=>whnf))|(refine bI ?_ ?_<;>intro<;>(conv=>whnf)<;>(try (exfalso;omega)))|fail)
     all_goals first
      | (exfalso;omega)
      | (refine Or.inl ?_;(conv=>whnf)
         exact⟨rfl,_,rfl,PSp.nil 0⟩)
end Go.Proofs.YtcglkonooeddfaaGreatDoor
namespace Go.Proofs.YtcglkonooeddfaaGreatDoor
open Go Go.Vx
theorem inL_append:∀ {a c:Str} {b d:Str},a.length=c.length->(inL (a++b) (c++d) ↔ inL a c/\inL b d)
 | [],[],b,d,_=>by simp[inL]
 | [],_ :: _,_,_,h=>by simp at h
 | _ :: _,[],_,_,h=>by simp at h
 | x :: a,y :: c,b,d,h=>by
  simp only[List.cons_append,inL]
  rw[inL_append (by simpa using h),and_assoc]
theorem inL_xs:∀ (n:Nat) (s:Str),s.length=n->inL s (xsT n)
 | 0,[],_=>trivial
 | 0,_ :: _,h=>by simp at h
 | n+1,[],h=>by simp at h
 | n+1,x :: s,h=>⟨.inl rfl,inL_xs n s (by simpa using h)⟩
theorem inL_bin:∀ {s c:Str},s.length=c.length->Bin c->(inL s c ↔ s=c)
 | [],[],_,_=>by simp[inL]
 | [],_ :: _,h,_=>by simp at h
 | _ :: _,[],h,_=>by simp at h
 | x :: s,y :: c,h,hb=>by
  have ih:=inL_bin (s:=s) (c:=c) (by simpa using h) fun b hb'=>hb b (by simp[hb'])
  have hy:=hb y (by simp)
  simp only[inL,ih,List.cons.injEq]
  constructor
  . rintro⟨h1|h1,h2⟩
    . rw[h1] at hy;rcases hy with hy|hy<;>exact absurd hy (by decide)
    . exact⟨h1.symm,h2⟩
  . rintro⟨h1,h2⟩;exact⟨.inr h1.symm,h2⟩
theorem binT_bin(v b n:Nat):Bin (binT v b n):=fun x hx=>by
 unfold binT at hx
 obtain⟨i,_,rfl⟩:=List.mem_map.1 hx
 exact bitC_cub _ _
theorem wor_inj{s t:Str}(hs:Bin s)(ht:Bin t)(hl:s.length=t.length)(hw:wor s=wor t):s=t:=by
 apply List.ext_getElem?
 intro i
 by_cases hi:i<s.length
 . have h1:s[i]? = some s[i]:=gEt0 hi
   have h2:t[i]? = some t[i]:=gEt0 (by omega)
   have e1:=wor_bit h1 (hs _ (mOf0 h1))
   have e2:=wor_bit h2 (ht _ (mOf0 h2))
   rw[h1,h2,<- e1,<- e2,hw,hl]
 . rw[List.getElem?_eq_none (by omega),List.getElem?_eq_none (by omega)]
theorem binT_snoc(v b n:Nat):binT v b (n+1)=binT v b n++[bitC v (b - 1 - n)]:=by simp[binT,List.range_succ]
theorem wor_binT{v b:Nat}(hv:v<tw b):∀ n:Nat,n<=b->wor (binT v b n)=v / tw (b - n)
 | 0,_=>by
  rw[Nat.sub_zero,Nat.div_eq_of_lt hv]
  rfl
 | n+1,h=>by
  have ih:=wor_binT hv n (by omega)
  rw[binT_snoc,wor_snoc,ih]
  have e:tw (b - n)=tw (b - (n+1))*2:=by
   rw[show b - n=(b - (n+1))+1 by omega,tw_succ]
   omega
  have h2:bitC v (b - 1 - n)=if v / tw (b - (n+1)) % 2=1 then 49 else 48:=by
   rw[show b - 1 - n=b - (n+1) by omega]
   rfl
  rw[e,<- Nat.div_div_eq_div_mul,h2]
  unfold worF
  split
  . rw[if_pos rfl];omega
  . rw[if_neg (by decide)];omega
theorem pfx_in{s:Str}{b lo n:Nat}(hs:Bin s)(hl:s.length=b)(hlo:lo<tw b)(hn:n<=b):inL s (pfxT lo b n) ↔ wor s / tw (b - n)=lo / tw (b - n):=by
 have ht:(s.take n).length=(binT lo b n).length:=by rw[binT_len,List.length_take];omega
 have hd:(s.drop n).length=b - n:=by rw[List.length_drop,hl]
 have h1:inL s (pfxT lo b n) ↔ inL (s.take n) (binT lo b n)/\inL (s.drop n) (xsT (b - n)):=by
  rw[<- inL_append ht,List.take_append_drop]
  rfl
 rw[h1,inL_bin ht (binT_bin _ _ _)]
 have hw:=wor_shr s n (by omega)
 rw[hl] at hw
 rw[hw,<- wor_binT hlo n hn]
 exact⟨fun h=>by rw[h.1],fun h=>⟨wor_inj (hs.tk n) (binT_bin _ _ _) ht h,inL_xs _ _ hd⟩⟩
theorem block_in{v lo d:Nat}(h:lo % tw d=0):v / tw d=lo / tw d ↔ lo<=v/\v<lo+tw d:=by
 have hp:=tw_pos d
 have e:=Nat.div_add_mod lo (tw d)
 rw[h,Nat.add_zero] at e
 generalize lo / tw d=q at e ⊢
 subst e
 rw[Nat.div_eq_iff hp]
 constructor
 . rintro⟨h1,h2⟩
   rw[Nat.mul_comm] at h1
   exact⟨h1,by rw[Nat.mul_comm];omega⟩
 . rintro⟨h1,h2⟩
   rw[Nat.mul_comm] at h1 h2
   exact⟨h1,by omega⟩
theorem freeF_prop{bits lo H:Nat}:∀ k f:Nat,lo % 2 ^ f=0->lo+2 ^ f<=H->lo % 2 ^ freeF bits lo H k f=0/\lo+2 ^ freeF bits lo H k f<=H
 | 0,f,h1,h2=>⟨h1,h2⟩
 | k+1,f,h1,h2=>by
  unfold freeF
  split
  . rename_i h
    exact freeF_prop k (f+1) h.2.1 h.2.2
  . exact⟨h1,h2⟩
theorem cover_in{s:Str}{b H:Nat}(hs:Bin s)(hl:s.length=b)(hH:H<=tw b):∀ m lo:Nat,H - lo<=m->((∃ x ∈ coverC b H lo,inL s x) ↔ lo<=wor s/\wor s<H)
 | 0,lo,h=>by
  rw[coverC_end (by omega)]
  constructor
  . rintro⟨x,hx,_⟩;cases hx
  . intro h;omega
 | m+1,lo,h=>by
  by_cases hlt:lo<H
  . have hf:=freeF_prop (bits:=b) (lo:=lo) (H:=H) b 0 (by simp[Nat.mod_one]) (by simp;omega)
    have hfb:=freeF_le b lo H b 0 (Nat.zero_le _)
    rw[coverC_step hlt]
    generalize freeF b lo H b 0=f at hf hfb
    have hp:=tw_pos f
    have ih:=cover_in hs hl hH m (lo+tw f) (by omega)
    have h1:=pfx_in hs hl (show lo<tw b by omega) (show b - f<=b by omega)
    rw[show b - (b - f)=f by omega,block_in hf.1] at h1
    have hf2:lo+tw f<=H:=hf.2
    simp only[List.mem_cons,exists_eq_or_imp]
    rw[h1]
    have ih':(∃ x ∈ coverC b H (lo+2 ^ f),inL s x) ↔ _:=ih
    rw[ih']
    omega
  . rw[coverC_end (by omega)]
    constructor
    . rintro⟨x,hx,_⟩;cases hx
    . intro h;omega
theorem cover_in0{s:Str}{b H lo:Nat}(hs:Bin s)(hl:s.length=b)(hH:H<=tw b):(∃ x ∈ coverC b H lo,inL s x) ↔ lo<=wor s/\wor s<H:=cover_in hs hl hH _ lo (Nat.le_refl _)
theorem pat_in{s pat:Str}{b:Nat}(hs:Bin s)(hl:s.length=b)(hp:pat.length=b):inL s pat ↔ ∀ (i:Nat) c,i<b->pat[i]? = some c->c=120\/c=bitC (wor s) (b - 1 - i):=by
 rw[inL_iff]
 constructor
 . rintro⟨_,h⟩ i c hi hc
   obtain⟨a,h1⟩:∃ a,s[i]? = some a:=⟨_,gEt0 (by omega)⟩
   have:=h i a c h1 hc
   have e:=wor_bit h1 (hs _ (mOf0 h1))
   rw[hl] at e
   rw[e]
   exact this
 . intro h
   refine⟨by omega,fun i a c ha hc=>?_⟩
   have hi:=(gSm0.1 ha).1
   have e:=wor_bit ha (hs _ (mOf0 ha))
   rw[hl] at e
   have:=h i c (by omega) hc
   rw[e] at this
   exact this
theorem val_in{t:Tst}{b:Nat}{s:Str}(hs:Bin s)(hl:s.length=b)(he:errT t b=0)(hop:t.op ≠ 2):(∃ x ∈ valT t b,inL s x) ↔ fitsV t (wor s) b:=by
 obtain⟨hF,hV,hD⟩:=errT_zero he
 obtain⟨⟨a1,a2,a3,a4,a5,a6,a7,a8⟩,_⟩:=hF
 obtain⟨v1,v2,v3,v4,v5,v6⟩:=hV
 have hw:=wor_lt s
 rw[hl] at hw
 obtain⟨f,op,form,lo,hi,len,pat⟩:=t
 simp only at a1 a2 a3 a4 a5 a6 a7 a8 v1 v2 v3 v4 v5 v6 hD hop
 have hlo:lo.toNat<tw b:=by omega
 by_cases h1:op=1
 . subst h1
   have hv:valT ⟨f,1,form,lo,hi,len,pat⟩ b=eitT ⟨f,1,form,lo,hi,len,pat⟩ b:=val_eit (by simp)
   rw[hv]
   unfold eitT
   simp only[if_true]
   by_cases h3:form=3
   . subst h3
     rw[if_pos rfl,cover_in0 hs hl (by omega),fitsV3]
     omega
   . rw[if_neg h3]
     simp only[List.mem_singleton,exists_eq_left]
     unfold oneTT
     simp only
     by_cases h4:form=4
     . subst h4
       rw[if_pos rfl,pat_in hs hl (hD rfl).1,fitsV4]
     . rw[if_neg h4]
       by_cases h2:form=2
       . subst h2
         rw[if_pos rfl,pfx_in hs hl hlo (by omega),fitsV2]
       . obtain rfl:form=1:=by omega
         rw[if_neg h2,pfx_in hs hl hlo (Nat.le_refl _),fitsV1,Nat.sub_self,show tw 0=1 from rfl,Nat.div_one,Nat.div_one]
         omega
 . obtain rfl:form=1:=by omega
   have hv:valT ⟨f,op,1,lo,hi,len,pat⟩ b=if op=3 then coverC b lo.toNat 0 else if op=4 then coverC b (lo.toNat+1) 0 else if op=5 then coverC b (tw b) (lo.toNat+1) else coverC b (tw b) lo.toNat:=by
    unfold valT
    rw[if_neg (show ¬ op<=2 by omega)]
   rw[hv,fitsV1]
   by_cases h3:op=3
   . rw[if_pos h3,cover_in0 hs hl (by omega)];omega
   by_cases h4:op=4
   . rw[if_neg h3,if_pos h4,cover_in0 hs hl (by omega)];omega
   by_cases h5:op=5
   . rw[if_neg h3,if_neg h4,if_pos h5,cover_in0 hs hl (Nat.le_refl _)];omega
   . rw[if_neg h3,if_neg h4,if_neg h5,cover_in0 hs hl (Nat.le_refl _)];omega
end Go.Proofs.YtcglkonooeddfaaGreatDoor
namespace Go.Proofs.YtcglkonooeddfaaGreatDoor
open Go Go.Vx
theorem cubL_in{l:List Fd}{t:Tst}{h:Str}(hc:(chkO l).1=0)(he:errF l t=0)(hop:t.op ≠ 2)(hl:h.length=wid l)(hB:Bin h) :
    (∃ c ∈ cubL l t,inL h c) ↔ fitsV t (wor (bitsI l h (findI t.f l 0).toNat)) (bitsI l h (findI t.f l 0).toNat).length:=by
 obtain⟨hlay,_⟩:=chk_lay hc
 rcases find_cases t.f l with hfi|⟨k,f,hfi,hf⟩
 . rw[errF_none hfi] at he;cases he
 rw[errF_some hfi hf] at he
 have hfb:=hlay f (mOf0 hf)
 obtain⟨hF,hV,hD⟩:=errT_zero he
 have hn:t.len.toNat<=f.bits.toNat:=by have:=hV.2.2.2.2.2;omega
 have h3:=wid_app l (k+1)
 have h4:=wid_snoc hf
 rw[hfi,show ((k:Nat):Int).toNat=k from rfl]
 have hbl:=bitsI_len hf hl
 have hbb:=bitsI_bin (l:=l) hB k
 rw[hbl,<- val_in hbb hbl he hop]
 unfold cubL
 rw[hfi,show ((k:Nat):Int).toNat=k from rfl,hf]
 dsimp only
 have key:∀ x ∈ valT t f.bits.toNat,(inL h (wrapT l k x) ↔ inL (bitsI l h k) x):=fun x hx=>by
  have hx1:=val_one (t:=t) (b:=f.bits.toNat) (by omega) (by omega) hD hn x hx
  have e1:h=h.take (wid (l.take k))++((h.drop (wid (l.take k))).take f.bits.toNat++(h.drop (wid (l.take k))).drop f.bits.toNat):=by
   rw[List.take_append_drop,List.take_append_drop]
  rw[bitsI_some hf] at hbl ⊢
  unfold wrapT
  rw[List.append_assoc]
  conv=>lhs;rw[e1]
  rw[inL_append (by rw[xsT_len,List.length_take];omega),inL_append (by rw[hbl,hx1])]
  constructor
  . exact fun h=>h.2.1
  . exact fun g=>⟨inL_xs _ _ (by rw[List.length_take];omega),g,inL_xs _ _ (by rw[List.length_drop,List.length_drop];omega)⟩
 constructor
 . rintro⟨c,hcm,hin⟩
   obtain⟨x,hx,rfl⟩:=List.mem_map.1 hcm
   exact⟨x,hx,(key x hx).1 hin⟩
 . rintro⟨x,hx,hin⟩
   exact⟨_,List.mem_map.2 ⟨x,hx,rfl⟩,(key x hx).2 hin⟩
theorem hasS_one{c h:Str}(hn:c ≠ [])(hB:Bin h):hasS [⟨c,[]⟩] h ↔ inL h c:=by
 unfold hasS termHas hasC
 constructor
 . rintro⟨t,ht,h1,_⟩
   rw[List.mem_singleton.1 ht] at h1
   exact h1.2.2.2
 . intro g
   exact⟨_,List.mem_singleton.2 rfl,⟨hn,inL_len g,hB,g⟩,fun m hm=>by cases hm⟩
theorem cubO_has{h:Str}(hB:Bin h):∀ (cs:List Str) (o:Oc),FineO o->(∀ c ∈ cs,CT c/\c ≠ [])->(cubO o cs).1=0->(hasS (cubO o cs).2.2 h ↔ hasS o.2.2 h\/∃ c ∈ cs,inL h c)
 | [],o,_,_,_=>by
  show hasS o.2.2 h ↔ _
  simp
 | c :: cs,o,hf,hc,h0=>by
  have h1:=hc c (by simp)
  have hg:=one_fine h1.1 h1.2
  have h2:FineO (joinO o.2.1 c.length o.2.2 [⟨c,[]⟩]):=joinO_fine hf hg
  by_cases he:(joinO o.2.1 c.length o.2.2 [⟨c,[]⟩]).1=0
  . rw[cubO_ok he] at h0 ⊢
    rw[cubO_has hB cs _ h2 (fun x hx=>hc x (by simp[hx])) h0,joinO_has hf hg he,hasS_one h1.2 hB]
    simp only[List.mem_cons,exists_eq_or_imp]
    rw[or_assoc]
  . rw[cubO_bad he] at h0
    exact absurd h0 he
structure SpN(n:Nat)(o:Oc):Prop where
 w:o.2.1=(n:Int)
 t:∀ t ∈ o.2.2,TermF t
 i:InF o.2.2
theorem allT_form(w:Nat):TermF (allT w):=termT_form (termT_one (p:=List.replicate w 120))
theorem one_form(c:Str):TermF ⟨c,[]⟩:=termT_form (termT_one (p:=c))
theorem inF_one{t:Term}(h:TermF t):InF [t]:=⟨fun x hx=>by rw[List.mem_singleton.1 hx];exact h,List.pairwise_singleton _ _,List.pairwise_singleton _ _⟩
theorem form_spn{n:Nat}{l:List Term}(hg:∀ t ∈ l,GoodT n t)(hf:∀ t ∈ l,TermF t):SpN n (0,(n:Int),formT l):=⟨rfl,fun t ht=>hf t (formT_mem ht),formT_inF hg hf⟩
theorem joinO_spn{n:Nat}{m:Int}{ts us:List Term}(hf:Fine n ts)(hg:Fine m us)(h1:∀ t ∈ ts,TermF t)(h2:∀ t ∈ us,TermF t)(h0:(joinO n m ts us).1=0):SpN n (joinO n m ts us):=by
 unfold joinO at h0 ⊢
 by_cases hfit:fitP n m
 . rw[if_pos hfit] at h0 ⊢
   rw[bndO_zero h0]
   obtain⟨rfl,_⟩:=hfit
   exact form_spn (fun t ht=>(mAp0.1 ht).elim (hf.good t) (hg.good t)) (fun t ht=>(mAp0.1 ht).elim (h1 t) (h2 t))
 . rw[if_neg hfit] at h0;cases h0
theorem meetO_spn{n:Nat}{m:Int}{ts us:List Term}(hf:Fine n ts)(hg:Fine m us)(h0:(meetO n m ts us).1=0):SpN n (meetO n m ts us):=by
 unfold meetO at h0 ⊢
 by_cases hfit:fitP n m
 . rw[if_pos hfit] at h0 ⊢
   by_cases h2:ts.length*us.length<=2048
   . rw[if_pos h2] at h0 ⊢
     rw[bndO_zero h0]
     obtain⟨rfl,_⟩:=hfit
     refine form_spn (meets_good hf.good hg.good) fun t ht=>?_
     obtain⟨a,_,ht⟩:=List.mem_flatMap.1 ht
     obtain⟨b,_,hab⟩:=List.mem_filterMap.1 ht
     unfold meet2 at hab
     obtain⟨p,_,hp⟩:=Option.bind_eq_some_iff.1 hab
     exact termT_form hp
   . rw[if_neg h2] at h0;cases h0
 . rw[if_neg hfit] at h0;cases h0
theorem wouts_form{ts:List Term}{u:Term}:∀ t ∈ wouts ts u,TermF t:=by
 intro t ht
 obtain⟨a,_,h⟩:=List.mem_flatMap.1 ht
 rcases mAp0.1 h with h|h
 . unfold wout1 at h
   cases hw:termT a.p (a.less++[u.p]) with
   | none=>rw[hw] at h;cases h
   | some x=>rw[hw] at h;simp at h;rw[h];exact termT_form hw
 . obtain⟨m,_,hm⟩:=List.mem_filterMap.1 h
   unfold wout2 at hm
   obtain⟨p,_,hp⟩:=Option.bind_eq_some_iff.1 hm
   exact termT_form hp
theorem minusL_spn{n:Nat}:∀ {us ts:List Term},Fine (n:Int) ts->(∀ u ∈ us,GoodT n u)->SpN n (0,(n:Int),ts)->(minusL n ts us).1=0->SpN n (minusL n ts us)
 | [],ts,_,_,h,_=>h
 | u :: us,ts,hf,hg,h,h0=>by
  unfold minusL at h0 ⊢
  rcases withoutO_cases n ts u with hw|⟨hw,hs,_⟩
  . rw[hw,if_neg (by decide)] at h0;cases h0
  . rw[hw,if_pos rfl] at h0 ⊢
    have hu:=hg u (by simp)
    have hgd:∀ t ∈ wouts ts u,GoodT n t:=wouts_good hf.good hu
    have hs2:=form_spn (n:=n) hgd wouts_form
    exact minusL_spn (Fine.form hf.n0 hf.n1 hgd hs) (fun x hx=>hg x (by simp[hx])) hs2 h0
theorem minusO_spn{n:Nat}{m:Int}{ts us:List Term}(hf:Fine (n:Int) ts)(hg:Fine m us)(h:SpN n (0,(n:Int),ts))(h0:(minusO n m ts us).1=0):SpN n (minusO n m ts us):=by
 by_cases hfit:fitP n m
 . rw[minusO_fit hfit] at h0 ⊢
   obtain⟨rfl,_⟩:=hfit
   exact minusL_spn hf hg.good h h0
 . rw[minusO_not hfit] at h0;cases h0
theorem cubO_spn{n:Nat}:∀ (cs:List Str) (o:Oc),FineO o->SpN n o->(∀ c ∈ cs,CT c/\c ≠ [])->(cubO o cs).1=0->SpN n (cubO o cs)
 | [],o,_,h,_,_=>h
 | c :: cs,o,hf,h,hc,h0=>by
  have h1:=hc c (by simp)
  have hg:=one_fine h1.1 h1.2
  have h2:FineO (joinO o.2.1 c.length o.2.2 [⟨c,[]⟩]):=joinO_fine hf hg
  by_cases he:(joinO o.2.1 c.length o.2.2 [⟨c,[]⟩]).1=0
  . rw[cubO_ok he] at h0 ⊢
    refine cubO_spn cs _ h2 ?_ (fun x hx=>hc x (by simp[hx])) h0
    have hf':Fine o.2.1 o.2.2:=hf
    rw[h.w] at he hf' ⊢
    exact joinO_spn hf' hg h.t (fun t ht=>by rw[List.mem_singleton.1 ht];exact one_form c) he
  . rw[cubO_bad he] at h0
    exact absurd h0 he
theorem fits_is{t:Tst}(h:t.op=2)(v b:Nat):fitsV (isT t) v b ↔ fitsV t v b:=by
 obtain⟨f,op,form,lo,hi,len,pat⟩:=t
 simp only at h
 subst h
 unfold fitsV isT
 simp
structure SpG(l:List Fd)(x:Tr):Prop where
 s:SpN (wid l) (x.sp l)
 h:∀ h:Str,h.length=wid l->Bin h->(hasS (x.sp l).2.2 h ↔ x.hold l h)
theorem all_has{w:Nat}{h:Str}(hw:w ≠ 0)(hl:h.length=w)(hB:Bin h):hasS [allT w] h:=by
 refine (hasS_one (c:=List.replicate w 120) (fun e=>?_) hB).2 (inL_xs w h hl)
 have:=congrArg List.length e
 simp at this
 exact hw this
theorem neg_good{l:List Fd}(hc:(chkO l).1=0){o:Oc}{q:Str->Prop}(hf:FineO o)(hs:o.1=0->∀ h:Str,h.length=wid l->Bin h->(hasS o.2.2 h ↔ q h))(h0:(negO (wid l) o).1=0) :
    SpN (wid l) (negO (wid l) o)/\∀ h:Str,h.length=wid l->Bin h->(hasS (negO (wid l) o).2.2 h ↔ ¬ q h):=by
 have hw:=chk_wid hc
 have hw0:=wid_pos hc
 by_cases he:o.1=0
 . rw[negO_ok he] at h0 ⊢
   have hA:=all_fine hw0 hw
   refine⟨minusO_spn hA hf ⟨rfl,fun t ht=>by rw[List.mem_singleton.1 ht];exact allT_form _,inF_one (allT_form _)⟩ h0,fun h hl hB=>?_⟩
   rw[minusO_has hA hf h0,hs he h hl hB]
   exact⟨fun g=>g.2,fun g=>⟨all_has hw0 hl hB,g⟩⟩
 . rw[negO_err he] at h0
   exact absurd h0 he
theorem tst_good{l:List Fd}(hc:(chkO l).1=0){t:Tst}(he:errF l t=0)(hop:t.op ≠ 2)(h0:(tstO l t).1=0) :
    SpN (wid l) (tstO l t)/\∀ h:Str,h.length=wid l->Bin h->(hasS (tstO l t).2.2 h ↔ fitsV t (wor (bitsI l h (findI t.f l 0).toNat)) (bitsI l h (findI t.f l 0).toNat).length):=by
 have hw:=chk_wid hc
 have hF:FineO (0,((wid l:Nat):Int),([]:List Term)):=Fine.nil (by show (0:Int)<=(wid l:Nat);omega) (by show ((wid l:Nat):Int)<=256;omega)
 have hct:=cubL_ct hc he
 refine⟨cubO_spn _ _ hF ⟨rfl,fun t ht=>(by cases ht),InF.nil⟩ hct h0,fun h hl hB=>?_⟩
 rw[<- cubL_in hc he hop hl hB]
 unfold tstO at h0 ⊢
 rw[cubO_has hB _ _ hF hct h0]
 exact⟨fun g=>g.elim (fun⟨t,ht,_⟩=>by cases ht) id,.inr⟩
theorem sp_good{l:List Fd}(hc:(chkO l).1=0):∀ x:Tr,x.ok l->(x.sp l).1=0->SpG l x
 | .leaf p,_,_=>by
  have hw0:=wid_pos hc
  by_cases hp:p
  . have e:(Tr.leaf p).sp l=((0,((wid l:Nat):Int),[allT (wid l)]):Oc):=if_pos hp
    refine⟨by rw[e];exact⟨rfl,fun t ht=>by rw[List.mem_singleton.1 ht];exact allT_form _,inF_one (allT_form _)⟩,fun h hl hB=>?_⟩
    rw[e]
    exact⟨fun _=>hp,fun _=>all_has hw0 hl hB⟩
  . have e:(Tr.leaf p).sp l=((0,((wid l:Nat):Int),[]):Oc):=if_neg hp
    refine⟨by rw[e];exact⟨rfl,fun t ht=>(by cases ht),InF.nil⟩,fun h hl hB=>?_⟩
    rw[e]
    exact⟨fun⟨t,ht,_⟩=>(by cases ht),fun g=>absurd g hp⟩
 | .test t,ho,h0=>by
  by_cases h2:t.op=2
  . have e:(Tr.test t).sp l=negO (wid l) (tstO l (isT t)):=if_pos h2
    rw[e] at h0
    have hei:errF l (isT t)=0:=by rw[errF_is h2];exact ho
    obtain⟨g1,g2⟩:=neg_good hc (q:=fun h=>fitsV (isT t) (wor (bitsI l h (findI (isT t).f l 0).toNat)) (bitsI l h (findI (isT t).f l 0).toNat).length) (tstO_fine hc hei)
     (fun he=>(tst_good hc hei (by show (1:Int) ≠ 2;decide) he).2) h0
    refine⟨by rw[e];exact g1,fun h hl hB=>?_⟩
    rw[e,g2 h hl hB,fits_is h2]
    show _ ↔ tstH l h t
    unfold tstH
    rw[eq_true h2,iff_true]
    rfl
  . have e:(Tr.test t).sp l=tstO l t:=if_neg h2
    rw[e] at h0
    obtain⟨g1,g2⟩:=tst_good hc ho h2 h0
    refine⟨by rw[e];exact g1,fun h hl hB=>?_⟩
    rw[e,g2 h hl hB]
    show _ ↔ tstH l h t
    unfold tstH
    rw[eq_false h2,iff_false,Classical.not_not]
 | .neg x,ho,h0=>by
  have hf:=sp_fine hc x ho
  obtain⟨g1,g2⟩:=neg_good hc (q:=fun h=>x.hold l h) hf (fun he=>(sp_good hc x ho he).h) h0
  exact⟨g1,fun h hl hB=>g2 h hl hB⟩
 | .and x y,ho,h0=>by
  have hfx:=sp_fine hc x ho.1
  have hfy:=sp_fine hc y ho.2
  have e:(Tr.and x y).sp l=bothO meetO (x.sp l) (y.sp l):=rfl
  rw[e] at h0
  by_cases hx:(x.sp l).1=0
  . by_cases hy:(y.sp l).1=0
    . rw[bothO_3 hx hy] at h0 e
      have hX:=sp_good hc x ho.1 hx
      have hY:=sp_good hc y ho.2 hy
      refine⟨?_,fun h hl hB=>?_⟩
      . rw[e]
        have hfx':Fine (x.sp l).2.1 (x.sp l).2.2:=hfx
        rw[hX.s.w] at h0 hfx' ⊢
        exact meetO_spn hfx' hfy h0
      . rw[e,meetO_has hfx hfy h0,hX.h h hl hB,hY.h h hl hB]
        rfl
    . rw[bothO_2 hx hy] at h0;exact absurd h0 hy
  . rw[bothO_1 hx] at h0;exact absurd h0 hx
 | .or x y,ho,h0=>by
  have hfx:=sp_fine hc x ho.1
  have hfy:=sp_fine hc y ho.2
  have e:(Tr.or x y).sp l=bothO joinO (x.sp l) (y.sp l):=rfl
  rw[e] at h0
  by_cases hx:(x.sp l).1=0
  . by_cases hy:(y.sp l).1=0
    . rw[bothO_3 hx hy] at h0 e
      have hX:=sp_good hc x ho.1 hx
      have hY:=sp_good hc y ho.2 hy
      refine⟨?_,fun h hl hB=>?_⟩
      . rw[e]
        have hfx':Fine (x.sp l).2.1 (x.sp l).2.2:=hfx
        rw[hX.s.w] at h0 hfx' ⊢
        exact joinO_spn hfx' hfy hX.s.t hY.s.t h0
      . rw[e,joinO_has hfx hfy h0,hX.h h hl hB,hY.h h hl hB]
        rfl
    . rw[bothO_2 hx hy] at h0;exact absurd h0 hy
  . rw[bothO_1 hx] at h0;exact absurd h0 hx
end Go.Proofs.YtcglkonooeddfaaGreatDoor
namespace Go.Proofs.YtcglkonooeddfaaGreatDoor
open Go Go.Vx
theorem lwidth_at(l:List Fd)(r:List (List D))(hl:l.length<=1000)(hf:LayF l):FSpec Tryz.prog T 29 [.lst 127 (l.map frow) r] (fun d _=>d = .i .i64 (wid l:Nat)):=by
 have h1:(l.map frow).length=l.length:=by simp
 have hw:=wid_le hf
 refine FSpec.of_ok tok Tryz.func29 rfl Tryz.call29 (by simp) ?_
 (try (conv=>whnf));repeat' (first|refine Ok.seq ?_|(refine Ok.region tok ?_;conv=>whnf)|refine Ok.block ?_|fail)
 refine Ok.loopU [0] [3,4] 0 0 (fun (i:Nat)=>[.i .i64 (wid (l.take i):Nat),.i .i64 (i:Nat)]) (fun _ b=>b) (fun _ r=>r) (fun (i:Nat)=>i<=l.length) (fun (i:Nat)=>l.length - i) (0) (Nat.zero_le _) ?_;(conv=>whnf);refine⟨by ((conv=>whnf);first|rfl|(simp[envCat, tkL0, SI.row, Node.row, Pfx.row, Link.row, srow, Line.row, Rule.row, Box.row, Slc.row, Config.row, plRow];done)|(simp[envCat, tkL0, SI.row, Node.row, Pfx.row, Link.row, srow, Line.row, Rule.row, Box.row, Slc.row, Config.row, plRow];rw[IntKind.wrap_i64];omega)),?_⟩
 intro i hi
 (conv=>whnf)
 by_cases hil:i<l.length
 . obtain⟨c,hc⟩:∃ c,l[i]? = some c:=⟨_,gEt0 hil⟩
   have hcI:l[((i:Nat):Int).toNat]? = some c:=hc
   have hcb:=hf c (mOf0 hc)
   have hsn:=wid_snoc hc
   have hwt:=wid_le (l:=l.take i) fun x hx=>hf x (List.mem_of_mem_take hx)
   have hti:(l.take i).length=i:=by simp;omega
   (try (conv=>whnf));repeat' (first|refine Ok.seq ?_|((first|refine Ok.region tok ?_|refine Ok.cond ?_);conv=>whnf)|refine Ok.block ?_|((first|refine Ok.skip ?_|refine nI ?_|refine ix _ (by assumption) ?_);conv=>whnf)|(refine bI ?_ ?_<;>intro<;>(conv=>whnf)<;>(try (exfalso;omega)))|fail)
   all_goals first
    | (exfalso;omega)
    | skip
   refine⟨i+1,by omega,by omega,?_⟩
   rw[hsn,show ((wid (l.take i)+c.bits.toNat:Nat):Int)=(wid (l.take i):Int)+c.bits by omega]
   (conv=>whnf)
   rfl
 . have hie:i=l.length:=by omega
   subst hie
   rw[List.take_length]
   (try (conv=>whnf));repeat' (first|refine Ok.seq ?_|((first|refine Ok.region tok ?_|refine Ok.cond ?_|refine Ok.exit ?_|refine Ok.ret ?_);conv=>whnf)|(refine bI ?_ ?_<;>intro<;>(conv=>whnf)<;>(try (exfalso;omega)))|fail)
   all_goals first
    | (exfalso;omega)
    | (refine Or.inl ?_;(conv=>whnf)
       rfl)
theorem lbits_at(s:Str)(n:Nat)(hn:n<=256):FSpec Tryz.prog T 30 [.s s,.i .i64 (n:Nat)] (fun d rows=>rows=[]/\∃ h:Str,d = .s h/\h.length=n/\Bin h):=by
 refine FSpec.of_ok tok Tryz.func30 rfl Tryz.call30 (by simp) ?_
 (try (conv=>whnf));repeat' (first|refine Ok.seq ?_|(refine Ok.region tok ?_;conv=>whnf)|refine Ok.block ?_|fail)
 refine Ok.ghost 5 5 rfl ?_
 (conv=>whnf)
 refine Ok.loopU [0,1] [5,6] 1 0 (fun (x:Str)=>[.own 0 x.length,.i .i64 (x.length:Nat)]) (fun _ b=>b) (fun (x:Str) (_:Vx.Rows)=>[some (5,x.map bcell)]) (fun (x:Str)=>x.length<=n/\Bin x) (fun (x:Str)=>n - x.length) ([]) (⟨Nat.zero_le _,fun b hb=>(by cases hb)⟩) ?_;(conv=>whnf);refine⟨by ((conv=>whnf);first|rfl|(simp[envCat, tkL0, SI.row, Node.row, Pfx.row, Link.row, srow, Line.row, Rule.row, Box.row, Slc.row, Config.row, plRow];done)|(simp[envCat, tkL0, SI.row, Node.row, Pfx.row, Link.row, srow, Line.row, Rule.row, Box.row, Slc.row, Config.row, plRow];rw[IntKind.wrap_i64];omega)),?_⟩
 rintro x ⟨hx,hB⟩
 have hlm:(x.map bcell).length=x.length:=by simp
 (conv=>whnf)
 by_cases hil:x.length<n
 . have hB1:∀ b:UInt8,b=48\/b=49->Bin (x++[b]):=fun b hb y hy=>by
     rcases mAp0.1 hy with h|h
     . exact hB y h
     . rw[List.mem_singleton.1 h];exact hb
   by_cases hsl:x.length<s.length
   all_goals
    try obtain⟨b,hb⟩:∃ b,s[((x.length:Nat):Int).toNat]? = some b:=⟨_,gEt0 hsl⟩
    (try (conv=>whnf));repeat' (first|(refine⟨b,hb,_,rfl,?_⟩;conv=>whnf)|refine Ok.seq ?_|((first|refine Ok.region tok ?_|refine Ok.cond ?_);conv=>whnf)|refine Ok.block ?_|((first|refine Ok.skip ?_|refine nI ?_|refine Alt2.l (aI ?_)|refine⟨_,.inl ⟨rfl,rfl⟩,?_⟩|refine⟨_,_,rfl,rfl,?_⟩);conv=>whnf)|(refine bI ?_ ?_<;>intro<;>(conv=>whnf)<;>(try (exfalso;omega)))|((first|refine aJ ?_|refine num_any ?_);conv=>whnf)|fail)
    all_goals first
     | (refine⟨x++[48],by simp;omega,⟨by simp;omega,hB1 48 (.inl rfl)⟩,?_⟩
        (conv=>whnf);simp[envCat,bcell];done)
     | (refine⟨x++[49],by simp;omega,⟨by simp;omega,hB1 49 (.inr rfl)⟩,?_⟩
        (conv=>whnf);simp[envCat,bcell];done)
     | (exfalso;omega)
 . have hie:x.length=n:=by omega
   (try (conv=>whnf));repeat' (first|(refine⟨x,tkL0 (by omega),?_⟩;conv=>whnf)|refine Ok.seq ?_|((first|refine Ok.region tok ?_|refine Ok.cond ?_|refine Ok.exit ?_|refine Ok.ret ?_);conv=>whnf)|(refine bI ?_ ?_<;>intro<;>(conv=>whnf)<;>(try (exfalso;omega)))|(refine aJ ?_;conv=>whnf)|fail)
   all_goals first
    | (exfalso;omega)
    | (refine Or.inl ?_;(conv=>whnf)
       exact⟨rfl,x,rfl,hie,hB⟩)
def B3(o:Oc):Prop:=o.1=0\/o.1=3
theorem bnd_b3(n:Int)(l:List Term):B3 (bndO n l):=by unfold bndO;split;exact .inl rfl;exact .inr rfl
theorem join_b3{n m:Int}{ts us:List Term}(h:fitP n m):B3 (joinO n m ts us):=by unfold joinO;rw[if_pos h];exact bnd_b3 _ _
theorem meet_b3{n m:Int}{ts us:List Term}(h:fitP n m):B3 (meetO n m ts us):=by
 unfold meetO
 rw[if_pos h]
 split
 . exact bnd_b3 _ _
 . exact .inr rfl
theorem minusL_b3{n:Int}:∀ us ts:List Term,B3 (minusL n ts us)
 | [],ts=>.inl rfl
 | u :: us,ts=>by
  unfold minusL
  rcases withoutO_cases n ts u with hw|⟨hw,_⟩
  . rw[hw,if_neg (by decide)];exact .inr rfl
  . rw[hw,if_pos rfl];exact minusL_b3 us _
theorem minus_b3{n m:Int}{ts us:List Term}(h:fitP n m):B3 (minusO n m ts us):=by rw[minusO_fit h];exact minusL_b3 _ _
theorem neg_b3{l:List Fd}(hc:(chkO l).1=0){o:Oc}(h:B3 o)(hw:o.1=0->o.2.1=(wid l:Nat)):B3 (negO (wid l) o):=by
 have hw0:=wid_pos hc
 by_cases he:o.1=0
 . rw[negO_ok he]
   exact minus_b3 ⟨(hw he).symm,by omega⟩
 . rw[negO_err he];exact h
theorem cub_b3{n:Nat}(hn:n ≠ 0):∀ (cs:List Str) (o:Oc),FineO o->SpN n o->B3 o->(∀ c ∈ cs,(CT c/\c ≠ [])/\c.length=n)->B3 (cubO o cs)
 | [],o,_,_,h,_=>h
 | c :: cs,o,hf,h,_,hc=>by
  obtain⟨h1,hcl⟩:=hc c (by simp)
  have hg:=one_fine h1.1 h1.2
  have h2:FineO (joinO o.2.1 c.length o.2.2 [⟨c,[]⟩]):=joinO_fine hf hg
  have hb:B3 (joinO o.2.1 c.length o.2.2 [⟨c,[]⟩]):=join_b3 ⟨by rw[h.w,hcl],by rw[h.w];omega⟩
  by_cases he:(joinO o.2.1 c.length o.2.2 [⟨c,[]⟩]).1=0
  . rw[cubO_ok he]
    refine cub_b3 hn cs _ h2 ?_ hb (fun x hx=>hc x (by simp[hx]))
    have hf':Fine o.2.1 o.2.2:=hf
    rw[h.w] at he hf' ⊢
    exact joinO_spn hf' hg h.t (fun t ht=>by rw[List.mem_singleton.1 ht];exact one_form c) he
  . rw[cubO_bad he];exact hb
theorem cubL_wid{l:List Fd}{t:Tst}(hc:(chkO l).1=0)(he:errF l t=0):∀ c ∈ cubL l t,c.length=wid l:=by
 obtain⟨hlay,_⟩:=chk_lay hc
 rcases find_cases t.f l with hfi|⟨k,f,hfi,hf⟩
 . rw[errF_none hfi] at he;cases he
 rw[errF_some hfi hf] at he
 have hfb:=hlay f (mOf0 hf)
 obtain⟨hF,hV,hD⟩:=errT_zero he
 have hn:t.len.toNat<=f.bits.toNat:=by have:=hV.2.2.2.2.2;omega
 intro c hcm
 unfold cubL at hcm
 rw[hfi,show ((k:Nat):Int).toNat=k from rfl,hf] at hcm
 dsimp only at hcm
 obtain⟨s,hs,rfl⟩:=List.mem_map.1 hcm
 have h1:=val_one (t:=t) (b:=f.bits.toNat) (by omega) (by omega) hD hn s hs
 have h3:=wid_app l (k+1)
 have h4:=wid_snoc hf
 unfold wrapT;simp only[List.length_append,xsT_len];omega
theorem tst_b3{l:List Fd}{t:Tst}(hc:(chkO l).1=0)(he:errF l t=0):B3 (tstO l t):=by
 have hw:=chk_wid hc
 have hF:FineO (0,((wid l:Nat):Int),([]:List Term)):=Fine.nil (by show (0:Int)<=(wid l:Nat);omega) (by show ((wid l:Nat):Int)<=256;omega)
 exact cub_b3 (wid_pos hc) _ _ hF ⟨rfl,fun t ht=>(by cases ht),InF.nil⟩ (.inl rfl) fun c h=>⟨cubL_ct hc he c h,cubL_wid hc he c h⟩
theorem sp_b3{l:List Fd}(hc:(chkO l).1=0):∀ x:Tr,x.ok l->B3 (x.sp l)
 | .leaf p,_=>by
  unfold Tr.sp
  split<;>exact .inl rfl
 | .test t,ho=>by
  unfold Tr.sp
  split
  . rename_i h2
    have hei:errF l (isT t)=0:=by rw[errF_is h2];exact ho
    exact neg_b3 hc (tst_b3 hc hei) fun he=>(tst_good hc hei (by show (1:Int) ≠ 2;decide) he).1.w
  . exact tst_b3 hc ho
 | .neg x,ho=>neg_b3 hc (sp_b3 hc x ho) fun he=>(sp_good hc x ho he).s.w
 | .and x y,ho=>by
  have e:(Tr.and x y).sp l=bothO meetO (x.sp l) (y.sp l):=rfl
  rw[e]
  by_cases hx:(x.sp l).1=0
  . by_cases hy:(y.sp l).1=0
    . rw[bothO_3 hx hy,(sp_good hc x ho.1 hx).s.w,(sp_good hc y ho.2 hy).s.w]
      exact meet_b3 ⟨rfl,by have:=wid_pos hc;omega⟩
    . rw[bothO_2 hx hy];exact sp_b3 hc y ho.2
  . rw[bothO_1 hx];exact sp_b3 hc x ho.1
 | .or x y,ho=>by
  have e:(Tr.or x y).sp l=bothO joinO (x.sp l) (y.sp l):=rfl
  rw[e]
  by_cases hx:(x.sp l).1=0
  . by_cases hy:(y.sp l).1=0
    . rw[bothO_3 hx hy,(sp_good hc x ho.1 hx).s.w,(sp_good hc y ho.2 hy).s.w]
      exact join_b3 ⟨rfl,by have:=wid_pos hc;omega⟩
    . rw[bothO_2 hx hy];exact sp_b3 hc y ho.2
  . rw[bothO_1 hx];exact sp_b3 hc x ho.1
end Go.Proofs.YtcglkonooeddfaaGreatDoor
namespace Go.Proofs.YtcglkonooeddfaaGreatDoor
open Go Go.Vx
theorem slice_ok{c:ConfigB}(h:(sliceO c).1=0){k:Nat}{s:SlcB}(hs:c.slices[k]? = some s) :
    (¬ ∃ x ∈ c.slices.take k,x.name=s.name)/\(∀ p ∈ s.ports,p ∈ fullsL c.boxes)/\chkE (fds c.fields) (nds s.whr)=0:=by
 obtain⟨⟨_,h1⟩,h2⟩:=(sliceE_iff c _ s).1 (firstE_zero h k s hs)
 refine⟨fun⟨y,hy,he⟩=>h2 y hy he,fun p hp=>?_,?_⟩
 . have h3:(firstE (sportE c) [] s.ports).1=0:=Classical.byContradiction fun hn=>by rw[orE_bad hn] at h1;exact hn h1
   obtain⟨j,hj⟩:=List.getElem?_of_mem hp
   have h4:=firstE_zero h3 j p hj
   unfold sportE at h4
   split at h4
   . cases h4
   . rename_i hn
     exact Classical.byContradiction fun hq=>hn ⟨fun g=>hq (mem_fulls.2 (.inl g)),fun g=>hq (mem_fulls.2 (.inr g))⟩
 . refine Classical.byContradiction fun hn=>?_
   by_cases h3:(firstE (sportE c) [] s.ports).1=0
   . rw[orE_ok h3,if_pos hn] at h1;cases h1
   . rw[orE_bad h3] at h1;exact h3 h1
def zprow(fs:List Str)(p:Str):List D:=[.i .i64 (plc fs p)]
theorem head_chk{c:ConfigB}(h:(headO c).1=0):(chkO (fds c.fields)).1=0:=by
 refine Classical.byContradiction fun hn=>?_
 unfold headO at h
 split at h
 . cases h
 . split at h
   . cases h
   . cases h
theorem mzone_at(c:Config)(hc:c.Ok)(ht:c.Tx)(h0:(checkO c.b).1=0){i:Nat}{x:Slc}(hx:c.slices.l[i]? = some x) :
    FSpecH Tryz.prog T [] 26 [.agg c.row,.s x.name] (fun d rows M=>(((spcO (fds c.fields.l) (nds x.whr.l)).1 ≠ 0/\d = .tup [.agg [.lst 3 [] [],.s []],.i .i64 (spcO (fds c.fields.l) (nds x.whr.l)).1]/\rows=[]) \/
     ((spcO (fds c.fields.l) (nds x.whr.l)).1=0/\d = .tup [.agg [.own 0 x.ports.l.length,.s (textS (spcO (fds c.fields.l) (nds x.whr.l)).2.2)],.i .i64 0]/\rows=[some (3,x.ports.l.map (zprow (fullsL c.b.boxes)))]))/\M=[]):=by
 have hck:=mcheck_at word_ok itoa_ok c hc ht
 rw[h0] at hck
 obtain⟨hh,h1,h2,_,h4,h5⟩:=check_parts h0
 have hpn:(fullsL c.b.boxes).length<=48:=by rw[fullsL_len];exact (count_ok h1).2.1
 have hnum:=numbered_at c hc (tx_names ht) (by omega)
 have hsl:(c.slices.l.map Slc.row).length=c.slices.l.length:=by simp
 have hS:=hc.slices
 have hil:=(gSm0.1 hx).1
 have hxb:c.b.slices[i]? = some x.b:=by simp[Config.b,hx]
 obtain⟨hnew,hpk,hwh⟩:=slice_ok h5 hxb
 have hxm:=mOf0 hx
 have hpp:=(hc.slc x hxm).ports
 have hco:=head_chk hh
 have hcl:=(chk_lay hco).2
 have hcl2:(fds c.fields.l).length<=12:=hcl
 obtain⟨_,hel,_⟩:=chk_good hwh
 have hel2:(nds x.whr.l).length<=64:=hel
 have hsp:=espace_at (fds c.fields.l) c.fields.room (nds x.whr.l) x.whr.room (by omega) (by omega) (nds_ok fun y hy=>(ht.slices x hxm).whr y hy)
 rw[fds_row,nds_row] at hsp
 have hF:Fine (spcO (fds c.fields.l) (nds x.whr.l)).2.1 (spcO (fds c.fields.l) (nds x.whr.l)).2.2:=spcO_fine _ _
 generalize spcO (fds c.fields.l) (nds x.whr.l)=o at hsp hF ⊢
 obtain⟨e,n,ts⟩:=o
 dsimp only at hF ⊢
 refine FSpecH.of_ok0 tok Tryz.func26 rfl Tryz.call26 (by simp) ?_
 (try (conv=>whnf));repeat' (first|(refine Or.inr (Or.inl ?_);(conv=>whnf);(repeat (refine aI ?_;conv=>whnf));refine⟨_,hnum , ?_⟩;rintro _ _ _ ⟨gn,lst,cn,rfl,rfl,rfl,hnm,hwf,hky⟩<;>(conv=>whnf))|refine OkM.seq ?_|((first|refine OkM.region tok ?_|refine OkM.cond ?_);conv=>whnf)|refine OkM.block ?_|(refine OkM.skip ?_;conv=>whnf)|(refine Or.inl ?_;(conv=>whnf);refine Or.inl ?_;(conv=>whnf);(repeat (refine aI ?_;conv=>whnf));refine⟨_,hck,rfl,?_⟩;conv=>whnf)|(refine bI ?_ ?_<;>intro<;>(conv=>whnf)<;>(try (exfalso;omega)))|fail)
 all_goals first
  | exact absurd rfl (by assumption)
  | skip
 have hN:NumOk c.b lst:=⟨fulls_nodup h2,hnm,hky⟩
 refine OkM.loopU [1,2,4,9,32,33] [34] 1 2 (fun (k:Nat)=>[.i .i64 (k:Nat)]) (fun (k:Nat) (_:List (List D))=>[c.row,[.nilS,.s []]]) (fun (k:Nat) (_:Vx.Rows)=>[some (160,(plcs c.b.boxes).map plRow)]) (fun (k:Nat)=>[(gn,mObj D.s fI lst cn)]) (fun (k:Nat)=>k<=i) (fun (k:Nat)=>i - k) (0) (Nat.zero_le _) (by first|exact .refl _|exact .cons _ (.refl _)|exact List.nil_sublist _) ?_;(conv=>whnf);refine⟨by ((conv=>whnf);first|rfl|(simp[envCat, tkL0, SI.row, Node.row, Pfx.row, Link.row, srow, Line.row, Rule.row, Box.row, Slc.row, Config.row, plRow, irow];done)|(simp[envCat, tkL0, SI.row, Node.row, Pfx.row, Link.row, srow, Line.row, Rule.row, Box.row, Slc.row, Config.row, plRow, irow];rw[IntKind.wrap_i64];omega)),?_⟩
 rintro k hk
 (conv=>whnf)
 by_cases hlt:k<i
 . obtain⟨y,hy⟩:∃ y,c.slices.l[k]? = some y:=⟨_,gEt0 (by omega)⟩
   have hyI:c.slices.l[((k:Nat):Int).toNat]? = some y:=hy
   have hyr:(c.slices.l.map Slc.row)[((k:Nat):Int).toNat]? = some y.row:=by rw[gMp0,hyI];rfl
   have hne:y.name ≠ x.name:=fun he=>hnew ⟨y.b,mOf0 (i:=k) (by rw[List.getElem?_take_of_lt hlt];simp[Config.b,hy]),he⟩
   (try (conv=>whnf));repeat' (first|refine OkM.seq ?_|((first|refine OkM.region tok ?_|refine OkM.cond ?_);conv=>whnf)|refine OkM.block ?_|((first|refine OkM.skip ?_|refine OkM.exit ?_|refine nI ?_|refine ix _ (by assumption) ?_);conv=>whnf)|(refine bI ?_ ?_<;>intro<;>(conv=>whnf)<;>(try (exfalso;omega)))|fail)
   all_goals first
    | exact absurd hne (by assumption)
    | (refine⟨k+1,by omega,by omega,List.Sublist.refl _,?_⟩
       (conv=>whnf)
       rfl)
 . obtain rfl:k=i:=by omega
   have hxI:c.slices.l[((k:Nat):Int).toNat]? = some x:=hx
   have hxr:(c.slices.l.map Slc.row)[((k:Nat):Int).toNat]? = some x.row:=by rw[gMp0,hxI];rfl
   have hpl:(x.ports.l.map srow).length=x.ports.l.length:=by simp
   (try (conv=>whnf));repeat' (first|(exact absurd rfl (by assumption))|refine OkM.seq ?_|((first|refine OkM.region tok ?_|refine OkM.cond ?_);conv=>whnf)|refine OkM.block ?_|((first|refine OkM.skip ?_|refine OkM.ret ?_|refine ix _ (by assumption) ?_);conv=>whnf)|(refine Or.inl ?_;(conv=>whnf);refine Or.inl ?_;(conv=>whnf);(repeat (refine aI ?_;conv=>whnf));refine⟨_,sptext_at hF _ _ (by assumption),rfl,?_⟩;conv=>whnf)|(refine Or.inl ?_;(conv=>whnf);refine Or.inr (Or.inl ?_);(conv=>whnf);(repeat (refine aI ?_;conv=>whnf));refine⟨_,hsp , ?_⟩;rintro _ _ ⟨rfl,_,rfl,ks,rm,rfl,hks⟩<;>(conv=>whnf))|(refine bI ?_ ?_<;>intro<;>(conv=>whnf)<;>(try (exfalso;omega)))|fail)
   . refine Or.inl ?_;(conv=>whnf)
     exact Or.inl ⟨by assumption,rfl,rfl⟩
   rename_i he0
   have he:e=0:=Classical.not_not.1 he0
   subst he
   refine OkM.ghostB 4 0 3 rfl rfl ?_
   (conv=>whnf)
   refine OkM.loopU [4,9,14,58,59] [60] 2 5 (fun (j:Nat)=>[.i .i64 (j:Nat)]) (fun (j:Nat) (_:List (List D))=>[c.row,[.nilS,.s []],x.row,[.i .i64 n,.lst 142 (ks.map trow) rm],[.own 1 j,.s (textS ts)]]) (fun (j:Nat) (_:Vx.Rows)=>[some (160,(plcs c.b.boxes).map plRow),some (3,(x.ports.l.take j).map (zprow (fullsL c.b.boxes)))]) (fun (j:Nat)=>[(gn,mObj D.s fI lst cn)]) (fun (j:Nat)=>j<=x.ports.l.length) (fun (j:Nat)=>x.ports.l.length - j) (0) (Nat.zero_le _) (by first|exact .refl _|exact .cons _ (.refl _)|exact List.nil_sublist _) ?_;(conv=>whnf);refine⟨by ((conv=>whnf);first|rfl|(simp[envCat, tkL0, SI.row, Node.row, Pfx.row, Link.row, srow, Line.row, Rule.row, Box.row, Slc.row, Config.row, plRow, irow];done)|(simp[envCat, tkL0, SI.row, Node.row, Pfx.row, Link.row, srow, Line.row, Rule.row, Box.row, Slc.row, Config.row, plRow, irow];rw[IntKind.wrap_i64];omega)),?_⟩
   rintro j hj
   (conv=>whnf)
   have htl:((x.ports.l.take j).map (zprow (fullsL c.b.boxes))).length=j:=by simp;omega
   by_cases hjl:j<x.ports.l.length
   . obtain⟨p,hp⟩:∃ p,x.ports.l[j]? = some p:=⟨_,gEt0 hjl⟩
     have hpI:x.ports.l[((j:Nat):Int).toNat]? = some p:=hp
     have hpr:(x.ports.l.map srow)[((j:Nat):Int).toNat]? = some [.s p]:=by rw[gMp0,hpI];rfl
     have htk:x.ports.l.take (j+1)=x.ports.l.take j++[p]:=by rw[List.take_add_one,hp];rfl
     obtain⟨_,_,hle,_⟩:=hN.some (hpk p (mOf0 hp))
     (try (conv=>whnf));repeat' (first|(refine⟨_,_,_,_,_,_,_,_,mtSI,(by first|exact .head _|exact .tail _ (.head _)|exact .tail _ (.tail _ (.head _))|exact .tail _ (.tail _ (.tail _ (.head _)))|exact List.mem_append_left _ (by assumption)),rfl,?_⟩;conv=>whnf)|refine OkM.seq ?_|((first|refine OkM.region tok ?_|refine OkM.cond ?_);conv=>whnf)|refine OkM.block ?_|((first|refine OkM.skip ?_|refine nI ?_|refine ix _ (by assumption) ?_|refine Alt2.l (aI ?_)|refine⟨_,.inl ⟨rfl,rfl⟩,?_⟩|refine⟨_,_,rfl,rfl,?_⟩);conv=>whnf)|(refine bI ?_ ?_<;>intro<;>(conv=>whnf)<;>(try (exfalso;omega)))|(refine aJ ?_;conv=>whnf)|fail)
     refine⟨j+1,by omega,by omega,List.Sublist.refl _,?_⟩
     rw[htk]
     (conv=>whnf);simp[envCat,zprow,fI,hle,Slc.row,htl,Config.row]
     omega
   . obtain rfl:j=x.ports.l.length:=by omega
     rw[List.take_length]
     (conv=>whnf)
     (try (conv=>whnf));repeat' (first|refine OkM.seq ?_|((first|refine OkM.region tok ?_|refine OkM.cond ?_|refine OkM.exit ?_|refine OkM.ret ?_);conv=>whnf)|(refine bI ?_ ?_<;>intro<;>(conv=>whnf)<;>(try (exfalso;omega)))|fail)
     refine Or.inr (Or.inl ?_);(conv=>whnf)
     exact Or.inr ⟨rfl,rfl,rfl⟩
end Go.Proofs.YtcglkonooeddfaaGreatDoor
namespace Go.Proofs.YtcglkonooeddfaaGreatDoor
open Go Go.Vx
structure ZnOk(l:List Fd)(e:List Nd)(x:Tr)(ts:List Term):Prop where
 s:spcO l e=((0,((wid l:Nat):Int),ts):Oc)
 f:Fine (wid l:Nat) ts
 i:InF ts
 h:∀ h:Str,h.length=wid l->Bin h->(hasS ts h ↔ x.hold l h)/\evlP l e h=x.hold l h/\evlE l e h=0
theorem zn_cases{l:List Fd}{e:List Nd}(h:chkE l e=0):(spcO l e).1=3\/∃ x ts,ZnOk l e x ts:=by
 obtain⟨hco,_,x,hb,hxo,_⟩:=chk_good h
 rcases sp_b3 hco x hxo with h3|h3
 . have g:=sp_good hco x hxo h3
   have hs:=spcO_ok h hb h3
   have hF:=sp_fine hco x hxo
   have hp:x.sp l=((x.sp l).1,(x.sp l).2.1,(x.sp l).2.2):=rfl
   rw[h3,g.s.w] at hp
   refine .inr ⟨x,(x.sp l).2.2,⟨by rw[hs];exact hp,?_,g.s.i,fun hd hl hB=>⟨g.h hd hl hB,evl_ok h ⟨hl,wid_pos hco,hB⟩ hb⟩⟩⟩
   have hF':Fine (x.sp l).2.1 (x.sp l).2.2:=hF
   rw[g.s.w] at hF'
   exact hF'
 . exact .inl (by rw[spcO_sp h hb (by rw[h3];decide)];exact h3)
theorem mzone_law(c:Config)(hc:c.Ok)(ht:c.Tx)(a:Int)(s:Str):FSpec Tryz.prog T 4 [.agg c.row,.i .i64 a,.s s] (fun d _=>d = .b True):=by
 by_cases h0:(checkO c.b).1=0
 case neg=>
  have r2:=mright_ff c hc ht h0
  refine FSpec.of_ok tok Tryz.func4 rfl Tryz.call4 (by simp) ?_
  (try (conv=>whnf));repeat' (first|refine Ok.seq ?_|((first|refine Ok.region tok ?_|refine Ok.cond ?_|refine Ok.ret ?_);conv=>whnf)|(refine Or.inl ?_;(conv=>whnf);(repeat (refine aI ?_;conv=>whnf));refine⟨_,r2,rfl,?_⟩;conv=>whnf)|(refine Or.inl ?_;(conv=>whnf);(repeat (refine aI ?_;conv=>whnf));refine⟨_,mknown_at,rfl,?_⟩;conv=>whnf)|fail)
  all_goals first
   | exact absurd rfl (by assumption)
   | (refine Or.inl ?_;(conv=>whnf)
      rfl)
 have r2:=mright_tt c hc ht h0
 have hsl:(c.slices.l.map Slc.row).length=c.slices.l.length:=by simp
 by_cases hz:c.slices.l.length=0
 . refine FSpec.of_ok tok Tryz.func4 rfl Tryz.call4 (by simp) ?_
   (try (conv=>whnf));repeat' (first|refine Ok.seq ?_|((first|refine Ok.region tok ?_|refine Ok.cond ?_|refine Ok.ret ?_);conv=>whnf)|(refine Or.inl ?_;(conv=>whnf);(repeat (refine aI ?_;conv=>whnf));refine⟨_,r2,rfl,?_⟩;conv=>whnf)|(refine Or.inl ?_;(conv=>whnf);(repeat (refine aI ?_;conv=>whnf));refine⟨_,mknown_at,rfl,?_⟩;conv=>whnf)|(refine bI ?_ ?_<;>intro<;>(conv=>whnf)<;>(try (exfalso;omega)))|fail)
   all_goals first
    | (exfalso;omega)
    | (refine Or.inl ?_;(conv=>whnf)
       rfl)
 have r3:=mfind_p c hc ht h0
 obtain⟨hh,h1,h2,_,h4,h5⟩:=check_parts h0
 have hS:=hc.slices
 have hco:=head_chk hh
 have hw:=chk_wid hco
 have hw0:=wid_pos hco
 have hcl:=(chk_lay hco).2
 have hcl2:(fds c.fields.l).length<=12:=hcl
 have hlay:LayF (fds c.fields.l):=(chk_lay hco).1
 obtain⟨i,x,hx,hcase⟩:∃ (i:Nat) (x:Slc),c.slices.l[i]? = some x/\((a<0\/(c.slices.l.length:Int)<=a)/\i=0\/¬ (a<0\/(c.slices.l.length:Int)<=a)/\a=(i:Nat)):=by
  by_cases hr:a<0\/(c.slices.l.length:Int)<=a
  . exact⟨0,_,gEt0 (by omega),.inl ⟨hr,rfl⟩⟩
  . exact⟨a.toNat,_,gEt0 (by omega),.inr ⟨hr,by omega⟩⟩
 have hxI:c.slices.l[((i:Nat):Int).toNat]? = some x:=hx
 have hxm:=mOf0 hx
 have hxb:c.b.slices[i]? = some x.b:=by simp[Config.b,hx]
 obtain⟨_,hpk,hwh⟩:=slice_ok h5 hxb
 have hpp:=(hc.slc x hxm).ports
 obtain⟨_,hel,_⟩:=chk_good hwh
 have hel2:(nds x.whr.l).length<=64:=hel
 have hwi:=lwidth_at (fds c.fields.l) c.fields.room (by omega) hlay
 rw[fds_row] at hwi
 have rz:=FSpecH.nil ((mzone_at c hc ht h0 hx).mono fun _ _ _ h=>h.1)
 have hwh2:chkE (fds c.fields.l) (nds x.whr.l)=0:=hwh
 have hpl:(x.ports.l.map srow).length=x.ports.l.length:=by simp
 have hzl:(x.ports.l.map (zprow (fullsL c.b.boxes))).length=x.ports.l.length:=by simp
 have hw2:wid (fds c.fields.l)<=256:=hw
 have hw3:wid (fds c.fields.l) ≠ 0:=hw0
 rcases zn_cases hwh2 with h3|⟨t,ts,hZ⟩
 . replace rz:FSpec Tryz.prog T 26 [.agg c.row,.s x.name] (fun d rows=>d = .tup [.agg [.lst 3 [] [],.s []],.i .i64 3]/\rows=[]):=rz.mono fun d rows h=>by
     rcases h with⟨_,e1,e2⟩|⟨e0,_⟩
     . rw[h3] at e1;exact⟨e1,e2⟩
     . rw[h3] at e0;cases e0
   rcases hcase with⟨hr,rfl⟩|⟨hr,rfl⟩
   all_goals
    refine FSpec.of_ok tok Tryz.func4 rfl Tryz.call4 (by simp) ?_
    (try (conv=>whnf));repeat' (first|refine Ok.seq ?_|((first|refine Ok.region tok ?_|refine Ok.cond ?_|refine Ok.skip ?_|refine Ok.ret ?_|refine ix _ (by assumption) ?_);conv=>whnf)|(refine Or.inl ?_;(conv=>whnf);(repeat (refine aI ?_;conv=>whnf));refine⟨_,r2,rfl,?_⟩;conv=>whnf)|(refine Or.inl ?_;(conv=>whnf);(repeat (refine aI ?_;conv=>whnf));refine⟨_,munum_at 3,rfl,?_⟩;conv=>whnf)|(refine Or.inl ?_;(conv=>whnf);(repeat (refine aI ?_;conv=>whnf));refine⟨_,mknown_at,rfl,?_⟩;conv=>whnf)|(refine Or.inr (Or.inl ?_);(conv=>whnf);(repeat (refine aI ?_;conv=>whnf));refine⟨_,rz,?_⟩;rintro _ _ ⟨rfl,rfl⟩<;>(conv=>whnf))|(refine bI ?_ ?_<;>intro<;>(conv=>whnf)<;>(try (exfalso;omega)))|fail)
    all_goals first
     | (exfalso;omega)
     | exact absurd rfl (by assumption)
     | (refine Or.inl ?_;(conv=>whnf)
        rfl)
 . have hs:=hZ.s
   replace rz:FSpec Tryz.prog T 26 [.agg c.row,.s x.name] (fun d rows=>d = .tup [.agg [.own 0 x.ports.l.length,.s (textS ts)],.i .i64 0]/\rows=[some (3,x.ports.l.map (zprow (fullsL c.b.boxes)))]):=rz.mono fun d rows h=>by
    rw[hs] at h
    rcases h with⟨e0,_⟩|⟨_,e1,e2⟩
    . exact absurd rfl e0
    . exact⟨e1,e2⟩
   have hev:∀ h:Str,h.length=wid (fds c.fields.l)->Bin h->FSpec Tryz.prog T 32 [.lst 127 (c.fields.l.map SI.row) c.fields.room,.lst 219 (x.whr.l.map Node.row) x.whr.room,.s h] (fun d _=>d = .tup [.b (t.hold (fds c.fields.l) h),.i .i64 0]):=fun h hl hB=>by
    have:=eval_at (fds c.fields.l) c.fields.room (nds x.whr.l) x.whr.room h (by omega) (by omega) (nds_ok fun y hy=>(ht.slices x hxm).whr y hy)
    rw[fds_row,nds_row,(hZ.h h hl hB).2.1,(hZ.h h hl hB).2.2] at this
    exact this
   have hha:∀ (ks:List TR) (rm:List (List D)) (h:Str),ks.map TR.t=ts->h.length=wid (fds c.fields.l)->Bin h->FSpec Tryz.prog T 33 [.agg [.i .i64 (wid (fds c.fields.l):Nat),.lst 142 (ks.map trow) rm],.s h] (fun r _=>r = .b (t.hold (fds c.fields.l) h)):=fun ks rm h hk hl hB=>by
    have:=hasS_at hZ.f ks rm hk h
    rw[propext (hZ.h h hl hB).1] at this
    exact this
   have hpa:=parse2_at (wid (fds c.fields.l):Nat) (textS ts)
   rw[parO_text hZ.f (by omega) hZ.i] at hpa
   rcases hcase with⟨hr,rfl⟩|⟨hr,rfl⟩
   all_goals
    refine FSpec.of_ok tok Tryz.func4 rfl Tryz.call4 (by simp) ?_
    (try (conv=>whnf));repeat' (first|refine Ok.seq ?_|((first|refine Ok.region tok ?_|refine Ok.cond ?_);conv=>whnf)|refine Ok.block ?_|((first|refine Ok.skip ?_|refine ix _ (by assumption) ?_);conv=>whnf)|(refine Or.inl ?_;(conv=>whnf);(repeat (refine aI ?_;conv=>whnf));refine⟨_,r2,rfl,?_⟩;conv=>whnf)|(refine Or.inl ?_;(conv=>whnf);(repeat (refine aI ?_;conv=>whnf));refine⟨_,munum_at 0,rfl,?_⟩;conv=>whnf)|(refine Or.inr (Or.inr (Or.inr (Or.inl ?_)));(conv=>whnf);(repeat (refine aI ?_;conv=>whnf));refine⟨_,rz,?_⟩;rintro _ _ ⟨rfl,rfl⟩<;>(refine And.intro (by simp[gRowsP, grounds, D.ground, SI.row, Node.row, Pfx.row, Link.row, srow, Line.row, Rule.row, Box.row, Slc.row, Config.row, zprow]) ?_;conv=>whnf))|(refine bI ?_ ?_<;>intro<;>(conv=>whnf)<;>(try (exfalso;omega)))|fail)
    all_goals
     refine Ok.loopU [2,3,7,8] [10] 1 3 (fun (j:Nat)=>[.i .i64 (j:Nat)]) (fun (j:Nat) (_:List (List D))=>[c.row,x.row,[.own 0 x.ports.l.length,.s (textS ts)]]) (fun (j:Nat) (_:Vx.Rows)=>[some (3,x.ports.l.map (zprow (fullsL c.b.boxes)))]) (fun (j:Nat)=>j<=x.ports.l.length) (fun (j:Nat)=>x.ports.l.length - j) (0) (Nat.zero_le _) ?_;(conv=>whnf);refine⟨by ((conv=>whnf);first|rfl|(simp[envCat, tkL0, SI.row, Node.row, Pfx.row, Link.row, srow, Line.row, Rule.row, Box.row, Slc.row, Config.row, zprow];done)|(simp[envCat, tkL0, SI.row, Node.row, Pfx.row, Link.row, srow, Line.row, Rule.row, Box.row, Slc.row, Config.row, zprow];rw[IntKind.wrap_i64];omega)),?_⟩
     rintro j hj
     (conv=>whnf)
     by_cases hjl:j<x.ports.l.length
     . obtain⟨p,hp⟩:∃ p,x.ports.l[j]? = some p:=⟨_,gEt0 hjl⟩
       have hpI:x.ports.l[((j:Nat):Int).toNat]? = some p:=hp
       have hpr:(x.ports.l.map srow)[((j:Nat):Int).toNat]? = some [.s p]:=by rw[gMp0,hpI];rfl
       have hpz:(x.ports.l.map (zprow (fullsL c.b.boxes)))[((j:Nat):Int).toNat]? = some [.i .i64 (plc (fullsL c.b.boxes) p)]:=by rw[gMp0,hpI];rfl
       have hp0:=(plc_at (hpk p (mOf0 hp))).1
       (try (conv=>whnf));repeat' (first|refine Ok.seq ?_|((first|refine Ok.region tok ?_|refine Ok.region_draw tok follows (by kernel_rfl) ?_|refine Ok.cond ?_);conv=>whnf)|refine Ok.block ?_|((first|refine Ok.skip ?_|refine nI ?_|refine ix _ (by assumption) ?_|refine⟨_,r3 p,rfl,?_⟩|refine rd rfl (by assumption) ?_);conv=>whnf)|(refine bI ?_ ?_<;>intro<;>(conv=>whnf)<;>(try (exfalso;omega)))|(refine aJ ?_;conv=>whnf)|fail)
       all_goals first
        | (exfalso;omega)
        | exact absurd rfl (by assumption)
        | (refine⟨j+1,by omega,by omega,?_⟩
           (conv=>whnf)
           rfl)
     . obtain rfl:j=x.ports.l.length:=by omega
       (try (conv=>whnf));repeat' (first|refine Ok.seq ?_|((first|refine Ok.region tok ?_|refine Ok.cond ?_|refine Ok.skip ?_|refine Ok.exit ?_|refine Ok.ret ?_);conv=>whnf)|(refine Or.inl ?_;(conv=>whnf);(repeat (refine aI ?_;conv=>whnf));refine⟨_,hwi,rfl,?_⟩;conv=>whnf)|(refine Or.inl ?_;(conv=>whnf);(repeat (refine aI ?_;conv=>whnf));refine⟨_,hev _ (by assumption) (by assumption),rfl,?_⟩;conv=>whnf)|(refine Or.inl ?_;(conv=>whnf);(repeat (refine aI ?_;conv=>whnf));refine⟨_,hha _ _ _ (by assumption) (by assumption) (by assumption),rfl,?_⟩;conv=>whnf)|(refine Or.inl ?_;(conv=>whnf);(repeat (refine aI ?_;conv=>whnf));refine⟨_,munum_at 0,rfl,?_⟩;conv=>whnf)|(refine Or.inl ?_;(conv=>whnf);(repeat (refine aI ?_;conv=>whnf));refine⟨_,mknown_at,rfl,?_⟩;conv=>whnf)|(refine Or.inr (Or.inl ?_);(conv=>whnf);(repeat (refine aI ?_;conv=>whnf));refine⟨_,lbits_at s (wid (fds c.fields.l)) hw2 , ?_⟩;rintro _ _ ⟨rfl,h,rfl,hhl,hhB⟩<;>(conv=>whnf))|(refine Or.inr (Or.inl ?_);(conv=>whnf);(repeat (refine aI ?_;conv=>whnf));refine⟨_,hpa , ?_⟩;rintro _ _ ⟨rfl,_,rfl,ks,rm,rfl,hks⟩<;>(conv=>whnf))|(refine bI ?_ ?_<;>intro<;>(conv=>whnf)<;>(try (exfalso;omega)))|fail)
       all_goals first
        | (exfalso;omega)
        | exact absurd rfl (by assumption)
        | exact absurd Iff.rfl (by assumption)
        | (refine Or.inl ?_;(conv=>whnf)
           rfl)
theorem modelZone_ats:∃ ls,shapes T 9 [27,3,9]=some ls/\∀ xs,TyAs T 1048576 [27,3,9] ls xs->FSpec Tryz.prog T 4 xs (fun d _=>d = .b True):=by
 refine⟨_,rfl,fun xs h=>?_⟩
 obtain⟨_,_,rfl,h0,h⟩:=as_cons h
 obtain⟨_,_,rfl,h1,h⟩:=as_cons h
 obtain⟨_,_,rfl,h2,h⟩:=as_cons h
 obtain rfl:=as_nil h
 obtain⟨r0,rfl,g0⟩:=agg_of h0 rfl
 obtain⟨c,rfl,hc,ht⟩:=config_of g0
 obtain⟨a,rfl,_⟩:=int_of (leaf h1 rfl)
 obtain⟨s,rfl,_⟩:=str_of (leaf h2 rfl)
 exact mzone_law c hc ht a s
end Go.Proofs.YtcglkonooeddfaaGreatDoor
namespace Go.Proofs.YtcglkonooeddfaaGreatDoor
open Go Go.Vx
theorem len4{α:Type}{l:List α}(h:l.length=4):∃ a b c d,l=[a,b,c,d]:=match l,h with|[a,b,c,d],_=>⟨a,b,c,d,rfl⟩
theorem len5{α:Type}{l:List α}(h:l.length=5):∃ a b c d e,l=[a,b,c,d,e]:=match l,h with|[a,b,c,d,e],_=>⟨a,b,c,d,e,rfl⟩
theorem len20{α:Type}{l:List α}(h:l.length=20):∃ v0 v1 v2 v3 v4 v5 v6 v7 v8 v9 v10 v11 v12 v13 v14 v15 v16 v17 v18 v19,l=[v0,v1,v2,v3,v4,v5,v6,v7,v8,v9,v10,v11,v12,v13,v14,v15,v16,v17,v18,v19]:=match l,h with|[v0,v1,v2,v3,v4,v5,v6,v7,v8,v9,v10,v11,v12,v13,v14,v15,v16,v17,v18,v19],_=>⟨v0,v1,v2,v3,v4,v5,v6,v7,v8,v9,v10,v11,v12,v13,v14,v15,v16,v17,v18,v19,rfl⟩
theorem st4{W:World}{fuel:Nat}{cs:List Value}{y:DataW Unit × List MemPlace}{a b c d:Bool}(h:DataW.trod (fun _=>()) Tryz.prog W 0 (fun _=>true) false fuel 347 cs=some y)
    (hy:y.1 = .agg [.lit (.bool a),.lit (.bool b),.lit (.bool c),.lit (.bool d)]):cs=[.bool a,.bool b,.bool c,.bool d]:=by
 obtain⟨xs,n,_,rfl,hl,hlen,hf⟩:=DataW.trod_struct Tryz.underlying347 h
 have hc4:Tryz.prog.cellsOf 347=4:=by kernel_rfl
 have hcb:Tryz.prog.cellsOf 4=1:=by kernel_rfl
 rw[hc4] at hl
 have hx4:xs.length=4:=hlen
 obtain⟨z0,z1,z2,z3,rfl⟩:=len4 hx4
 obtain⟨v0,v1,v2,v3,rfl⟩:=len4 hl
 ·
  simp only[List.map_cons,List.map_nil,DataW.agg.injEq,List.cons.injEq,and_true] at hy
  obtain⟨e0,e1,e2,e3⟩:=hy
  have f0:DataW.trod (fun _=>()) Tryz.prog W 0 (fun _=>true) false n 4 (List.take (Tryz.prog.cellsOf 4) (List.drop 0 [v0,v1,v2,v3]))=some z0:=hf 0 _ rfl
  rw[hcb,show List.take 1 (List.drop 0 [v0,v1,v2,v3])=[v0] from rfl] at f0
  have f1:DataW.trod (fun _=>()) Tryz.prog W 0 (fun _=>true) false n 4 (List.take (Tryz.prog.cellsOf 4) (List.drop 1 [v0,v1,v2,v3]))=some z1:=hf 1 _ rfl
  rw[hcb,show List.take 1 (List.drop 1 [v0,v1,v2,v3])=[v1] from rfl] at f1
  have f2:DataW.trod (fun _=>()) Tryz.prog W 0 (fun _=>true) false n 4 (List.take (Tryz.prog.cellsOf 4) (List.drop 2 [v0,v1,v2,v3]))=some z2:=hf 2 _ rfl
  rw[hcb,show List.take 1 (List.drop 2 [v0,v1,v2,v3])=[v2] from rfl] at f2
  have f3:DataW.trod (fun _=>()) Tryz.prog W 0 (fun _=>true) false n 4 (List.take (Tryz.prog.cellsOf 4) (List.drop 3 [v0,v1,v2,v3]))=some z3:=hf 3 _ rfl
  rw[hcb,show List.take 1 (List.drop 3 [v0,v1,v2,v3])=[v3] from rfl] at f3
  obtain⟨b0,h0,rfl⟩:=DataW.trod_bool Tryz.underlying4 f0
  obtain⟨b1,h1,rfl⟩:=DataW.trod_bool Tryz.underlying4 f1
  obtain⟨b2,h2,rfl⟩:=DataW.trod_bool Tryz.underlying4 f2
  obtain⟨b3,h3,rfl⟩:=DataW.trod_bool Tryz.underlying4 f3
  clear hf h
  simp only[List.cons.injEq,and_true] at h0 h1 h2 h3
  simp only[DataW.lit.injEq,Lit.bool.injEq] at e0 e1 e2 e3
  rw[h0,h1,h2,h3,e0,e1,e2,e3]
theorem used_of{W:World}{fuel:Nat}{cs:List Value}{p:List MemPlace}(h:DataW.trod (fun _=>()) Tryz.prog W 0 (fun _=>true) false fuel 348 cs=some (Rows.laid_reach_field_used,p)) :
    cs=[.bool false,.bool false,.bool false,.bool false,.bool true,.bool false,.bool false,.bool false,.bool true,.bool false,.bool true,.bool false,.bool true,.bool true,.bool false,.bool false,.bool false,.bool false,.bool false,.bool true]:=by
 obtain⟨xs,m,_,hx,hl,hxl,hf⟩:=DataW.trod_array Tryz.underlying348 h
 have hc:Tryz.prog.cellsOf 348=20:=by kernel_rfl
 have hc4:Tryz.prog.cellsOf 347=4:=by kernel_rfl
 rw[hc] at hl
 rw[hc4] at hf
 have hx1:=(Prod.mk.inj hx).1
 unfold Rows.laid_reach_field_used at hx1
 obtain⟨y0,y1,y2,y3,y4,rfl⟩:=len5 hxl
 obtain⟨v0,v1,v2,v3,v4,v5,v6,v7,v8,v9,v10,v11,v12,v13,v14,v15,v16,v17,v18,v19,rfl⟩:=len20 hl
 ·
  simp only[List.map_cons,List.map_nil,DataW.agg.injEq,List.cons.injEq,and_true] at hx1
  obtain⟨e0,e1,e2,e3,e4⟩:=hx1
  have g0:=st4 (hf 0 (by decide)) e0.symm
  have g1:=st4 (hf 1 (by decide)) e1.symm
  have g2:=st4 (hf 2 (by decide)) e2.symm
  have g3:=st4 (hf 3 (by decide)) e3.symm
  have g4:=st4 (hf 4 (by decide)) e4.symm
  simp at g0 g1 g2 g3 g4
  simp[g0,g1,g2,g3,g4]
theorem gl_of_gt{W:World}(h:GT W):GlOk W:=by
 refine⟨fun pp v hp=>?_,h⟩
 unfold glV at hp
 obtain⟨b,o,sp⟩:=pp
 cases sp with
 | some _=>cases hp
 | none=>
  dsimp only at hp
  cases hg:glD b with
  | none=>rw[hg] at hp;cases hp
  | some cs=>
   rw[hg] at hp
   dsimp only at hp
   obtain⟨_,a,c,hw⟩:=h b cs hg
   show W.cell? ⟨b,o,none⟩=some v
   simp only[World.cell?,hw]
   simpa using hp
theorem heap_of{W:World}{name:String}{g:Nat}{cs:Array Value}(hg:Tryz.prog.globalNamed name=some g)(h:W.var? Tryz.prog name=some cs):∃ a b,W.heap[g]? = some (.cells cs a b):=by
 simp only[World.var?,hg,Option.bind_some] at h
 split at h
 . rename_i cs' a b hh
   cases h
   exact⟨a,b,hh⟩
 . cases h
def VarIs(W:World)(name:String)(g:Nat):Prop:=∃ cs:Array Value,W.var? Tryz.prog name=some cs/\∃ ds,glD g=some ds/\cs.toList=ds.map valD
theorem gt_of{W:World}(h1:VarIs W "reach/field.used" 1)(h5:VarIs W "internal/strconv.uint64pow10" 5):GT W:=by
 have one:∀ name g,Tryz.prog.globalNamed name=some g → VarIs W name g → ∀ cs,glD g=some cs → ∃ a b,W.heap[g]? = some (.cells (cs.map valD).toArray a b):=by
  rintro name g hn ⟨cs,hv,ds,hd,he⟩ cs' hc
  rw[hd] at hc
  cases hc
  obtain⟨a,b,hh⟩:=heap_of hn hv
  exact⟨a,b,by rw[hh,← he]⟩
 intro g cs hg
 match g,hg with
 | 1,hg=>exact⟨by cases hg;simp,one _ 1 (by kernel_rfl) h1 cs hg⟩
 | 5,hg=>exact⟨by cases hg;simp,one _ 5 (by kernel_rfl) h5 cs hg⟩
 | 0,hg=>cases hg
 | 2,hg=>cases hg
 | 3,hg=>cases hg
 | 4,hg=>cases hg
 | n+6,hg=>cases hg
theorem type_of{name:String}{g:Nat}{t t':TypeId}(hg0:Tryz.prog.globalNamed name=some g)(ht0:(Tryz.prog.globals[g]?).map (·.type)=some t){g':Nat}(hg:Tryz.prog.globalNamed name=some g')(ht:(Tryz.prog.globals[g']?).map (·.type)=some t'):g'=g/\t'=t:=by
 obtain rfl:=Option.some.inj (hg0.symm.trans hg)
 exact⟨rfl,(Option.some.inj (ht0.symm.trans ht)).symm⟩
theorem glM{W:World}(h:laidMetH Tryz.prog Rows.modelNumbersUptoRow.laid W):GlOk W:=by
 rw[MakeChecks.laidMetH_plain _ _ _ (by kernel_rfl)] at h
 obtain⟨ps,⟨_,_,_,_,_,_,_,_,_,_,⟨_,_,_,_,_,_,_,_,_,_,⟨g5,t5,c5,f5,p5,q5,hg5,ht5,hv5,hd5,⟨_,_,_,_,_,_,_,_,_,_,⟨g1,t1,c1,f1,p1,q1,hg1,ht1,hv1,hd1,_,_⟩,_⟩,_⟩,_⟩,_⟩,_⟩:=h
 obtain⟨rfl,rfl⟩:=type_of (g:=5) (t:=410) (by kernel_rfl) (by kernel_rfl) hg5 ht5
 obtain⟨rfl,rfl⟩:=type_of (g:=1) (t:=348) (by kernel_rfl) (by kernel_rfl) hg1 ht1
 refine gl_of_gt (gt_of ⟨c1,hv1,_,rfl,?_⟩ ⟨c5,hv5,_,rfl,?_⟩)
 . exact used_of hd1
 . exact Lib.cells_of_tab (zs:=Lib.pow10Tab) Tryz.underlying410 Tryz.underlying134 (by kernel_rfl) (by kernel_rfl) hd5
end Go.Proofs.YtcglkonooeddfaaGreatDoor
