/- The walks and the plain laws that a law of spaces needs, part 6 of 7. -/
import Derived.Test.YtaiondckookpiaaGreatDoorQEE
set_option linter.unusedVariables false
set_option linter.unusedSimpArgs false
namespace Go.Proofs.YtaiondckookpiaaGreatDoor
open Go Go.Vx
set_option maxHeartbeats 4000000 in
theorem rbefore_at(c r:Str)(hc:c.length<=100000)(h0:c ≠ [])(hl:r.length=c.length)(hr:CT r)(hcc:CT c):FSpec Tryz.prog T 84 [.s c,.s r] (fun d rows=>d = .tup [.s ((beforeT c r).getD []),.b ((beforeT c r).isSome=true)]/\rows=[]):=by
 have hmt:meetT c r=meetL c r:=meetT_eq h0
 refine FSpec.of_ok tok Tryz.func84 rfl Tryz.call84 (by simp) ?_
 (try (conv=>whnf));repeat' (first|refine Ok.seq ?_|(refine Ok.region tok ?_;conv=>whnf)|refine Ok.block ?_|(refine aJ ?_;conv=>whnf)|fail)
 refine Ok.loopU [0,1,6] [7] 1 0 (fun (i:Nat)=>[.i .i64 (i:Nat)]) (fun _ b=>b) (fun (i:Nat) (_:Vx.Rows)=>[some (Nat.add 5 BIG,(befL (c.take i) (r.take i)++c.drop i).map bcell)]) (fun (i:Nat)=>i<=c.length/\(meetL (c.take i) (r.take i)).isSome=true) (fun (i:Nat)=>c.length - i) (0) (⟨Nat.zero_le _,by simp[meetL]⟩) ?_;(conv=>whnf);refine⟨by ((conv=>whnf);first|rfl|(simp[envCat,List.take_of_length_le,bcell,srow];done)|(simp[envCat,List.take_of_length_le,bcell,srow];rw[IntKind.wrap_i64];omega)),?_⟩
 rintro i ⟨hi,hm⟩
 have hrl:(befL (c.take i) (r.take i)++c.drop i).length=c.length:=by simp[befL];omega
 have hrl2:((befL (c.take i) (r.take i)++c.drop i).map bcell).length=c.length:=by rw[List.length_map,hrl]
 (conv=>whnf)
 by_cases hil:i<c.length
 . obtain⟨a,ha⟩:∃ a,c[i]? = some a:=⟨_,List.getElem?_eq_getElem hil⟩
   obtain⟨b,hb⟩:∃ b,r[i]? = some b:=⟨_,List.getElem?_eq_getElem (by omega)⟩
   have haI:c[((i:Nat):Int).toNat]? = some a:=ha
   have hbI:r[((i:Nat):Int).toNat]? = some b:=hb
   obtain⟨m,hm⟩:=Option.isSome_iff_exists.1 hm
   have hfl:=bef_fill ha hb
   have hz:=bef_at ha (show i<r.length by omega)
   generalize hL:befL (c.take i) (r.take i)++c.drop i=L at *
   by_cases hx:b=120
   . subst hx
     have hn:(((120:UInt8).toNat:Nat):Int)=120:=rfl
     have hm1:meet1 a 120=some a:=by unfold meet1;split<;>simp_all
     have hst:=meetL_step ha hb hm hm1
     have hset:L.set i a=L:=by
      apply List.ext_getElem?
      intro k
      by_cases hk:k=i
      . subst hk;rw[List.getElem?_set_self (by omega),hz]
      . rw[List.getElem?_set_ne (Ne.symm hk)]
     rw[show bef1 a 120=a from rfl,hset] at hfl
     (try (conv=>whnf));repeat' (first|refine Ok.seq ?_|((first|refine Ok.region tok ?_|refine Ok.cond ?_);conv=>whnf)|refine Ok.block ?_|((first|refine Ok.skip ?_|refine nI ?_|refine⟨_,by assumption,?_⟩);conv=>whnf)|(refine bI ?_ ?_<;>intro<;>(conv=>whnf)<;>(try (exfalso;omega)))|(refine aJ ?_;conv=>whnf)|fail)
     refine⟨i+1,by omega,⟨by omega,by rw[hst];rfl⟩,?_⟩
     rw[hfl]
     (conv=>whnf)
     rfl
   . have hx2:=u8_ne hx
     rw[show (((120:UInt8).toNat:Nat):Int)=120 from rfl] at hx2
     by_cases hcf:a=120\/a=b
     . have hm1:meet1 a b=some b:=by
         unfold meet1
         rcases hcf with rfl|rfl
         . simp
         . split<;>simp
       have hst:=meetL_step ha hb hm hm1
       rw[show bef1 a b=120 by unfold bef1;rw[if_neg hx]] at hfl
       have hcf2:((a.toNat:Nat):Int)=120\/((a.toNat:Nat):Int)=((b.toNat:Nat):Int):=by
        rcases hcf with rfl|rfl
        . exact .inl rfl
        . exact .inr rfl
       (try (conv=>whnf));repeat' (first|refine Ok.seq ?_|((first|refine Ok.region tok ?_|refine Ok.region_draw tok follows (by kernel_rfl) ?_|refine Ok.cond ?_);conv=>whnf)|refine Ok.block ?_|((first|refine Ok.skip ?_|refine⟨_,by assumption,?_⟩);conv=>whnf)|(refine bI ?_ ?_<;>intro<;>(conv=>whnf)<;>(try (exfalso;omega)))|((first|refine aJ ?_|refine num_any ?_);conv=>whnf)|fail)
       all_goals first
        | (exfalso;omega)
        | (refine st 120 hz (by simp[bcell]) (by simp[setCells,bcell]) ?_
           rw[toNat_cast,<- hfl]
           (try (conv=>whnf));repeat' (first|((first|refine Ok.region tok ?_|refine nI ?_);conv=>whnf)|fail)
           refine⟨i+1,by omega,⟨by omega,by rw[hst];rfl⟩,?_⟩
           (conv=>whnf)
           rfl)
     . have hb3:=u8_ne (fun e=>hcf (.inl e):a ≠ 120)
       have hb4:=u8_ne (fun e=>hcf (.inr e):a ≠ b)
       rw[show (((120:UInt8).toNat:Nat):Int)=120 from rfl] at hb3
       have hst:=meetL_stop ha hb (show meet1 a b=none by
        unfold meet1
        rw[if_neg (fun e=>hcf (.inl e)),if_neg]
        rintro (e|e)
        . exact hx e
        . exact hcf (.inr e.symm))
       (try (conv=>whnf));repeat' (first|refine Ok.seq ?_|((first|refine Ok.region tok ?_|refine Ok.region_draw tok follows (by kernel_rfl) ?_|refine Ok.cond ?_);conv=>whnf)|refine Ok.block ?_|((first|refine Ok.skip ?_|refine Ok.ret ?_|refine⟨_,by assumption,?_⟩);conv=>whnf)|(refine bI ?_ ?_<;>intro<;>(conv=>whnf)<;>(try (exfalso;omega)))|((first|refine aJ ?_|refine num_any ?_);conv=>whnf)|fail)
       all_goals first
        | (exfalso;omega)
        | (refine Or.inl ?_;(conv=>whnf)
           refine⟨?_,rfl⟩
           unfold beforeT
           rw[hmt,hst]
           simp[oneD])
 . have hie:i=c.length:=by omega
   subst hie
   have hr2:r.take c.length=r:=by rw[<- hl];exact List.take_length
   rw[List.take_length,hr2] at hm
   rw[List.take_length,List.drop_length,List.append_nil,hr2]
   have hbl:=befL_len hl
   (try (conv=>whnf));repeat' (first|refine Ok.seq ?_|((first|refine Ok.region tok ?_|refine Ok.cond ?_|refine Ok.exit ?_);conv=>whnf)|(refine bI ?_ ?_<;>intro<;>(conv=>whnf)<;>(try (exfalso;omega)))|(refine aJ ?_;conv=>whnf)|fail)
   refine⟨befL c r,by rw[<- hbl];exact take_all bcell _,?_⟩
   (try (conv=>whnf));repeat' (first|(refine Ok.ret ?_;conv=>whnf)|fail)
   refine Or.inl ?_;(conv=>whnf)
   refine⟨?_,rfl⟩
   unfold beforeT
   rw[hmt,if_pos hm]
   simp[oneD]
noncomputable def bef1T(r:Str)(t:Term):Option Term:=(beforeT t.p r).bind fun p=>termT p (t.less.filterMap fun m=>beforeT m r)
noncomputable def befs(r:Str)(ts:List Term):List Term:=ts.filterMap (bef1T r)
open Classical in
noncomputable def befO(n:Int)(ts:List Term)(r:Str):Int × Int × List Term:=if fitP n (r.length:Int) then (0,n,formT (befs r ts)) else (11,0,[])
theorem befO_fit{n:Int}{ts:List Term}{r:Str}(h:fitP n (r.length:Int)):befO n ts r=(0,n,formT (befs r ts)):=if_pos h
theorem befO_not{n:Int}{ts:List Term}{r:Str}(h:¬ fitP n (r.length:Int)):befO n ts r=(11,0,[]):=if_neg h
theorem beforeT_cn{c r x:Str}(hc:CN c)(hl:r.length=c.length)(h:beforeT c r=some x):CN x/\x.length=c.length:=by
 obtain⟨_,rfl⟩:=beforeT_some h
 have h1:=befL_len hl
 exact⟨⟨befL_ct hc.1 hl,fun e=>hc.2 (List.eq_nil_of_length_eq_zero (by rw[<- h1,e];rfl))⟩,h1⟩
theorem befs_good{n:Nat}{ts:List Term}{r:Str}(h:∀ t ∈ ts,GoodT n t)(hr:r.length=n):∀ t ∈ befs r ts,GoodT n t:=by
 intro t ht
 obtain⟨a,ha,hb⟩:=List.mem_filterMap.1 ht
 unfold bef1T at hb
 obtain⟨p,hp,hb⟩:=Option.bind_eq_some_iff.1 hb
 have hga:=h a ha
 obtain⟨h1,h2⟩:=beforeT_cn hga.p (by rw[hr,hga.ok.p]) hp
 refine (termT_good h1 (by rw[h2,hga.ok.p]) (fun m hm=>?_) hb).1
 obtain⟨x,hx,hxm⟩:=List.mem_filterMap.1 hm
 exact (beforeT_cn (hga.less x hx) (by rw[hr,hga.ok.wide.2 x hx]) hxm).1.1
theorem bef1T_sz{r:Str}{a t:Term}(h:bef1T r a=some t):t.less.length<=a.less.length:=by
 unfold bef1T at h
 obtain⟨p,hp,hb⟩:=Option.bind_eq_some_iff.1 h
 exact Nat.le_trans (termT_sz hb) (List.length_filterMap_le _ _)
theorem befs_sz(r:Str):∀ ts:List Term,szT (befs r ts)<=szT ts
 | []=>Nat.le_refl _
 | a :: ts=>by
  have h1:=befs_sz r ts
  unfold befs at h1 ⊢
  cases hb:bef1T r a with
  | none=>
   rw[List.filterMap_cons_none hb]
   simp only[szT,List.map_cons,List.sum_cons] at h1 ⊢
   omega
  | some t=>
   rw[List.filterMap_cons_some hb]
   have:=bef1T_sz hb
   simp only[szT,List.map_cons,List.sum_cons] at h1 ⊢
   omega
theorem befO_fine{n:Int}{ts:List Term}{r:Str}(hf:Fine n ts):Fine (befO n ts r).2.1 (befO n ts r).2.2:=by
 by_cases h:fitP n (r.length:Int)
 . rw[befO_fit h]
   exact .form hf.n0 hf.n1 (befs_good hf.good (by have h1:=h.1;have h2:=h.2;show r.length=n.toNat;omega)) (Nat.le_trans (szT_form _) (Nat.le_trans (befs_sz r ts) hf.sz))
 . rw[befO_not h];exact .nil (by decide) (by decide)
end Go.Proofs.YtaiondckookpiaaGreatDoor
namespace Go.Proofs.YtaiondckookpiaaGreatDoor
open Go Go.Vx
theorem bef1T_none{r:Str}{t:Term}(h:beforeT t.p r=none):bef1T r t=none:=by unfold bef1T;rw[h];rfl
theorem bef1T_some{r:Str}{t:Term}{p:Str}(h:beforeT t.p r=some p):bef1T r t=termT p (t.less.filterMap fun m=>beforeT m r):=by unfold bef1T;rw[h];rfl
set_option maxRecDepth 100000 in
set_option maxHeartbeats 8000000 in
theorem rbefore2_at{n:Int}{ts:List Term}(hf:Fine n ts)(ks:List TR)(rm:List (List D))(h1:ks.map TR.t=ts)(r:Str)(hr:CT r) :
    FSpec Tryz.prog T 29 [.agg [.i .i64 n,.lst 120 (ks.map drow) rm],.s r] (DOut (befO n ts r)):=by
 have hl1:ks.length=ts.length:=by rw[<- h1,List.length_map]
 have hm1:(ks.map drow).length=ts.length:=by simp[hl1]
 have hk1:=hf.len
 have hn0:=hf.n0
 have hrl:=hr.len
 refine FSpec.of_ok tok Tryz.func29 rfl Tryz.call29 (by simp) ?_
 by_cases hfp:fitP n (r.length:Int)
 . have hnr:=hfp.1
   have hn1:=hfp.2
   rw[befO_fit hfp]
   (try (conv=>whnf));repeat' (first|refine Ok.seq ?_|((first|refine Ok.region tok ?_|refine Ok.cond ?_);conv=>whnf)|refine Ok.block ?_|(refine Ok.skip ?_;conv=>whnf)|(refine bI ?_ ?_<;>intro<;>(conv=>whnf)<;>(try (exfalso;omega)))|fail)
   all_goals try (exfalso;omega)
   refine Ok.ghost 6 120 rfl ?_
   (conv=>whnf)
   refine Ok.loopU [1,2,4] [6,7] 1 2 (fun (x:Nat × List TR)=>[.own 0 x.2.length,.i .i64 (x.1:Nat)]) (fun _ b=>b) (fun (x:Nat × List TR) (_:Vx.Rows)=>[some (120,x.2.map drow)]) (fun (x:Nat × List TR)=>x.1<=ts.length/\x.2.map TR.t=befs r (ts.take x.1)/\x.2.length<=x.1) (fun (x:Nat × List TR)=>ts.length - x.1) ((0,[])) (⟨Nat.zero_le _,by simp[befs],by simp⟩) ?_;(conv=>whnf);refine⟨by ((conv=>whnf);first|rfl|(simp[envCat,List.take_of_length_le,crow,trow,srow,drow];done)|(simp[envCat,List.take_of_length_le,crow,trow,srow,drow];rw[IntKind.wrap_i64];omega)),?_⟩
   rintro⟨i,l⟩ ⟨hi,hl,hll⟩
   dsimp only at hi hl hll ⊢
   have hlm:(l.map drow).length=l.length:=by simp
   (conv=>whnf)
   by_cases hil:i<ts.length
   . obtain⟨a,ha⟩:∃ a,ks[i]? = some a:=⟨_,List.getElem?_eq_getElem (by omega)⟩
     have haI:ks[((i:Nat):Int).toNat]? = some a:=ha
     have hat:=tr_get h1 ha
     have hag:=hf.good _ (List.mem_of_getElem? hat)
     have hal:=hf.less (List.mem_of_getElem? hat)
     have hal2:(a.t.less.map srow).length=a.t.less.length:=by simp
     have hapl:=hag.ok.p
     have hal3:=hag.p.1.len
     have hb1:=rbefore_at a.t.p r (by omega) hag.p.2 (by omega) hr hag.p.1
     cases hbt:beforeT a.t.p r with
     | none=>
      rw[hbt] at hb1
      have hno:=bef1T_none hbt
      (try (conv=>whnf));repeat' (first|refine Ok.seq ?_|((first|refine Ok.region tok ?_|refine Ok.cond ?_);conv=>whnf)|refine Ok.block ?_|((first|refine Ok.skip ?_|refine Ok.exit ?_|refine nI ?_|refine ix _ (by assumption) ?_);conv=>whnf)|(refine Or.inr (Or.inl ?_);(conv=>whnf);(repeat (refine aI ?_;conv=>whnf));refine⟨_,hb1,?_⟩;rintro _ _ ⟨rfl,rfl⟩<;>(conv=>whnf))|(refine bI ?_ ?_<;>intro<;>(conv=>whnf)<;>(try (exfalso;omega)))|fail)
      . refine⟨(i+1,l),by dsimp only;omega,⟨by dsimp only;omega,by dsimp only;unfold befs at hl ⊢;rw[fm_none hat hno];exact hl,by dsimp only;omega⟩,?_⟩
        (conv=>whnf)
        rfl
      all_goals (rename_i h;exact absurd (fun q=>by cases q) h)
     | some p=>
      rw[hbt] at hb1
      have hsm:=bef1T_some hbt
      obtain⟨hpc,hpl⟩:=beforeT_cn hag.p (show r.length=a.t.p.length by omega) hbt
      (try (conv=>whnf));repeat' (first|refine Ok.seq ?_|((first|refine Ok.region tok ?_|refine Ok.cond ?_);conv=>whnf)|refine Ok.block ?_|((first|refine Ok.skip ?_|refine Ok.exit ?_|refine nI ?_|refine ix _ (by assumption) ?_);conv=>whnf)|(refine Or.inr (Or.inl ?_);(conv=>whnf);(repeat (refine aI ?_;conv=>whnf));refine⟨_,hb1,?_⟩;rintro _ _ ⟨rfl,rfl⟩<;>(conv=>whnf))|(refine bI ?_ ?_<;>intro<;>(conv=>whnf)<;>(try (exfalso;omega)))|fail)
      . rename_i h
        exact absurd rfl h
      refine Ok.ghost 10 9 rfl ?_
      (conv=>whnf)
      refine Ok.loopU [1,2,4,6,7,8] [10,11] 2 2 (fun (x:Nat × List Str)=>[.own 1 x.2.length,.i .i64 (x.1:Nat)]) (fun _ b=>b) (fun (x:Nat × List Str) (_:Vx.Rows)=>[some (120,l.map drow),some (9,x.2.map srow)]) (fun (x:Nat × List Str)=>x.1<=a.t.less.length/\x.2=(a.t.less.take x.1).filterMap (fun m=>beforeT m r)/\x.2.length<=x.1) (fun (x:Nat × List Str)=>a.t.less.length - x.1) ((0,[])) (⟨Nat.zero_le _,by simp,by simp⟩) ?_;(conv=>whnf);refine⟨by ((conv=>whnf);first|rfl|(simp[envCat,List.take_of_length_le,crow,trow,srow,drow];done)|(simp[envCat,List.take_of_length_le,crow,trow,srow,drow];rw[IntKind.wrap_i64];omega)),?_⟩
      rintro⟨j,ms⟩ ⟨hj,hms,hmsl⟩
      dsimp only at hj hms hmsl ⊢
      have hmm:(ms.map srow).length=ms.length:=by simp
      (conv=>whnf)
      by_cases hjl:j<a.t.less.length
      . obtain⟨m,hm⟩:∃ m,a.t.less[j]? = some m:=⟨_,List.getElem?_eq_getElem hjl⟩
        have hmI:a.t.less[((j:Nat):Int).toNat]? = some m:=hm
        have hmc:=hag.less m (List.mem_of_getElem? hm)
        have hml:=hag.ok.wide.2 m (List.mem_of_getElem? hm)
        have hml2:=hmc.1.len
        have hb2:=rbefore_at m r (by omega) hmc.2 (by omega) hr hmc.1
        cases hbm:beforeT m r with
        | none=>
         rw[hbm] at hb2
         (try (conv=>whnf));repeat' (first|refine Ok.seq ?_|((first|refine Ok.region tok ?_|refine Ok.cond ?_);conv=>whnf)|refine Ok.block ?_|((first|refine Ok.skip ?_|refine nI ?_|refine ix _ (by assumption) ?_);conv=>whnf)|(refine Or.inr (Or.inl ?_);(conv=>whnf);(repeat (refine aI ?_;conv=>whnf));refine⟨_,hb2,?_⟩;rintro _ _ ⟨rfl,rfl⟩<;>(conv=>whnf))|((first|refine Alt2.l (aI ?_)|refine⟨_,.inl ⟨rfl,rfl⟩,?_⟩|refine⟨_,_,rfl,rfl,?_⟩);conv=>whnf)|(refine bI ?_ ?_<;>intro<;>(conv=>whnf)<;>(try (exfalso;omega)))|(refine aJ ?_;conv=>whnf)|fail)
         all_goals first
          | (rename_i h;cases h)
          | (refine⟨(j+1,ms),by dsimp only;omega,⟨by dsimp only;omega,by dsimp only;rw[fm_none hm hbm];exact hms,by dsimp only;omega⟩,?_⟩
             (conv=>whnf)
             rfl)
        | some q=>
         rw[hbm] at hb2
         (try (conv=>whnf));repeat' (first|refine Ok.seq ?_|((first|refine Ok.region tok ?_|refine Ok.cond ?_);conv=>whnf)|refine Ok.block ?_|((first|refine Ok.skip ?_|refine nI ?_|refine ix _ (by assumption) ?_);conv=>whnf)|(refine Or.inr (Or.inl ?_);(conv=>whnf);(repeat (refine aI ?_;conv=>whnf));refine⟨_,hb2,?_⟩;rintro _ _ ⟨rfl,rfl⟩<;>(conv=>whnf))|((first|refine Alt2.l (aI ?_)|refine⟨_,.inl ⟨rfl,rfl⟩,?_⟩|refine⟨_,_,rfl,rfl,?_⟩);conv=>whnf)|(refine bI ?_ ?_<;>intro<;>(conv=>whnf)<;>(try (exfalso;omega)))|(refine aJ ?_;conv=>whnf)|fail)
         all_goals first
          | (rename_i h;exact absurd rfl h)
          | (rename_i h;exact absurd trivial h)
          | (refine⟨(j+1,ms++[q]),by dsimp only;omega,⟨by dsimp only;omega,by dsimp only;rw[fm_some hm hbm,hms],by simp;omega⟩,?_⟩
             (conv=>whnf)
             simp[envCat])
      . have hje:j=a.t.less.length:=by omega
        subst hje
        rw[List.take_length] at hms
        subst hms
        have hwide:∀ x ∈ a.t.less.filterMap (fun m=>beforeT m r),x.length<=256:=fun x hx=>by
         obtain⟨y,hy,hyx⟩:=List.mem_filterMap.1 hx
         have h1:=hag.ok.wide.2 y hy
         rw[(beforeT_cn (hag.less y hy) (by omega) hyx).2]
         exact (hag.less y hy).1.len
        (try (conv=>whnf));repeat' (first|refine Ok.seq ?_|((first|refine Ok.region tok ?_|refine Ok.cond ?_|refine Ok.skip ?_|refine Ok.exit ?_|refine nI ?_|refine ix _ (by assumption) ?_);conv=>whnf)|(refine Or.inr (Or.inl ?_);(conv=>whnf);(repeat (refine aI ?_;conv=>whnf));refine⟨_,rterm_at p (a.t.less.filterMap fun m=>beforeT m r) hpc.2 hpc.1.len (by omega) hwide (List.take_of_length_le (by simp)) , ?_⟩;rintro _ _ ⟨rfl,(⟨ht,rfl⟩|⟨t,rm4,ht,rfl⟩)⟩<;>(conv=>whnf))|((first|refine Alt2.l (aI ?_)|refine⟨_,.inl ⟨rfl,rfl⟩,?_⟩|refine⟨_,_,rfl,rfl,?_⟩);conv=>whnf)|(refine bI ?_ ?_<;>intro<;>(conv=>whnf)<;>(try (exfalso;omega)))|(refine aJ ?_;conv=>whnf)|fail)
        all_goals first
         | (rename_i h;exact absurd rfl h)
         | (rename_i h;exact absurd trivial h)
         | (refine⟨(i+1,l),by dsimp only;omega,⟨by dsimp only;omega,by dsimp only;unfold befs at hl ⊢;rw[fm_none hat (hsm.trans ht)];exact hl,by dsimp only;omega⟩,?_⟩
            (conv=>whnf)
            rfl)
         | (refine⟨(i+1,l++[⟨t,rm4⟩]),by dsimp only;omega,⟨by dsimp only;omega,by dsimp only;unfold befs at hl ⊢;rw[fm_some hat (hsm.trans ht),List.map_append,hl];rfl,by simp;omega⟩,?_⟩
            (conv=>whnf)
            simp[envCat])
   . have hie:i=ts.length:=by omega
     subst hie
     rw[List.take_length] at hl
     have hgood:=befs_good hf.good (r:=r) (show r.length=n.toNat by omega)
     have hle:∀ x ∈ l,x.t.less.length<=1048576:=fun x hx=>by
      have h2:=mem_of_map hl hx
      obtain⟨b,hb,hbb⟩:=List.mem_filterMap.1 h2
      have:=bef1T_sz hbb
      have:=hf.less hb
      omega
     have hrn:∀ x ∈ l,RN2 x/\x.t.Ok n.toNat:=fun x hx=>(hgood _ (mem_of_map hl hx)).rn (hle x hx)
     have htk:List.take l.length (l.map drow)=l.map drow:=List.take_of_length_le (by simp)
     rw[<- hl]
     (try (conv=>whnf));repeat' (first|refine Ok.seq ?_|((first|refine Ok.region tok ?_|refine Ok.cond ?_|refine Ok.exit ?_|refine Ok.ret ?_);conv=>whnf)|(refine Or.inr (Or.inl ?_);(conv=>whnf);(repeat (refine aI ?_;conv=>whnf));refine⟨_,rform_at n n.toNat l (by omega) hrn htk , ?_⟩;rintro _ _ ⟨ks3,rm3,rfl,rfl,hks3,hkm⟩<;>(conv=>whnf))|(refine bI ?_ ?_<;>intro<;>(conv=>whnf)<;>(try (exfalso;omega)))|fail)
     refine Or.inl ?_;(conv=>whnf)
     exact⟨rfl,_,rfl,ks3,rm3,rfl,hks3⟩
 . rw[befO_not hfp]
   (try (conv=>whnf));repeat' (first|refine Ok.seq ?_|((first|refine Ok.region tok ?_|refine Ok.cond ?_);conv=>whnf)|refine Ok.block ?_|((first|refine Ok.skip ?_|refine Ok.ret ?_);conv=>whnf)|(refine bI ?_ ?_<;>intro<;>(conv=>whnf)<;>(try (exfalso;omega)))|fail)
   all_goals first
    | (refine Or.inl ?_;(conv=>whnf)
       exact⟨rfl,_,rfl,DSp.nil 0⟩)
    | (exfalso;exact hfp ⟨by omega,by omega⟩)
end Go.Proofs.YtaiondckookpiaaGreatDoor
namespace Go.Proofs.YtaiondckookpiaaGreatDoor
open Go Go.Vx
set_option maxRecDepth 100000 in
set_option maxHeartbeats 8000000 in
theorem before2_at{n:Int}{ts:List Term}(hf:Fine n ts)(ks:List TR)(rm:List (List D))(h1:ks.map TR.t=ts)(r:Str)(hr:CT r) :
    FSpec Tryz.prog T 27 [.agg [.i .i64 n,.lst 112 (ks.map trow) rm],.agg (crow r)] (POut (befO n ts r)):=by
 have hfit:=fits2_at n (r.length:Int)
 have htx:=text_at r hr
 have hl1:ks.length=ts.length:=by rw[<- h1,List.length_map]
 have hm1:(ks.map trow).length=ts.length:=by simp[hl1]
 have hk1:=hf.len
 have hn0:=hf.n0
 have hrl:=hr.len
 refine FSpec.of_deferK 3 tok Tryz.func27 rfl Tryz.call27 (by simp) def_before (zd1:=[.i .i64 0,.nilS]) (zd2:=[.i .i64 3]) rfl rfl (by simp[Value.oneCell']) (by simp[Value.oneCell']) rfl ?_
 by_cases hfp:fitP n (r.length:Int)
 . have hnr:=hfp.1
   have hn1:=hfp.2
   rw[befO_fit hfp]
   (try (conv=>whnf));repeat' (first|refine Ok.seq ?_|refine OkL.cons ?_|((first|refine Ok.region tok ?_|refine Ok.region_draw tok follows (by kernel_rfl) ?_|refine Ok.cond ?_|refine Ok.skip ?_|refine Ok.ret ?_|refine⟨_,by assumption,?_⟩);conv=>whnf)|(refine bI ?_ ?_<;>intro<;>(conv=>whnf)<;>(try (exfalso;omega)))|(refine aJ ?_;conv=>whnf)|fail)
   . exact absurd hfp (by assumption)
   refine OkL.nil ?_
   (conv=>whnf)
   refine⟨2,3,rfl,rfl,by decide,by decide,by decide,rfl,?_⟩
   (try (conv=>whnf));repeat' (first|refine OkL.cons ?_|(refine Ok.region tok ?_;conv=>whnf)|refine Ok.block ?_|fail)
   refine Ok.ghost 6 112 rfl ?_
   (conv=>whnf)
   refine Ok.loopU [2,3,4,5,28,29,79,80] [6,30] 1 4 (fun (x:Nat × List TR)=>[.own 0 x.2.length,.i .i64 (x.1:Nat)]) (fun _ b=>b) (fun (x:Nat × List TR) (_:Vx.Rows)=>[some (112,x.2.map trow)]) (fun (x:Nat × List TR)=>x.1<=ts.length/\x.2.map TR.t=befs r (ts.take x.1)/\x.2.length<=x.1) (fun (x:Nat × List TR)=>ts.length - x.1) ((0,[])) (⟨Nat.zero_le _,by simp[befs],by simp⟩) ?_;(conv=>whnf);refine⟨by ((conv=>whnf);first|rfl|(simp[envCat,List.take_of_length_le,crow,trow,srow,drow];done)|(simp[envCat,List.take_of_length_le,crow,trow,srow,drow];rw[IntKind.wrap_i64];omega)),?_⟩
   rintro⟨i,l⟩ ⟨hi,hl,hll⟩
   dsimp only at hi hl hll ⊢
   have hlm:(l.map trow).length=l.length:=by simp
   (conv=>whnf)
   by_cases hil:i<ts.length
   . obtain⟨a,ha⟩:∃ a,ks[i]? = some a:=⟨_,List.getElem?_eq_getElem (by omega)⟩
     have haI:ks[((i:Nat):Int).toNat]? = some a:=ha
     have hat:=tr_get h1 ha
     have hag:=hf.good _ (List.mem_of_getElem? hat)
     have hal:=hf.less (List.mem_of_getElem? hat)
     have hal2:(a.t.less.map crow).length=a.t.less.length:=by simp
     have hapl:=hag.ok.p
     have hal3:=hag.p.1.len
     have hb1:=before_at a.t.p r hag.p.1 hr
     cases hbt:beforeT a.t.p r with
     | none=>
      rw[hbt] at hb1
      have hno:=bef1T_none hbt
      (try (conv=>whnf));repeat' (first|refine Ok.seq ?_|((first|refine Ok.region tok ?_|refine Ok.cond ?_);conv=>whnf)|refine Ok.block ?_|((first|refine Ok.skip ?_|refine Ok.exit ?_|refine nI ?_|refine ix _ (by assumption) ?_);conv=>whnf)|(refine Or.inr (Or.inl ?_);(conv=>whnf);(repeat (refine aI ?_;conv=>whnf));refine⟨_,hb1,?_⟩;rintro _ _ ⟨rfl,rfl⟩<;>(conv=>whnf))|(refine bI ?_ ?_<;>intro<;>(conv=>whnf)<;>(try (exfalso;omega)))|fail)
      . refine⟨(i+1,l),by dsimp only;omega,⟨by dsimp only;omega,by dsimp only;unfold befs at hl ⊢;rw[fm_none hat hno];exact hl,by dsimp only;omega⟩,?_⟩
        (conv=>whnf)
        rfl
      all_goals (rename_i h;exact absurd (fun q=>by cases q) h)
     | some p=>
      rw[hbt] at hb1
      have hsm:=bef1T_some hbt
      obtain⟨hpc,hpl⟩:=beforeT_cn hag.p (show r.length=a.t.p.length by omega) hbt
      (try (conv=>whnf));repeat' (first|refine Ok.seq ?_|((first|refine Ok.region tok ?_|refine Ok.cond ?_);conv=>whnf)|refine Ok.block ?_|((first|refine Ok.skip ?_|refine Ok.exit ?_|refine nI ?_|refine ix _ (by assumption) ?_);conv=>whnf)|(refine Or.inr (Or.inl ?_);(conv=>whnf);(repeat (refine aI ?_;conv=>whnf));refine⟨_,hb1,?_⟩;rintro _ _ ⟨rfl,rfl⟩<;>(conv=>whnf))|(refine bI ?_ ?_<;>intro<;>(conv=>whnf)<;>(try (exfalso;omega)))|fail)
      . rename_i h
        exact absurd rfl h
      refine Ok.ghost 11 46 rfl ?_
      (conv=>whnf)
      refine Ok.loopU [2,3,4,5,6,9,28,29,30,44,45,79,80] [11,46] 2 6 (fun (x:Nat × List Str)=>[.own 1 x.2.length,.i .i64 (x.1:Nat)]) (fun _ b=>b) (fun (x:Nat × List Str) (_:Vx.Rows)=>[some (112,l.map trow),some (46,x.2.map crow)]) (fun (x:Nat × List Str)=>x.1<=a.t.less.length/\x.2=(a.t.less.take x.1).filterMap (fun m=>beforeT m r)/\x.2.length<=x.1) (fun (x:Nat × List Str)=>a.t.less.length - x.1) ((0,[])) (⟨Nat.zero_le _,by simp,by simp⟩) ?_;(conv=>whnf);refine⟨by ((conv=>whnf);first|rfl|(simp[envCat,List.take_of_length_le,crow,trow,srow,drow];done)|(simp[envCat,List.take_of_length_le,crow,trow,srow,drow];rw[IntKind.wrap_i64];omega)),?_⟩
      rintro⟨j,ms⟩ ⟨hj,hms,hmsl⟩
      dsimp only at hj hms hmsl ⊢
      have hmm:(ms.map crow).length=ms.length:=by simp
      (conv=>whnf)
      by_cases hjl:j<a.t.less.length
      . obtain⟨m,hm⟩:∃ m,a.t.less[j]? = some m:=⟨_,List.getElem?_eq_getElem hjl⟩
        have hmI:a.t.less[((j:Nat):Int).toNat]? = some m:=hm
        have hmc:=hag.less m (List.mem_of_getElem? hm)
        have hml:=hag.ok.wide.2 m (List.mem_of_getElem? hm)
        have hb2:=before_at m r hmc.1 hr
        cases hbm:beforeT m r with
        | none=>
         rw[hbm] at hb2
         (try (conv=>whnf));repeat' (first|refine Ok.seq ?_|((first|refine Ok.region tok ?_|refine Ok.cond ?_);conv=>whnf)|refine Ok.block ?_|((first|refine Ok.skip ?_|refine nI ?_|refine ix _ (by assumption) ?_);conv=>whnf)|(refine Or.inr (Or.inl ?_);(conv=>whnf);(repeat (refine aI ?_;conv=>whnf));refine⟨_,hb2,?_⟩;rintro _ _ ⟨rfl,rfl⟩<;>(conv=>whnf))|((first|refine Alt2.l (aI ?_)|refine⟨_,.inl ⟨rfl,rfl⟩,?_⟩|refine⟨_,_,rfl,rfl,?_⟩);conv=>whnf)|(refine bI ?_ ?_<;>intro<;>(conv=>whnf)<;>(try (exfalso;omega)))|(refine aJ ?_;conv=>whnf)|fail)
         all_goals first
          | (rename_i h;cases h)
          | (refine⟨(j+1,ms),by dsimp only;omega,⟨by dsimp only;omega,by dsimp only;rw[fm_none hm hbm];exact hms,by dsimp only;omega⟩,?_⟩
             (conv=>whnf)
             rfl)
        | some q=>
         rw[hbm] at hb2
         (try (conv=>whnf));repeat' (first|refine Ok.seq ?_|((first|refine Ok.region tok ?_|refine Ok.cond ?_);conv=>whnf)|refine Ok.block ?_|((first|refine Ok.skip ?_|refine nI ?_|refine ix _ (by assumption) ?_);conv=>whnf)|(refine Or.inr (Or.inl ?_);(conv=>whnf);(repeat (refine aI ?_;conv=>whnf));refine⟨_,hb2,?_⟩;rintro _ _ ⟨rfl,rfl⟩<;>(conv=>whnf))|((first|refine Alt2.l (aI ?_)|refine⟨_,.inl ⟨rfl,rfl⟩,?_⟩|refine⟨_,_,rfl,rfl,?_⟩);conv=>whnf)|(refine bI ?_ ?_<;>intro<;>(conv=>whnf)<;>(try (exfalso;omega)))|(refine aJ ?_;conv=>whnf)|fail)
         all_goals first
          | (rename_i h;exact absurd rfl h)
          | (rename_i h;exact absurd trivial h)
          | (refine⟨(j+1,ms++[q]),by dsimp only;omega,⟨by dsimp only;omega,by dsimp only;rw[fm_some hm hbm,hms],by simp;omega⟩,?_⟩
             (conv=>whnf)
             simp[envCat])
      . have hje:j=a.t.less.length:=by omega
        subst hje
        rw[List.take_length] at hms
        subst hms
        have hnew:∀ rl room,rl=List.map lrow [⟨a.t.less.filterMap (fun m=>beforeT m r),[]⟩]->FSpec Tryz.prog T 72 [.agg (crow p),.lst 58 rl room] (NewT p (a.t.less.filterMap fun m=>beforeT m r)):=fun rl room h=>by
         have:=newTerm_at p [⟨a.t.less.filterMap (fun m=>beforeT m r),[]⟩] (room:=room) hpc (by
          intro x hx m hm
          simp at hx
          subst hx
          obtain⟨y,hy,hyx⟩:=List.mem_filterMap.1 hm
          exact (beforeT_cn (hag.less y hy) (by have:=hag.ok.wide.2 y hy;omega) hyx).1.1) (by simp[allL];omega) (by simp) h
         rwa [show allL [⟨a.t.less.filterMap (fun m=>beforeT m r),[]⟩]=a.t.less.filterMap (fun m=>beforeT m r) by simp[allL]] at this
        (try (conv=>whnf));repeat' (first|refine Ok.seq ?_|((first|refine Ok.region tok ?_|refine Ok.cond ?_|refine Ok.skip ?_|refine Ok.exit ?_|refine nI ?_);conv=>whnf)|(refine Or.inr (Or.inl ?_);(conv=>whnf);(repeat (refine aI ?_;conv=>whnf));refine⟨_,hnew _ _ (by simp[lrow,List.take_of_length_le,List.drop_of_length_le]) , ?_⟩;rintro _ _ ⟨rfl,(⟨ht,rfl⟩|⟨t,rm4,ht,rfl⟩)⟩<;>(conv=>whnf))|((first|refine Alt2.l (aI ?_)|refine⟨_,.inl ⟨rfl,rfl⟩,?_⟩|refine⟨_,_,rfl,rfl,?_⟩);conv=>whnf)|(refine bI ?_ ?_<;>intro<;>(conv=>whnf)<;>(try (exfalso;omega)))|(refine aJ ?_;conv=>whnf)|fail)
        all_goals first
         | (rename_i h;exact absurd rfl h)
         | (rename_i h;exact absurd trivial h)
         | (refine⟨(i+1,l),by dsimp only;omega,⟨by dsimp only;omega,by dsimp only;unfold befs at hl ⊢;rw[fm_none hat (hsm.trans ht)];exact hl,by dsimp only;omega⟩,?_⟩
            (conv=>whnf)
            rfl)
         | (refine⟨(i+1,l++[⟨t,rm4⟩]),by dsimp only;omega,⟨by dsimp only;omega,by dsimp only;unfold befs at hl ⊢;rw[fm_some hat (hsm.trans ht),List.map_append,hl];rfl,by simp;omega⟩,?_⟩
            (conv=>whnf)
            simp[envCat])
   . have hie:i=ts.length:=by omega
     subst hie
     rw[List.take_length] at hl
     have hgood:=befs_good hf.good (r:=r) (show r.length=n.toNat by omega)
     have hsz:szT (formT (l.map TR.t))<=128:=by rw[hl];exact Nat.le_trans (szT_form _) (Nat.le_trans (befs_sz r ts) hf.sz)
     have hle:∀ x ∈ l,x.t.less.length<=1048576:=fun x hx=>by
      have h2:=mem_of_map hl hx
      obtain⟨b,hb,hbb⟩:=List.mem_filterMap.1 h2
      have:=bef1T_sz hbb
      have:=hf.less hb
      omega
     have hto:∀ x ∈ l,TO n.toNat x:=fun x hx=>(hgood _ (mem_of_map hl hx)).to (hle x hx)
     have htk:List.take l.length (l.map trow)=l.map trow:=List.take_of_length_le (by simp)
     rw[<- hl]
     (try (conv=>whnf));repeat' (first|refine Ok.seq ?_|refine OkL.cons ?_|((first|refine Ok.region tok ?_|refine Ok.cond ?_|refine Ok.exit ?_|refine Ok.ret ?_);conv=>whnf)|(refine Or.inr (Or.inl ?_);(conv=>whnf);(repeat (refine aI ?_;conv=>whnf));refine⟨_,form_at n n.toNat l (by omega) hto htk hsz , ?_⟩;rintro _ _ ⟨ks3,rm3,rfl,rfl,hks3,hkm⟩<;>(conv=>whnf))|(refine bI ?_ ?_<;>intro<;>(conv=>whnf)<;>(try (exfalso;omega)))|fail)
     refine Or.inl ?_;(conv=>whnf)
     exact⟨rfl,_,rfl,ks3,rm3,rfl,hks3⟩
 . rw[befO_not hfp]
   (try (conv=>whnf));repeat' (first|refine Ok.seq ?_|refine OkL.cons ?_|((first|refine Ok.region tok ?_|refine Ok.region_draw tok follows (by kernel_rfl) ?_|refine Ok.cond ?_|refine Ok.skip ?_|refine Ok.ret ?_|refine⟨_,by assumption,?_⟩);conv=>whnf)|(refine bI ?_ ?_<;>intro<;>(conv=>whnf)<;>(try (exfalso;omega)))|(refine aJ ?_;conv=>whnf)|fail)
   . refine Or.inl ?_;(conv=>whnf)
     exact⟨rfl,_,rfl,PSp.nil 0⟩
   . rename_i h
     exact absurd hfp h
end Go.Proofs.YtaiondckookpiaaGreatDoor
namespace Go.Proofs.YtaiondckookpiaaGreatDoor
open Go Go.Vx
theorem cube_at(w:Str):FSpec Tryz.prog T 28 [.s w] (fun d rows=>d = .agg (crow (zer w))/\rows=[]):=by
 refine FSpec.of_ok tok Tryz.func28 rfl Tryz.call28 (by simp) ?_
 (try (conv=>whnf));repeat' (first|refine Ok.seq ?_|((first|refine Ok.region tok ?_|refine Ok.ret ?_);conv=>whnf)|(refine Or.inr (Or.inl ?_);(conv=>whnf);(repeat (refine aI ?_;conv=>whnf));refine⟨_,parse_at w,?_⟩;rintro _ _ ⟨rfl,rfl⟩<;>(conv=>whnf))|fail)
 refine Or.inl ?_;(conv=>whnf)
 exact⟨rfl,rfl⟩
theorem zeroed_at(w:Str):FSpec Tryz.prog T 30 [.s w] (fun d _=>d = .s (zer w)):=by
 refine FSpec.of_ok tok Tryz.func30 rfl Tryz.call30 (by simp) ?_
 (try (conv=>whnf));repeat' (first|refine Ok.seq ?_|((first|refine Ok.region tok ?_|refine Ok.cond ?_|refine Ok.skip ?_|refine Ok.ret ?_);conv=>whnf)|(refine Or.inl ?_;(conv=>whnf);(repeat (refine aI ?_;conv=>whnf));refine⟨_,rcube_at w,rfl,?_⟩;conv=>whnf)|(refine bI ?_ ?_<;>intro<;>(conv=>whnf)<;>(try (exfalso;omega)))|fail)
 . rename_i h
   refine Or.inl ?_;(conv=>whnf)
   rw[zer_of h]
   rfl
 . rename_i h
   refine Or.inl ?_;(conv=>whnf)
   rw[zer_not h]
   rfl
end Go.Proofs.YtaiondckookpiaaGreatDoor
namespace Go.Proofs.YtaiondckookpiaaGreatDoor
open Go Go.Vx
def ov1(a b:UInt8):UInt8:=if a=120 then b else a
def curL(c d:Str)(i:Nat):Str:=List.zipWith ov1 (c.take i) (d.take i)++c.drop i
def pcT(c d:Str)(j:Nat):Option Str:=
 match c[j]?,d[j]? with
 | some a,some b=>if a=120/\b ≠ 120 then some ((curL c d j).set j (97 - b)) else none
 | _,_=>none
def pcsT(c d:Str)(i:Nat):List Str:=(List.range i).filterMap (pcT c d)
def splitT(c d:Str):List Str:=if (meetT c d).isSome then pcsT c d c.length else [c]
theorem pcsT_some{c d:Str}{i:Nat}{x:Str}(h:pcT c d i=some x):pcsT c d (i+1)=pcsT c d i++[x]:=by
 unfold pcsT;rw[List.range_succ,List.filterMap_append];simp[h]
theorem pcsT_none{c d:Str}{i:Nat}(h:pcT c d i=none):pcsT c d (i+1)=pcsT c d i:=by
 unfold pcsT;rw[List.range_succ,List.filterMap_append];simp[h]
theorem pcT_at{c d:Str}{j:Nat}{a b:UInt8}(ha:c[j]? = some a)(hb:d[j]? = some b):pcT c d j=if a=120/\b ≠ 120 then some ((curL c d j).set j (97 - b)) else none:=by
 unfold pcT;rw[ha,hb]
theorem curL_len{c d:Str}(hl:d.length=c.length)(i:Nat):(curL c d i).length=c.length:=by simp[curL];omega
theorem curL_at{c d:Str}{i:Nat}{a:UInt8}(ha:c[i]? = some a)(hd:i<d.length):(curL c d i)[i]? = some a:=by
 have hi:i<c.length:=(List.getElem?_eq_some_iff.1 ha).1
 have hl:(List.zipWith ov1 (c.take i) (d.take i)).length=i:=by simp;omega
 unfold curL
 rw[List.getElem?_append_right (by omega),hl,Nat.sub_self,List.getElem?_drop]
 exact ha
theorem curL_succ{c d:Str}{i:Nat}{a b:UInt8}(ha:c[i]? = some a)(hb:d[i]? = some b):curL c d (i+1)=(curL c d i).set i (ov1 a b):=by
 have hi:i<c.length:=(List.getElem?_eq_some_iff.1 ha).1
 have hi2:i<d.length:=(List.getElem?_eq_some_iff.1 hb).1
 have hl:(List.zipWith ov1 (c.take i) (d.take i)).length=i:=by simp;omega
 unfold curL
 rw[List.set_append,if_neg (by omega),hl,Nat.sub_self,List.drop_eq_getElem_cons hi,List.set_cons_zero,take_snoc ha,take_snoc hb]
 rw[List.zipWith_append (by simp;omega)]
 simp
theorem curL_zero(c d:Str):curL c d 0=c:=by simp[curL]
theorem set_self{l:Str}{i:Nat}{a:UInt8}(h:l[i]? = some a):l.set i a=l:=by
 have hi:=(List.getElem?_eq_some_iff.1 h).1
 apply List.ext_getElem?
 intro k
 by_cases hk:k=i
 . subst hk;rw[List.getElem?_set_self hi,h]
 . rw[List.getElem?_set_ne (Ne.symm hk)]
theorem curL_same{c d:Str}{i:Nat}{a b:UInt8}(ha:c[i]? = some a)(hb:d[i]? = some b)(h:¬ (a=120/\b ≠ 120)):curL c d (i+1)=curL c d i:=by
 rw[curL_succ ha hb,show ov1 a b=a by
  unfold ov1
  split
  . rename_i he
    by_cases hb2:b=120
    . rw[hb2,he]
    . exact absurd ⟨he,hb2⟩ h
  . rfl]
 exact set_self (curL_at ha (List.getElem?_eq_some_iff.1 hb).1)
theorem ct_set{l:Str}{i:Nat}{b:UInt8}(h:CT l)(hb:b=48\/b=49\/b=120):CT (l.set i b):=by
 refine⟨by rw[List.length_set];exact h.len,fun x hx=>?_⟩
 rcases List.mem_or_eq_of_mem_set hx with hx|rfl
 . exact h.cub x hx
 . exact hb
theorem ov1_cub{a b:UInt8}(ha:a=48\/a=49\/a=120)(hb:b=48\/b=49\/b=120):ov1 a b=48\/ov1 a b=49\/ov1 a b=120:=by
 unfold ov1;split
 . exact hb
 . exact ha
theorem curL_ct{c d:Str}(hc:CT c)(hd:CT d)(hl:d.length=c.length)(i:Nat):CT (curL c d i):=by
 induction i with
 | zero=>rw[curL_zero];exact hc
 | succ i ih=>
  by_cases hi:i<c.length
  . have ha:=List.getElem?_eq_getElem hi
    have hb:=List.getElem?_eq_getElem (show i<d.length by omega)
    rw[curL_succ ha hb]
    exact ct_set ih (ov1_cub (hc.cub _ (List.mem_of_getElem? ha)) (hd.cub _ (List.mem_of_getElem? hb)))
  . rw[show curL c d (i+1)=curL c d i by
      unfold curL
      rw[List.take_of_length_le (show c.length<=i+1 by omega),List.take_of_length_le (show d.length<=i+1 by omega),List.take_of_length_le (show c.length<=i by omega),List.take_of_length_le (show d.length<=i by omega),List.drop_of_length_le (show c.length<=i+1 by omega),List.drop_of_length_le (show c.length<=i by omega)]]
    exact ih
theorem opp_cub{b:UInt8}(hb:b=48\/b=49\/b=120)(h:b ≠ 120):97 - b=48\/97 - b=49\/97 - b=120:=by
 rcases hb with rfl|rfl|rfl
 . right;left;rfl
 . left;rfl
 . exact absurd rfl h
theorem pcsT_cn{c d:Str}(hc:CN c)(hd:CT d)(hl:d.length=c.length)(i:Nat):∀ x ∈ pcsT c d i,CN x/\x.length=c.length:=by
 intro x hx
 obtain⟨j,_,hj⟩:=List.mem_filterMap.1 hx
 unfold pcT at hj
 split at hj
 . rename_i a b ha hb
   split at hj
   . rename_i hab
     cases hj
     have h1:=curL_len hl j
     refine⟨⟨ct_set (curL_ct hc.1 hd hl j) (opp_cub (hd.cub _ (List.mem_of_getElem? hb)) hab.2),fun e=>hc.2 ?_⟩,by rw[List.length_set];exact h1⟩
     have:=congrArg List.length e
     rw[List.length_set,h1] at this
     exact List.eq_nil_of_length_eq_zero (by simpa using this)
   . cases hj
 . cases hj
theorem splitT_cn{c d:Str}(hc:CN c)(hd:CT d):∀ x ∈ splitT c d,CN x/\x.length=c.length:=by
 intro x hx
 unfold splitT at hx
 split at hx
 . rename_i h
   obtain⟨m,hm⟩:=Option.isSome_iff_exists.1 h
   rw[meetT_eq hc.2] at hm
   have:=meetL_len hm
   exact pcsT_cn hc hd (by omega) _ x hx
 . simp at hx;subst hx;exact⟨hc,rfl⟩
theorem pcsT_len(c d:Str)(i:Nat):(pcsT c d i).length<=i:=by
 have:=List.length_filterMap_le (pcT c d) (List.range i)
 simpa[pcsT] using this
theorem splitT_len{c d:Str}(hc:c.length<=256):(splitT c d).length<=256:=by
 unfold splitT
 split
 . exact Nat.le_trans (pcsT_len _ _ _) hc
 . simp
end Go.Proofs.YtaiondckookpiaaGreatDoor
namespace Go.Proofs.YtaiondckookpiaaGreatDoor
open Go Go.Vx
set_option maxHeartbeats 4000000 in
theorem rsplit_at(c d:Str)(hc:CN c)(hd:CT d):FSpec Tryz.prog T 88 [.s c,.s d] (fun r rows=>∃ rm,r = .lst 9 ((splitT c d).map srow) rm/\rows=[]):=by
 have hcl:=hc.1.len
 have hm:=rmeet_at c d (by omega)
 refine FSpec.of_ok tok Tryz.func88 rfl Tryz.call88 (by simp) ?_
 by_cases hs:(meetT c d).isSome=true
 . have hl:d.length=c.length:=by
     obtain⟨m,hm⟩:=Option.isSome_iff_exists.1 hs
     rw[meetT_eq hc.2] at hm
     have:=meetL_len hm
     omega
   (try (conv=>whnf));repeat' (first|refine Ok.seq ?_|((first|refine Ok.region tok ?_|refine Ok.cond ?_);conv=>whnf)|refine Ok.block ?_|((first|refine Ok.skip ?_|refine Ok.ret ?_);conv=>whnf)|(refine Or.inr (Or.inl ?_);(conv=>whnf);(repeat (refine aI ?_;conv=>whnf));refine⟨_,hm,?_⟩;rintro _ _ ⟨rfl,rfl⟩<;>(conv=>whnf))|((first|refine⟨_,.inl ⟨rfl,rfl⟩,?_⟩|refine⟨_,_,rfl,rfl,?_⟩);conv=>whnf)|(refine bI ?_ ?_<;>intro<;>(conv=>whnf)<;>(try (exfalso;omega)))|(refine aJ ?_;conv=>whnf)|fail)
   . exact absurd hs (by assumption)
   refine Ok.ghost 5 9 rfl ?_
   (conv=>whnf)
   rw[show c.map bcell=(curL c d 0).map bcell by rw[curL_zero]]
   refine Ok.loopU [0,1,8] [5,9] 2 0 (fun (i:Nat)=>[.own 1 (pcsT c d i).length,.i .i64 (i:Nat)]) (fun _ b=>b) (fun (i:Nat) (_:Vx.Rows)=>[some (Nat.add 5 BIG,(curL c d i).map bcell),some (9,(pcsT c d i).map srow)]) (fun (i:Nat)=>i<=c.length) (fun (i:Nat)=>c.length - i) (0) (Nat.zero_le _) ?_;(conv=>whnf);refine⟨by ((conv=>whnf);first|rfl|(simp[envCat,List.take_of_length_le,bcell,srow];done)|(simp[envCat,List.take_of_length_le,bcell,srow];rw[IntKind.wrap_i64];omega)),?_⟩
   rintro i hi
   have hcu:=curL_len hl i
   have hcm:((curL c d i).map bcell).length=c.length:=by rw[List.length_map,hcu]
   have hpl:=pcsT_len c d i
   have hpm:((pcsT c d i).map srow).length=(pcsT c d i).length:=by simp
   (conv=>whnf)
   by_cases hil:i<c.length
   . obtain⟨a,ha⟩:∃ a,c[i]? = some a:=⟨_,List.getElem?_eq_getElem hil⟩
     obtain⟨b,hb⟩:∃ b,d[i]? = some b:=⟨_,List.getElem?_eq_getElem (by omega)⟩
     have haI:c[((i:Nat):Int).toNat]? = some a:=ha
     have hbI:d[((i:Nat):Int).toNat]? = some b:=hb
     have hz:=curL_at ha (show i<d.length by omega)
     have hbc:=hd.cub b (List.mem_of_getElem? hb)
     have hpc:=pcT_at ha hb
     have hsu:=curL_succ ha hb
     by_cases hab:a=120/\b ≠ 120
     . obtain⟨rfl,hb2⟩:=hab
       have hn:(((120:UInt8).toNat:Nat):Int)=120:=rfl
       rw[if_pos ⟨rfl,hb2⟩] at hpc
       have hsn:=pcsT_some hpc
       rw[show ov1 120 b=b from rfl] at hsu
       have hb3:=u8_ne hb2
       rw[hn] at hb3
       have hop:∃ o:UInt8,o=97 - b/\IntKind.u8.wrap (97 - ((b.toNat:Nat):Int))=((o.toNat:Nat):Int):=by
        rcases hbc with rfl|rfl|rfl
        . exact⟨49,rfl,rfl⟩
        . exact⟨48,rfl,rfl⟩
        . exact absurd rfl hb2
       obtain⟨o,ho,how⟩:=hop
       rw[<- ho] at hsn hpc
       generalize hL:curL c d i=L at *
       generalize hQ:pcsT c d i=Q at *
       (try (conv=>whnf));repeat' (first|refine Ok.seq ?_|((first|refine Ok.region tok ?_|refine⟨_,(how).symm,?_⟩|refine Ok.cond ?_);conv=>whnf)|refine Ok.block ?_|((first|refine Ok.skip ?_|refine⟨_,by assumption,?_⟩);conv=>whnf)|(refine bI ?_ ?_<;>intro<;>(conv=>whnf)<;>(try (exfalso;omega)))|((first|refine aJ ?_|refine num_any ?_);conv=>whnf)|fail)
       refine st o hz (by simp[bcell]) (by simp[setCells,bcell]) ?_
       rw[toNat_cast]
       have hso:((L.set i o).map bcell).length=c.length:=by simp[hcu]
       have hso2:(L.set i o)[i]? = some o:=List.getElem?_set_self (by omega)
       have hss:(L.set i o).set i b=L.set i b:=by rw[List.set_set]
       (try (conv=>whnf));repeat' (first|refine Ok.seq ?_|((first|refine Ok.region tok ?_|refine aJ ?_);conv=>whnf)|fail)
       refine⟨L.set i o,by rw[<- hcu,<- List.length_set (i:=i) (a:=o)];exact take_all bcell _,?_⟩
       (try (conv=>whnf));repeat' (first|((first|refine Ok.region tok ?_|refine⟨_,by assumption,?_⟩|refine Alt2.l (aI ?_)|refine⟨_,.inl ⟨rfl,rfl⟩,?_⟩|refine⟨_,_,rfl,rfl,?_⟩|refine aJ ?_|refine num_any ?_);conv=>whnf)|fail)
       refine st b hso2 (by simp[bcell]) (by simp[setCells,bcell]) ?_
       rw[toNat_cast,hss,<- hsu]
       (try (conv=>whnf));repeat' (first|((first|refine Ok.region tok ?_|refine nI ?_);conv=>whnf)|fail)
       refine⟨i+1,by omega,by omega,?_⟩
       rw[hsn]
       (conv=>whnf)
       simp[envCat]
     . rw[if_neg hab] at hpc
       have hsn:=pcsT_none hpc
       have hsm:=curL_same ha hb hab
       have hab2:((a.toNat:Nat):Int)=120->((b.toNat:Nat):Int)=120:=fun h=>Classical.byContradiction fun h2=>hab ⟨UInt8.toNat_inj.1 (by have hn:(((120:UInt8).toNat:Nat):Int)=120:=rfl;omega),fun e=>h2 (by rw[e];rfl)⟩
       have hn:(((120:UInt8).toNat:Nat):Int)=120:=rfl
       generalize hL:curL c d i=L at *
       generalize hQ:pcsT c d i=Q at *
       (try (conv=>whnf));repeat' (first|refine Ok.seq ?_|((first|refine Ok.region tok ?_|refine Ok.cond ?_);conv=>whnf)|refine Ok.block ?_|((first|refine Ok.skip ?_|refine nI ?_|refine⟨_,by assumption,?_⟩);conv=>whnf)|(refine bI ?_ ?_<;>intro<;>(conv=>whnf)<;>(try (exfalso;omega)))|((first|refine aJ ?_|refine num_any ?_);conv=>whnf)|fail)
       all_goals first
        | (exfalso;omega)
        | (refine⟨i+1,by omega,by omega,?_⟩
           rw[hsm,hsn]
           (conv=>whnf)
           rfl)
   . have hie:i=c.length:=by omega
     subst hie
     have hsp:splitT c d=pcsT c d c.length:=if_pos hs
     rw[hsp]
     (try (conv=>whnf));repeat' (first|refine Ok.seq ?_|((first|refine Ok.region tok ?_|refine Ok.cond ?_|refine Ok.exit ?_|refine Ok.ret ?_);conv=>whnf)|(refine bI ?_ ?_<;>intro<;>(conv=>whnf)<;>(try (exfalso;omega)))|fail)
     refine Or.inl ?_;(conv=>whnf)
     refine⟨[],?_,rfl⟩
     rw[List.take_of_length_le (by simp),List.drop_of_length_le (by simp)]
     rfl
 . have hn:splitT c d=[c]:=by unfold splitT;rw[if_neg hs]
   rw[hn]
   (try (conv=>whnf));repeat' (first|refine Ok.seq ?_|((first|refine Ok.region tok ?_|refine Ok.cond ?_);conv=>whnf)|refine Ok.block ?_|((first|refine Ok.skip ?_|refine Ok.ret ?_);conv=>whnf)|(refine Or.inr (Or.inl ?_);(conv=>whnf);(repeat (refine aI ?_;conv=>whnf));refine⟨_,hm,?_⟩;rintro _ _ ⟨rfl,rfl⟩<;>(conv=>whnf))|((first|refine⟨_,.inl ⟨rfl,rfl⟩,?_⟩|refine⟨_,_,rfl,rfl,?_⟩);conv=>whnf)|(refine bI ?_ ?_<;>intro<;>(conv=>whnf)<;>(try (exfalso;omega)))|(refine aJ ?_;conv=>whnf)|fail)
   . refine Or.inl ?_;(conv=>whnf)
     exact⟨_,rfl,rfl⟩
   . rename_i h
     exact absurd (Classical.not_not.1 h) hs
end Go.Proofs.YtaiondckookpiaaGreatDoor
namespace Go.Proofs.YtaiondckookpiaaGreatDoor
open Go Go.Vx
theorem car_set{l:Str}{i:Nat}{b:UInt8}(h:l[i]? = some 120)(hb:dig b=true)(j:Nat):car (l.set i b) j=(car l j || decide (j=i)):=by
 have hi:=(List.getElem?_eq_some_iff.1 h).1
 by_cases hj:j=i
 . subst hj
   have h2:(l.set j b)[j]? = some b:=List.getElem?_set_self hi
   rw[(at_b h2).1,hb]
   simp
 . have:(l.set i b)[j]? = l[j]?:=List.getElem?_set_ne (Ne.symm hj)
   simp only[car,this,hj,decide_false,Bool.or_false]
theorem one_set{l:Str}{i:Nat}(h:l[i]? = some 120)(j:Nat):one (l.set i 49) j=(one l j || decide (j=i)):=by
 have hi:=(List.getElem?_eq_some_iff.1 h).1
 by_cases hj:j=i
 . subst hj
   have h2:(l.set j 49)[j]? = some 49:=List.getElem?_set_self hi
   rw[(at_b h2).2]
   simp
 . have:(l.set i 49)[j]? = l[j]?:=List.getElem?_set_ne (Ne.symm hj)
   simp only[one,this,hj,decide_false,Bool.or_false]
theorem one_set0{l:Str}{i:Nat}(h:l[i]? = some 120)(j:Nat):one (l.set i 48) j=one l j:=by
 have hi:=(List.getElem?_eq_some_iff.1 h).1
 by_cases hj:j=i
 . subst hj
   have h2:(l.set j 48)[j]? = some 48:=List.getElem?_set_self hi
   rw[(at_b h2).2,(at_b h).2]
   rfl
 . have:(l.set i 48)[j]? = l[j]?:=List.getElem?_set_ne (Ne.symm hj)
   simp only[one,this]
set_option maxHeartbeats 8000000 in
theorem split_at(c d:Str)(hc:CN c)(hd:CT d):FSpec Tryz.prog T 125 [.agg (crow c),.agg (crow d)] (fun r rows=>∃ rm,r = .lst 46 ((splitT c d).map crow) rm/\rows=[]):=by
 have hcl:=hc.1.len
 have hm:=meet_at c d hc.1 hd
 refine FSpec.of_ok tok Tryz.func125 rfl Tryz.call125 (by simp) ?_
 by_cases hs:(meetT c d).isSome=true
 . have hl:d.length=c.length:=by
     obtain⟨m,hm⟩:=Option.isSome_iff_exists.1 hs
     rw[meetT_eq hc.2] at hm
     have:=meetL_len hm
     omega
   (try (conv=>whnf));repeat' (first|refine Ok.seq ?_|((first|refine Ok.region tok ?_|refine Ok.cond ?_);conv=>whnf)|refine Ok.block ?_|((first|refine Ok.skip ?_|refine Ok.ret ?_);conv=>whnf)|(refine Or.inr (Or.inl ?_);(conv=>whnf);(repeat (refine aI ?_;conv=>whnf));refine⟨_,hm,?_⟩;rintro _ _ ⟨rfl,rfl⟩<;>(conv=>whnf))|(refine bI ?_ ?_<;>intro<;>(conv=>whnf)<;>(try (exfalso;omega)))|fail)
   . exact absurd hs (by assumption)
   refine Ok.ghost 7 46 rfl ?_
   (conv=>whnf)
   have e0:crow c=crow (curL c d 0):=by rw[curL_zero]
   have hll:((List.length c:Nat):Int)=((List.length (curL c d 0):Nat):Int):=by rw[curL_zero]
   refine Ok.loopU [2,3,21] [7,22] 1 3 (fun (i:Nat)=>[.own 0 (pcsT c d i).length,.i .i64 (i:Nat)]) (fun (i:Nat) (_:List (List D))=>[crow (curL c d i),crow d,crow ((meetT c d).getD [])]) (fun (i:Nat) (_:Vx.Rows)=>[some (46,(pcsT c d i).map crow)]) (fun (i:Nat)=>i<=c.length) (fun (i:Nat)=>c.length - i) (0) (Nat.zero_le _) ?_;(conv=>whnf);refine⟨by ((conv=>whnf);first|rfl|(simp[envCat,List.take_of_length_le,cells9,crow];done)|(simp[envCat,List.take_of_length_le,cells9,crow];rw[IntKind.wrap_i64];omega)),?_⟩
   rintro i hi
   have hcu:=curL_len hl i
   have hct:=curL_ct hc.1 hd hl i
   have hpl:=pcsT_len c d i
   have hpm:((pcsT c d i).map crow).length=(pcsT c d i).length:=by simp
   (conv=>whnf)
   by_cases hil:i<c.length
   . obtain⟨a,ha⟩:∃ a,c[i]? = some a:=⟨_,List.getElem?_eq_getElem hil⟩
     obtain⟨b,hb⟩:∃ b,d[i]? = some b:=⟨_,List.getElem?_eq_getElem (by omega)⟩
     have hz:=curL_at ha (show i<d.length by omega)
     have hac:=hc.1.cub a (List.mem_of_getElem? ha)
     have hbc:=hd.cub b (List.mem_of_getElem? hb)
     have hpc:=pcT_at ha hb
     have hsu:=curL_succ ha hb
     have hsm:=fun h=>curL_same ha hb h
     generalize hL:curL c d i=L at *
     generalize hQ:pcsT c d i=Q at *
     have s1:=at_two (car L) (one L) i (by omega)
     have s2:=at_two (car d) (one d) i (by omega)
     have s3:=at_one (one d) i (by omega)
     rw[(at_b hz).1] at s1
     rw[(at_b hb).1] at s2
     rw[(at_b hb).2] at s3
     obtain⟨q,r,hqr,hr,hq⟩:=split64 i (by omega)
     have hrem:=rem64 hqr hr
     have hquo:=quo64 hqr hr (by omega)
     have hrr:((r:Nat):Int)=((r:Nat):Int)/\r<64:=⟨rfl,hr⟩
     by_cases hab:a=120/\b ≠ 120
     . obtain⟨rfl,hb2⟩:=hab
       rw[if_pos ⟨rfl,hb2⟩] at hpc
       have hsn:=pcsT_some hpc
       rw[hQ] at hsn
       rw[show ov1 120 b=b from rfl] at hsu
       rcases hbc with rfl|rfl|rfl
       . rw[show (97:UInt8) - 48=49 from rfl] at hsn
         have k:=put_word (f:=car L) (g:=car (L.set i 48)) hqr hr (car_set hz rfl)
         have k':=put_word (f:=car L) (g:=car (L.set i 49)) hqr hr (car_set hz rfl)
         have o:=fun k=>wof_ext (f:=one (L.set i 48)) (g:=one L) (k:=k) fun j _=>one_set0 hz _
         have o':=put_word (f:=one L) (g:=one (L.set i 49)) hqr hr (one_set hz)
         rcases hq with rfl|rfl|rfl|rfl
         all_goals
          (try (conv=>whnf));repeat' (first|refine Ok.seq ?_|((first|refine Ok.region tok ?_|refine Ok.cond ?_);conv=>whnf)|refine Ok.block ?_|((first|refine Ok.skip ?_|refine Ok.exit ?_|refine nI ?_);conv=>whnf)|(refine Or.inr (Or.inr (Or.inr (Or.inr ?_)));(conv=>whnf);refine effW.of (effK.peek (by rfl) (pk2 (.bp _ _ ( crow L) rfl (fun d hd=>ints_crow _ d (List.mem_of_mem_drop hd))) (.i _ _)) (s1 ) ?_);rintro _ _ ⟨rfl,rfl⟩;(refine And.intro (by simp[gRowsP,grounds,D.ground]) ?_;conv=>whnf))|(refine Or.inr (Or.inr (Or.inr (Or.inr ?_)));(conv=>whnf);refine effW.of (effK.peek (by rfl) (pk2 (.bp _ _ ( crow d) rfl (fun d hd=>ints_crow _ d (List.mem_of_mem_drop hd))) (.i _ _)) (s2 ) ?_);rintro _ _ ⟨rfl,rfl⟩;(refine And.intro (by simp[gRowsP,grounds,D.ground]) ?_;conv=>whnf))|(refine bI ?_ ?_<;>intro<;>(conv=>whnf)<;>(try (exfalso;omega)))|fail)
          all_goals first
           | contradiction
           | skip
          refine Or.inr (Or.inr (Or.inl ?_));(conv=>whnf);refine⟨_,_,Tryz.func101,rfl,Tryz.call101,?_⟩;(conv=>whnf)
          (try (conv=>whnf));repeat' (first|((with_reducible_and_instances (first|refine nShl1' rfl (by assumption) ?_|refine nOr ?_));conv=>whnf)|refine Ok.seq ?_|((first|refine Ok.region tok ?_|refine Ok.region_plan (id:=0) tok follows [(5,12,[])] [.q 0,.q 1,.q 2,.q 3,.q 4,.q 5,.q 6,.q 7,.q 8,.q 9,.q 10,.q 11,.l 12] (by kernel_rfl) ?_|refine⟨_,(hquo.symm).symm,?_⟩|refine⟨_,(hrem.symm).symm,?_⟩|refine Ok.cond ?_);conv=>whnf)|(refine Or.inr (Or.inr (Or.inr (Or.inr ?_)));(conv=>whnf);refine effW.of (effK.peek (by rfl) (pk2 (.bp _ _ ( crow d) rfl (fun d hd=>ints_crow _ d (List.mem_of_mem_drop hd))) (.i _ _)) (s3 ) ?_);rintro _ _ ⟨rfl,rfl⟩;(refine And.intro (by simp[gRowsP,grounds,D.ground]) ?_;conv=>whnf))|(refine bI ?_ ?_<;>intro<;>(conv=>whnf)<;>(try (exfalso;omega)))|((first|refine aJ ?_|refine⟨_,rfl,?_⟩);conv=>whnf)|fail)
          all_goals first
           | contradiction
           | skip
          refine Or.inr (Or.inr (Or.inl ?_));(conv=>whnf);refine⟨_,_,Tryz.func101,rfl,Tryz.call101,?_⟩;(conv=>whnf)
          (try (conv=>whnf));repeat' (first|((first|(with_reducible_and_instances (first|refine nShl1' rfl (by assumption) ?_|refine nOr ?_))|refine Ok.region tok ?_|refine Ok.region_plan (id:=0) tok follows [(5,12,[])] [.q 0,.q 1,.q 2,.q 3,.q 4,.q 5,.q 6,.q 7,.q 8,.q 9,.q 10,.q 11,.l 12] (by kernel_rfl) ?_|refine⟨_,(hquo.symm).symm,?_⟩|refine⟨_,(hrem.symm).symm,?_⟩|refine nI ?_|refine Alt2.l (aI ?_)|refine⟨_,.inl ⟨rfl,rfl⟩,?_⟩|refine⟨_,_,rfl,rfl,?_⟩|refine aJ ?_|refine⟨_,rfl,?_⟩);conv=>whnf)|fail)
          refine⟨i+1,by omega,by omega,?_⟩
          rw[hsu,hsn]
          have a0:=(k 0).trans (by first|exact if_pos rfl|exact if_neg (by decide))
          have a1:=(k 1).trans (by first|exact if_pos rfl|exact if_neg (by decide))
          have a2:=(k 2).trans (by first|exact if_pos rfl|exact if_neg (by decide))
          have a3:=(k 3).trans (by first|exact if_pos rfl|exact if_neg (by decide))
          have b0:=o 0
          have b1:=o 1
          have b2:=o 2
          have b3:=o 3
          have e0:=(k' 0).trans (by first|exact if_pos rfl|exact if_neg (by decide))
          have e1:=(k' 1).trans (by first|exact if_pos rfl|exact if_neg (by decide))
          have e2:=(k' 2).trans (by first|exact if_pos rfl|exact if_neg (by decide))
          have e3:=(k' 3).trans (by first|exact if_pos rfl|exact if_neg (by decide))
          have f0:=(o' 0).trans (by first|exact if_pos rfl|exact if_neg (by decide))
          have f1:=(o' 1).trans (by first|exact if_pos rfl|exact if_neg (by decide))
          have f2:=(o' 2).trans (by first|exact if_pos rfl|exact if_neg (by decide))
          have f3:=(o' 3).trans (by first|exact if_pos rfl|exact if_neg (by decide))
          (conv=>whnf)
          simp only[envCat,crow,cells9,List.length_set,List.map_append,List.map_cons,List.map_nil,List.length_append,List.length_map,List.length_cons,List.length_nil,a0,a1,a2,a3,b0,b1,b2,b3,e0,e1,e2,e3,f0,f1,f2,f3]
          rfl
       . rw[show (97:UInt8) - 49=48 from rfl] at hsn
         have k:=put_word (f:=car L) (g:=car (L.set i 49)) hqr hr (car_set hz rfl)
         have k':=put_word (f:=car L) (g:=car (L.set i 48)) hqr hr (car_set hz rfl)
         have o:=put_word (f:=one L) (g:=one (L.set i 49)) hqr hr (one_set hz)
         have o':=fun k=>wof_ext (f:=one (L.set i 48)) (g:=one L) (k:=k) fun j _=>one_set0 hz _
         rcases hq with rfl|rfl|rfl|rfl
         all_goals
          (try (conv=>whnf));repeat' (first|refine Ok.seq ?_|((first|refine Ok.region tok ?_|refine Ok.cond ?_);conv=>whnf)|refine Ok.block ?_|((first|refine Ok.skip ?_|refine Ok.exit ?_|refine nI ?_);conv=>whnf)|(refine Or.inr (Or.inr (Or.inr (Or.inr ?_)));(conv=>whnf);refine effW.of (effK.peek (by rfl) (pk2 (.bp _ _ ( crow L) rfl (fun d hd=>ints_crow _ d (List.mem_of_mem_drop hd))) (.i _ _)) (s1 ) ?_);rintro _ _ ⟨rfl,rfl⟩;(refine And.intro (by simp[gRowsP,grounds,D.ground]) ?_;conv=>whnf))|(refine Or.inr (Or.inr (Or.inr (Or.inr ?_)));(conv=>whnf);refine effW.of (effK.peek (by rfl) (pk2 (.bp _ _ ( crow d) rfl (fun d hd=>ints_crow _ d (List.mem_of_mem_drop hd))) (.i _ _)) (s2 ) ?_);rintro _ _ ⟨rfl,rfl⟩;(refine And.intro (by simp[gRowsP,grounds,D.ground]) ?_;conv=>whnf))|(refine bI ?_ ?_<;>intro<;>(conv=>whnf)<;>(try (exfalso;omega)))|fail)
          all_goals first
           | contradiction
           | skip
          refine Or.inr (Or.inr (Or.inl ?_));(conv=>whnf);refine⟨_,_,Tryz.func101,rfl,Tryz.call101,?_⟩;(conv=>whnf)
          (try (conv=>whnf));repeat' (first|((with_reducible_and_instances (first|refine nShl1' rfl (by assumption) ?_|refine nOr ?_));conv=>whnf)|refine Ok.seq ?_|((first|refine Ok.region tok ?_|refine Ok.region_plan (id:=0) tok follows [(5,12,[])] [.q 0,.q 1,.q 2,.q 3,.q 4,.q 5,.q 6,.q 7,.q 8,.q 9,.q 10,.q 11,.l 12] (by kernel_rfl) ?_|refine⟨_,(hquo.symm).symm,?_⟩|refine⟨_,(hrem.symm).symm,?_⟩|refine Ok.cond ?_);conv=>whnf)|(refine Or.inr (Or.inr (Or.inr (Or.inr ?_)));(conv=>whnf);refine effW.of (effK.peek (by rfl) (pk2 (.bp _ _ ( crow d) rfl (fun d hd=>ints_crow _ d (List.mem_of_mem_drop hd))) (.i _ _)) (s3 ) ?_);rintro _ _ ⟨rfl,rfl⟩;(refine And.intro (by simp[gRowsP,grounds,D.ground]) ?_;conv=>whnf))|(refine bI ?_ ?_<;>intro<;>(conv=>whnf)<;>(try (exfalso;omega)))|((first|refine aJ ?_|refine⟨_,rfl,?_⟩);conv=>whnf)|fail)
          all_goals first
           | contradiction
           | skip
          refine Or.inr (Or.inr (Or.inl ?_));(conv=>whnf);refine⟨_,_,Tryz.func101,rfl,Tryz.call101,?_⟩;(conv=>whnf)
          (try (conv=>whnf));repeat' (first|((first|(with_reducible_and_instances (first|refine nShl1' rfl (by assumption) ?_|refine nOr ?_))|refine Ok.region tok ?_|refine Ok.region_plan (id:=0) tok follows [(5,12,[])] [.q 0,.q 1,.q 2,.q 3,.q 4,.q 5,.q 6,.q 7,.q 8,.q 9,.q 10,.q 11,.l 12] (by kernel_rfl) ?_|refine⟨_,(hquo.symm).symm,?_⟩|refine⟨_,(hrem.symm).symm,?_⟩|refine nI ?_|refine Alt2.l (aI ?_)|refine⟨_,.inl ⟨rfl,rfl⟩,?_⟩|refine⟨_,_,rfl,rfl,?_⟩|refine aJ ?_|refine⟨_,rfl,?_⟩);conv=>whnf)|fail)
          refine⟨i+1,by omega,by omega,?_⟩
          rw[hsu,hsn]
          have a0:=(k 0).trans (by first|exact if_pos rfl|exact if_neg (by decide))
          have a1:=(k 1).trans (by first|exact if_pos rfl|exact if_neg (by decide))
          have a2:=(k 2).trans (by first|exact if_pos rfl|exact if_neg (by decide))
          have a3:=(k 3).trans (by first|exact if_pos rfl|exact if_neg (by decide))
          have b0:=(o 0).trans (by first|exact if_pos rfl|exact if_neg (by decide))
          have b1:=(o 1).trans (by first|exact if_pos rfl|exact if_neg (by decide))
          have b2:=(o 2).trans (by first|exact if_pos rfl|exact if_neg (by decide))
          have b3:=(o 3).trans (by first|exact if_pos rfl|exact if_neg (by decide))
          have e0:=(k' 0).trans (by first|exact if_pos rfl|exact if_neg (by decide))
          have e1:=(k' 1).trans (by first|exact if_pos rfl|exact if_neg (by decide))
          have e2:=(k' 2).trans (by first|exact if_pos rfl|exact if_neg (by decide))
          have e3:=(k' 3).trans (by first|exact if_pos rfl|exact if_neg (by decide))
          have f0:=o' 0
          have f1:=o' 1
          have f2:=o' 2
          have f3:=o' 3
          (conv=>whnf)
          simp only[envCat,crow,cells9,List.length_set,List.map_append,List.map_cons,List.map_nil,List.length_append,List.length_map,List.length_cons,List.length_nil,a0,a1,a2,a3,b0,b1,b2,b3,e0,e1,e2,e3,f0,f1,f2,f3]
          rfl
       . exact absurd rfl hb2
     . rw[if_neg hab] at hpc
       have hsn:=pcsT_none hpc
       rw[hQ] at hsn
       have hsm:=hsm hab
       have hcases:(dig a=true)\/(dig a=false/\dig b=false):=by
        rcases hac with rfl|rfl|rfl
        . left;rfl
        . left;rfl
        . right
          rcases hbc with rfl|rfl|rfl
          . exact absurd ⟨rfl,by decide⟩ hab
          . exact absurd ⟨rfl,by decide⟩ hab
          . exact⟨rfl,rfl⟩
       rcases hcases with hda|⟨hda,hdb⟩
       . rw[hda] at s1
         (try (conv=>whnf));repeat' (first|refine Ok.seq ?_|((first|refine Ok.region tok ?_|refine Ok.cond ?_);conv=>whnf)|refine Ok.block ?_|((first|refine Ok.skip ?_|refine Ok.exit ?_|refine nI ?_);conv=>whnf)|(refine Or.inr (Or.inr (Or.inr (Or.inr ?_)));(conv=>whnf);refine effW.of (effK.peek (by rfl) (pk2 (.bp _ _ ( crow L) rfl (fun d hd=>ints_crow _ d (List.mem_of_mem_drop hd))) (.i _ _)) (s1 ) ?_);rintro _ _ ⟨rfl,rfl⟩;(refine And.intro (by simp[gRowsP,grounds,D.ground]) ?_;conv=>whnf))|(refine Or.inr (Or.inr (Or.inr (Or.inr ?_)));(conv=>whnf);refine effW.of (effK.peek (by rfl) (pk2 (.bp _ _ ( crow d) rfl (fun d hd=>ints_crow _ d (List.mem_of_mem_drop hd))) (.i _ _)) (s2 ) ?_);rintro _ _ ⟨rfl,rfl⟩;(refine And.intro (by simp[gRowsP,grounds,D.ground]) ?_;conv=>whnf))|(refine bI ?_ ?_<;>intro<;>(conv=>whnf)<;>(try (exfalso;omega)))|fail)
         all_goals first
          | contradiction
          | (refine⟨i+1,by omega,by omega,?_⟩
             rw[hsm,hsn]
             (conv=>whnf)
             rfl)
          | (rename_i h;exact absurd rfl h)
       . rw[hda] at s1
         rw[hdb] at s2
         (try (conv=>whnf));repeat' (first|refine Ok.seq ?_|((first|refine Ok.region tok ?_|refine Ok.cond ?_);conv=>whnf)|refine Ok.block ?_|((first|refine Ok.skip ?_|refine Ok.exit ?_|refine nI ?_);conv=>whnf)|(refine Or.inr (Or.inr (Or.inr (Or.inr ?_)));(conv=>whnf);refine effW.of (effK.peek (by rfl) (pk2 (.bp _ _ ( crow L) rfl (fun d hd=>ints_crow _ d (List.mem_of_mem_drop hd))) (.i _ _)) (s1 ) ?_);rintro _ _ ⟨rfl,rfl⟩;(refine And.intro (by simp[gRowsP,grounds,D.ground]) ?_;conv=>whnf))|(refine Or.inr (Or.inr (Or.inr (Or.inr ?_)));(conv=>whnf);refine effW.of (effK.peek (by rfl) (pk2 (.bp _ _ ( crow d) rfl (fun d hd=>ints_crow _ d (List.mem_of_mem_drop hd))) (.i _ _)) (s2 ) ?_);rintro _ _ ⟨rfl,rfl⟩;(refine And.intro (by simp[gRowsP,grounds,D.ground]) ?_;conv=>whnf))|(refine bI ?_ ?_<;>intro<;>(conv=>whnf)<;>(try (exfalso;omega)))|fail)
         all_goals first
          | contradiction
          | (refine⟨i+1,by omega,by omega,?_⟩
             rw[hsm,hsn]
             (conv=>whnf)
             rfl)
          | (rename_i h;exact absurd (fun q=>by cases q) h)
   . have hie:i=c.length:=by omega
     subst hie
     have hsp:splitT c d=pcsT c d c.length:=if_pos hs
     rw[hsp]
     (try (conv=>whnf));repeat' (first|refine Ok.seq ?_|((first|refine Ok.region tok ?_|refine Ok.cond ?_|refine Ok.exit ?_|refine Ok.ret ?_);conv=>whnf)|(refine bI ?_ ?_<;>intro<;>(conv=>whnf)<;>(try (exfalso;omega)))|fail)
     refine Or.inl ?_;(conv=>whnf)
     refine⟨[],?_,rfl⟩
     rw[List.take_of_length_le (by simp),List.drop_of_length_le (by simp)]
     rfl
 . have hn:splitT c d=[c]:=by unfold splitT;rw[if_neg hs]
   rw[hn]
   (try (conv=>whnf));repeat' (first|refine Ok.seq ?_|((first|refine Ok.region tok ?_|refine Ok.cond ?_);conv=>whnf)|refine Ok.block ?_|((first|refine Ok.skip ?_|refine Ok.ret ?_);conv=>whnf)|(refine Or.inr (Or.inl ?_);(conv=>whnf);(repeat (refine aI ?_;conv=>whnf));refine⟨_,hm,?_⟩;rintro _ _ ⟨rfl,rfl⟩<;>(conv=>whnf))|(refine bI ?_ ?_<;>intro<;>(conv=>whnf)<;>(try (exfalso;omega)))|fail)
   . refine Or.inl ?_;(conv=>whnf)
     exact⟨_,rfl,rfl⟩
   . rename_i h
     exact absurd (Classical.not_not.1 h) hs
end Go.Proofs.YtaiondckookpiaaGreatDoor
namespace Go.Proofs.YtaiondckookpiaaGreatDoor
open Go Go.Vx
theorem one_at(c:Str):FSpec Tryz.prog T 92 [.agg (crow c)] (fun d rows=>d = .fn 126 [] [.ep (crow c)]/\rows=[]):=by
 refine FSpec.of_ok tok Tryz.func92 rfl Tryz.call92 (by simp) ?_
 (try (conv=>whnf));repeat' (first|refine Ok.seq ?_|(refine Ok.region tok ?_;conv=>whnf)|fail)
 refine Or.inr ?_
 (conv=>whnf)
 (try (conv=>whnf));repeat' (first|(refine Ok.pubB (c:=Code.ret) rfl ?_;(conv=>whnf);refine Ok.ret ?_;(conv=>whnf))|fail)
 refine Or.inl ?_;(conv=>whnf)
 exact⟨rfl,rfl⟩
theorem splits_at(l:List Str)(rm:List (List D))(m:Str):FSpec Tryz.prog T 93 [.lst 46 (l.map crow) rm,.agg (crow m)] (fun d rows=>d = .fn 127 [] [.ep [.lst 46 (l.map crow) rm],.ep (crow m)]/\rows=[]):=by
 refine FSpec.of_ok tok Tryz.func93 rfl Tryz.call93 (by simp) ?_
 (try (conv=>whnf));repeat' (first|refine Ok.seq ?_|(refine Ok.region tok ?_;conv=>whnf)|fail)
 refine Or.inr ?_
 (conv=>whnf)
 (try (conv=>whnf));repeat' (first|(refine Ok.pubB (c:=Code.ret) rfl ?_;(conv=>whnf);refine Ok.ret ?_;(conv=>whnf))|fail)
 refine Or.inl ?_;(conv=>whnf)
 exact⟨rfl,rfl⟩
def cubX(l:List Str):List (List D):=l.map fun x=>[.agg (crow x)]
theorem one_seq(c:Str):YSpec Tryz.prog T 126 [.ep (crow c)] (cubX [c]):=by
 refine YSpec.of_okY Tryz.func126 rfl Tryz.call126 rfl (show 2<=6 by decide) fun l=>?_
 refine OkY.yreg tok 2 0 [.agg (crow c)] rfl ?_
 (conv=>whnf)
 refine⟨rfl,rfl,rfl,?_⟩
 (conv=>whnf)
 refine⟨?_,?_⟩
 . (conv=>whnf)
   exact⟨.inl rfl,.inl rfl⟩
 . (conv=>whnf)
   exact⟨.inl rfl,.inr rfl⟩
def splL(m:Str)(l:List Str):List Str:=l.flatMap fun c=>splitT c m
theorem splL_snoc{m:Str}{l:List Str}{i:Nat}{c:Str}(hc:l[i]? = some c):splL m (l.take (i+1))=splL m (l.take i)++splitT c m:=by
 unfold splL;rw[take_snoc hc,List.flatMap_append];simp
theorem splL_at{m:Str}{l:List Str}{i j:Nat}{c x:Str}(hc:l[i]? = some c)(hx:(splitT c m)[j]? = some x):(splL m l)[(splL m (l.take i)).length+j]? = some x:=by
 have h1:splL m l=(splL m (l.take i)++splitT c m)++splL m (l.drop (i+1)):=by
  rw[<- splL_snoc hc]
  unfold splL
  rw[<- List.flatMap_append,List.take_append_drop]
 have hj:j<(splitT c m).length:=(List.getElem?_eq_some_iff.1 hx).1
 rw[h1,List.getElem?_append_left (by rw[List.length_append];omega),List.getElem?_append_right (by omega),Nat.add_sub_cancel_left]
 exact hx
theorem cubX_at{l:List Str}{k:Nat}{x:Str}(h:l[k]? = some x):(cubX l)[k]? = some [.agg (crow x)]:=by simp[cubX,h]
theorem splits_seq(l:List Str)(rm:List (List D))(m:Str)(hl:∀ c ∈ l,CN c)(hm:CT m)(hll:l.length<=100000):YSpec Tryz.prog T 127 [.ep [.lst 46 (l.map crow) rm],.ep (crow m)] (cubX (splL m l)):=by
 have hlm:(l.map crow).length=l.length:=by simp
 refine YSpec.of_okY Tryz.func127 rfl Tryz.call127 rfl (show 3<=28 by decide) fun y=>?_
 refine OkY.seq (OkY.piece ?_)
 (try (conv=>whnf));repeat' (first|(refine Ok.region tok ?_;conv=>whnf)|fail)
 refine OkY.block ?_
 refine OkY.loopK [0,2,8,9,10] (fun i:Nat=>[(0,.yld y),(2,.ep (crow m)),(8,.lst 46 (l.map crow) rm),(9,.i .i64 (l.map crow).length),(10,.i .i64 (i:Nat))]) (fun i=>some (splL m (l.take i)).length) (fun i=>i<=l.length) (fun i=>l.length - i) 0 (Nat.zero_le _) (by simp[splL]) (by
  (conv=>whnf)
  rfl) ?_
 intro i hi
 refine OkY.seq (OkY.piece ?_)
 (try (conv=>whnf));repeat' (first|(refine Ok.region tok ?_;conv=>whnf)|fail)
 refine OkY.seq (OkY.cond ?_)
 (conv=>whnf)
 refine⟨fun h=>?_,fun h=>?_⟩
 . refine OkY.skip ?_
   (conv=>whnf)
   have hil:i<l.length:=by omega
   obtain⟨c,hc⟩:∃ c,l[i]? = some c:=⟨_,List.getElem?_eq_getElem hil⟩
   have hcI:l[((i:Nat):Int).toNat]? = some c:=hc
   have hcn:=hl c (List.mem_of_getElem? hc)
   have hsl:=splitT_len (d:=m) hcn.1.len
   have hslm:((splitT c m).map crow).length=(splitT c m).length:=by simp
   have hsn:=splL_snoc (m:=m) hc
   have hat:=fun j x=>splL_at (m:=m) (j:=j) (x:=x) hc
   refine OkY.seq (OkY.block (OkY.ofZ (OkZ.seq ?_)))
   (try (conv=>whnf));repeat' (first|((first|refine Ok.region tok ?_|refine ix _ (by assumption) ?_);conv=>whnf)|fail)
   refine OkZ.seq ?_
   (try (conv=>whnf));repeat' (first|(refine Ok.region tok ?_;conv=>whnf)|(refine Or.inr (Or.inl ?_);(conv=>whnf);(repeat (refine aI ?_;conv=>whnf));refine⟨_,split_at c m hcn hm , ?_⟩;rintro _ _ ⟨rm2,rfl,rfl⟩<;>(conv=>whnf))|fail)
   refine OkZ.ofY ?_
   (conv=>whnf)
   refine OkY.block ?_
   generalize hS:splitT c m=S at *
   refine OkY.loopK [0,2,8,9,10,16,17,18] (fun j:Nat=>[(0,.yld y),(2,.ep (crow m)),(8,.lst 46 (l.map crow) rm),(9,.i .i64 (l.map crow).length),(10,.i .i64 (i:Nat)),(16,.lst 46 (S.map crow) rm2),(17,.i .i64 (S.map crow).length),(18,.i .i64 (j:Nat))]) (fun j=>some ((splL m (l.take i)).length+j)) (fun j=>j<=S.length) (fun j=>S.length - j) 0 (Nat.zero_le _) (by simp) (by
    (conv=>whnf)
    rfl) ?_
   intro j hj
   refine OkY.seq (OkY.piece ?_)
   (try (conv=>whnf));repeat' (first|(refine Ok.region tok ?_;conv=>whnf)|fail)
   refine OkY.seq (OkY.cond ?_)
   (conv=>whnf)
   refine⟨fun h=>?_,fun h=>?_⟩
   . refine OkY.skip ?_
     (conv=>whnf)
     have hjl:j<S.length:=by omega
     obtain⟨x,hx⟩:∃ x,S[j]? = some x:=⟨_,List.getElem?_eq_getElem hjl⟩
     have hxI:S[((j:Nat):Int).toNat]? = some x:=hx
     refine OkY.seq (OkY.block (OkY.ofZ (OkZ.seq ?_)))
     (try (conv=>whnf));repeat' (first|((first|refine Ok.region tok ?_|refine ix _ (by assumption) ?_);conv=>whnf)|fail)
     refine OkZ.seqY (OkZ.yreg tok 2 _ [.agg (crow x)] (cubX_at (hat j x hx)) ?_)
     (conv=>whnf)
     refine⟨rfl,rfl,rfl,?_⟩
     (conv=>whnf)
     refine⟨?_,?_⟩
     . (conv=>whnf)
       refine OkY.cond ?_
       (conv=>whnf)
       refine OkY.skip ?_
       (conv=>whnf)
       refine OkY.piece ?_
       (try (conv=>whnf));repeat' (first|((first|refine Ok.region tok ?_|refine nI ?_);conv=>whnf)|fail)
       refine⟨j+1,by omega,by omega,by rw[Nat.add_assoc],?_⟩
       (conv=>whnf)
       rfl
     . (conv=>whnf)
       refine OkY.cond ?_
       (conv=>whnf)
       refine OkY.ret ?_
       (conv=>whnf)
       exact⟨.inr rfl,.inr rfl⟩
   . have hje:j=S.length:=by omega
     subst hje
     refine OkY.exit ?_
     (conv=>whnf)
     refine OkY.piece ?_
     (try (conv=>whnf));repeat' (first|((first|refine Ok.region tok ?_|refine nI ?_);conv=>whnf)|fail)
     refine⟨i+1,by omega,by omega,by rw[hsn,List.length_append],?_⟩
     (conv=>whnf)
     rfl
 . have hie:i=l.length:=by omega
   subst hie
   refine OkY.exit ?_
   (conv=>whnf)
   refine⟨.inl rfl,.inl ?_⟩
   rw[List.take_length]
   simp[cubX]
end Go.Proofs.YtaiondckookpiaaGreatDoor
namespace Go.Proofs.YtaiondckookpiaaGreatDoor
open Go Go.Vx
theorem cubX_get{l:List Str}{k:Nat}{x:List D}(h:(cubX l)[k]? = some x):∃ c,l[k]? = some c/\x=[.agg (crow c)]:=by
 simp only[cubX,List.getElem?_map,Option.map_eq_some_iff] at h
 obtain⟨c,h1,h2⟩:=h
 exact⟨c,h1,h2.symm⟩
theorem cubX_len(l:List Str):(cubX l).length=l.length:=by simp[cubX]
set_option maxHeartbeats 4000000 in
theorem collect_at{f:FuncId}{cap:List D}{l:List Str}(hY:YSpec Tryz.prog T f cap (cubX l))(most:Int)(hm:(l.length:Int)<=most)(hl:l.length<=1000000) :
    FSpec Tryz.prog T 91 [.fn f [] cap,.i .i64 most] (fun d rows=>∃ rm,d = .lst 46 (l.map crow) rm/\rows=[]):=by
 refine FSpec.of_okG tok Tryz.func91 rfl Tryz.call91 (by simp) ?_
 refine OkG.seq (OkG.of ?_)
 (try (conv=>whnf));repeat' (first|(refine Ok.region tok ?_;conv=>whnf)|fail)
 refine OkG.seq (OkG.of ?_)
 (try (conv=>whnf));repeat' (first|(refine Ok.region tok ?_;conv=>whnf)|fail)
 refine OkG.seq (OkG.seq (OkG.of ?_))
 refine Ok.ghostB 1 0 46 rfl rfl ?_
 (conv=>whnf)
 (try (conv=>whnf));repeat' (first|(refine Ok.region tok ?_;conv=>whnf)|fail)
 refine OkG.block ?_
 refine OkG.range [3,5,7] 1 2 (fun k=>⟨[(3,.bp 0 0),(5,.bp 1 0),(7,.fn f [] cap)],[[.i .i64 most],[.own 0 k]],[some (46,(l.take k).map crow)],20⟩) (fun k=>k<=l.length) (Nat.zero_le _) (by
  (conv=>whnf)
  rfl) rfl hY (fun _=>rfl) (by simp) ?_ ?_
 . intro k x hx hk
   obtain⟨c,hc,rfl⟩:=cubX_get hx
   refine⟨rfl,?_⟩
   (conv=>whnf)
   have hkl:k<l.length:=(List.getElem?_eq_some_iff.1 hc).1
   have htl:((l.take k).map crow).length=k:=by simp;omega
   have hsn:(l.take (k+1)).map crow=(l.take k).map crow++[crow c]:=by rw[take_snoc hc,List.map_append];rfl
   have hkm:¬ (k:Int)=most:=by omega
   (try (conv=>whnf));repeat' (first|refine OkR.seq ?_|((first|refine OkR.region tok ?_|refine OkR.cond ?_);conv=>whnf)|refine OkR.block ?_|((first|refine OkR.skip ?_|refine Alt2.l (aI ?_)|refine⟨_,.inl ⟨rfl,rfl⟩,?_⟩|refine⟨_,_,rfl,rfl,?_⟩);conv=>whnf)|(refine bI ?_ ?_<;>intro<;>(conv=>whnf)<;>(try (exfalso;omega)))|(refine aJ ?_;conv=>whnf)|fail)
   all_goals first
    | (exfalso;omega)
    | skip
   have hln:((l.take k).map crow++[crow c]).length=k+1:=by rw[List.length_append,htl];rfl
   rw[hsn,<- hln]
 . intro _
   rw[cubX_len,List.take_length]
   (conv=>whnf)
   refine OkG.of ?_
   (try (conv=>whnf));repeat' (first|refine Ok.seq ?_|((first|refine Ok.region tok ?_|refine Ok.ret ?_);conv=>whnf)|fail)
   refine Or.inl ?_;(conv=>whnf)
   refine⟨[],?_,rfl⟩
   rw[List.take_of_length_le (by simp),List.drop_of_length_le (by simp)]
   rfl
set_option maxHeartbeats 4000000 in
theorem collect_pan{f:FuncId}{cap:List D}{l:List Str}(hY:YSpec Tryz.prog T f cap (cubX l))(most:Int)(h0:0<=most)(hm:most<(l.length:Int))(hl:l.length<=1000000) :
    PSpec Tryz.prog T 91 [.fn f [] cap,.i .i64 most] passedV:=by
 refine PSpec.of_okG Tryz.func91 rfl Tryz.call91 (by simp) ?_
 refine OkG.seq (OkG.of ?_)
 (try (conv=>whnf));repeat' (first|(refine Ok.region tok ?_;conv=>whnf)|fail)
 refine OkG.seq (OkG.of ?_)
 (try (conv=>whnf));repeat' (first|(refine Ok.region tok ?_;conv=>whnf)|fail)
 refine OkG.seq (OkG.seq (OkG.of ?_))
 refine Ok.ghostB 1 0 46 rfl rfl ?_
 (conv=>whnf)
 (try (conv=>whnf));repeat' (first|(refine Ok.region tok ?_;conv=>whnf)|fail)
 refine OkG.block ?_
 refine OkG.range [3,5,7] 1 2 (fun k=>⟨[(3,.bp 0 0),(5,.bp 1 0),(7,.fn f [] cap)],[[.i .i64 most],[.own 0 k]],[some (46,(l.take k).map crow)],20⟩) (fun k=>(k:Int)<=most) h0 (by
  (conv=>whnf)
  rfl) rfl hY (fun _=>rfl) (by simp) ?_ ?_
 . intro k x hx hk
   obtain⟨c,hc,rfl⟩:=cubX_get hx
   refine⟨rfl,?_⟩
   (conv=>whnf)
   have hkl:k<l.length:=(List.getElem?_eq_some_iff.1 hc).1
   have htl:((l.take k).map crow).length=k:=by simp;omega
   have hsn:(l.take (k+1)).map crow=(l.take k).map crow++[crow c]:=by rw[take_snoc hc,List.map_append];rfl
   by_cases hkm:(k:Int)=most
   . (try (conv=>whnf));repeat' (first|(refine OkR.region_throw (fun w=>by kernel_rfl) (by kernel_rfl) (by decide) (by decide) ?_;conv=>whnf)|refine OkR.seq ?_|((first|refine OkR.region tok ?_|refine OkR.cond ?_);conv=>whnf)|refine OkR.block ?_|(refine bI ?_ ?_<;>intro<;>(conv=>whnf)<;>(try (exfalso;omega)))|(refine aJ ?_;conv=>whnf)|fail)
     all_goals first
      | (exfalso;omega)
      | skip
     refine⟨fun _ h=>h,?_⟩
     (conv=>whnf)
     rfl
   . (try (conv=>whnf));repeat' (first|refine OkR.seq ?_|((first|refine OkR.region tok ?_|refine OkR.cond ?_);conv=>whnf)|refine OkR.block ?_|((first|refine OkR.skip ?_|refine Alt2.l (aI ?_)|refine⟨_,.inl ⟨rfl,rfl⟩,?_⟩|refine⟨_,_,rfl,rfl,?_⟩);conv=>whnf)|(refine bI ?_ ?_<;>intro<;>(conv=>whnf)<;>(try (exfalso;omega)))|(refine aJ ?_;conv=>whnf)|fail)
     all_goals first
      | (exfalso;omega)
      | skip
     have hln:((l.take k).map crow++[crow c]).length=k+1:=by rw[List.length_append,htl];rfl
     rw[hsn,<- hln]
 . intro h
   rw[cubX_len] at h
   exfalso
   omega
end Go.Proofs.YtaiondckookpiaaGreatDoor
namespace Go.Proofs.YtaiondckookpiaaGreatDoor
open Go Go.Vx
def splX(lim:Int):List Str->List Str->Option (List Str)
 | [],l=>some l
 | m :: ms,l=>if lim<((splL m l).length:Int) then none else splX lim ms (splL m l)
def termX(lim:Int)(t:Term):Option (List Str):=if lim<1 then none else splX lim t.less [t.p]
def expX(limit:Int):List Term->List Str->Option (List Str)
 | [],out=>some out
 | t :: ts,out=>match termX (limit - (out.length:Int)) t with
  | none=>none
  | some l=>expX limit ts (out++l)
theorem expX_cons(limit:Int)(t:Term)(ts:List Term)(out:List Str):expX limit (t :: ts) out=match termX (limit - (out.length:Int)) t with|none=>none|some l=>expX limit ts (out++l):=rfl
theorem splX_cons(lim:Int)(m:Str)(ms l:List Str):splX lim (m :: ms) l=if lim<((splL m l).length:Int) then none else splX lim ms (splL m l):=rfl
def expO(n:Int)(ts:List Term)(limit:Int):Int × List Str:=
 if n=0 then (11,[]) else if limit<0\/2048<limit then (1,[]) else match expX limit ts [] with
  | some l=>(0,l)
  | none=>(3,[])
theorem expO_zero{ts:List Term}{limit:Int}{n:Int}(h:n=0):expO n ts limit=(11,[]):=by unfold expO;rw[if_pos h]
theorem expO_arg{n:Int}{ts:List Term}{limit:Int}(h:n ≠ 0)(h2:limit<0\/2048<limit):expO n ts limit=(1,[]):=by unfold expO;rw[if_neg h,if_pos h2]
theorem expO_some{n:Int}{ts:List Term}{limit:Int}{l:List Str}(h:n ≠ 0)(h2:¬ (limit<0\/2048<limit))(h3:expX limit ts []=some l):expO n ts limit=(0,l):=by unfold expO;rw[if_neg h,if_neg h2,h3]
theorem expO_none{n:Int}{ts:List Term}{limit:Int}(h:n ≠ 0)(h2:¬ (limit<0\/2048<limit))(h3:expX limit ts []=none):expO n ts limit=(3,[]):=by unfold expO;rw[if_neg h,if_neg h2,h3]
def AllW(n:Nat)(l:List Str):Prop:=∀ c ∈ l,CN c/\c.length=n
theorem splL_all{n:Nat}{m:Str}{l:List Str}(h:AllW n l)(hm:CT m):AllW n (splL m l):=by
 intro x hx
 obtain⟨c,hc,hx⟩:=List.mem_flatMap.1 hx
 obtain⟨h1,h2⟩:=splitT_cn (h c hc).1 hm x hx
 exact⟨h1,h2.trans (h c hc).2⟩
theorem splL_len{n:Nat}{m:Str}:∀ {l:List Str},AllW n l->(splL m l).length<=l.length*256
 | [],_=>by simp[splL]
 | c :: l,h=>by
  have h1:=splL_len (m:=m) (l:=l) fun x hx=>h x (by simp[hx])
  have h2:=splitT_len (d:=m) (h c (by simp)).1.1.len
  have:splL m (c :: l)=splitT c m++splL m l:=by simp[splL]
  rw[this,List.length_append,List.length_cons]
  omega
theorem splX_all{n:Nat}{lim:Int}:∀ {ms l:List Str} {r:List Str},AllW n l->(∀ m ∈ ms,CT m)->splX lim ms l=some r->AllW n r
 | [],l,r,hl,_,h=>by cases h;exact hl
 | m :: ms,l,r,hl,hm,h=>by
  unfold splX at h
  split at h
  . cases h
  . exact splX_all (splL_all hl (hm m (by simp))) (fun x hx=>hm x (by simp[hx])) h
theorem splX_le{lim:Int}:∀ {ms l:List Str} {r:List Str},(l.length:Int)<=lim->splX lim ms l=some r->(r.length:Int)<=lim
 | [],l,r,hl,h=>by cases h;exact hl
 | m :: ms,l,r,hl,h=>by
  unfold splX at h
  split at h
  . cases h
  . exact splX_le (by omega) h
theorem termX_all{n:Nat}{t:Term}{lim:Int}{l:List Str}(hg:GoodT n t)(h:termX lim t=some l):AllW n l/\(l.length:Int)<=lim:=by
 unfold termX at h
 split at h
 . cases h
 . exact⟨splX_all (fun c hc=>by simp at hc;subst hc;exact⟨hg.p,hg.ok.p⟩) (fun m hm=>(hg.less m hm).1) h,splX_le (by simp;omega) h⟩
theorem expX_all{n:Nat}{limit:Int}:∀ {ts:List Term} {out r:List Str},(∀ t ∈ ts,GoodT n t)->AllW n out->(out.length:Int)<=limit->expX limit ts out=some r->AllW n r/\(r.length:Int)<=limit
 | [],out,r,_,ho,hl,h=>by cases h;exact⟨ho,hl⟩
 | t :: ts,out,r,hg,ho,hl,h=>by
  unfold expX at h
  split at h
  . cases h
  . rename_i l hlx
    obtain⟨h1,h2⟩:=termX_all (hg t (by simp)) hlx
    exact expX_all (fun x hx=>hg x (by simp[hx])) (fun c hc=>(List.mem_append.1 hc).elim (ho c) (h1 c)) (by rw[List.length_append];omega) h
theorem expO_all{n:Int}{ts:List Term}{limit:Int}(hf:Fine n ts):AllW n.toNat (expO n ts limit).2/\(expO n ts limit).2.length<=2048:=by
 unfold expO
 split
 . exact⟨fun c hc=>by simp at hc,by simp⟩
 . split
   . exact⟨fun c hc=>by simp at hc,by simp⟩
   . rename_i h2
     cases h:expX limit ts [] with
     | none=>exact⟨fun c hc=>by simp at hc,by simp⟩
     | some l=>
      obtain⟨h3,h4⟩:=expX_all hf.good (fun c hc=>by simp at hc) (by simp;omega) h
      exact⟨h3,by show l.length<=2048;omega⟩
def EOut(o:Int × List Str)(d:D)(rows:Vx.Rows):Prop:=rows=[]/\∃ rm,d = .tup [.lst 46 (o.2.map crow) rm,.i .i64 o.1]
set_option maxRecDepth 100000 in
set_option maxHeartbeats 8000000 in
theorem expand_at{n:Int}{ts:List Term}(hf:Fine n ts)(ks:List TR)(rm:List (List D))(h1:ks.map TR.t=ts)(limit:Int) :
    FSpec Tryz.prog T 34 [.agg [.i .i64 n,.lst 112 (ks.map trow) rm],.i .i64 limit] (EOut (expO n ts limit)):=by
 have hl1:ks.length=ts.length:=by rw[<- h1,List.length_map]
 have hm1:(ks.map trow).length=ts.length:=by simp[hl1]
 have hk1:=hf.len
 have hn0:=hf.n0
 refine FSpec.of_deferK 5 tok Tryz.func34 rfl Tryz.call34 (by simp) def_expand (zd1:=[.nilS]) (zd2:=[.i .i64 3]) rfl rfl (by simp[Value.oneCell']) (by simp[Value.oneCell']) rfl ?_
 by_cases hz:n=0
 . rw[expO_zero hz]
   subst hz
   (try (conv=>whnf));repeat' (first|refine Ok.seq ?_|refine OkL.cons ?_|((first|refine Ok.region tok ?_|refine Ok.cond ?_|refine Ok.ret ?_);conv=>whnf)|(refine bI ?_ ?_<;>intro<;>(conv=>whnf)<;>(try (exfalso;omega)))|fail)
   . refine Or.inl ?_;(conv=>whnf)
     exact⟨rfl,[],rfl⟩
   all_goals (exfalso;rename_i h;exact h rfl)
 by_cases harg:limit<0\/2048<limit
 . rw[expO_arg hz harg]
   (try (conv=>whnf));repeat' (first|refine Ok.seq ?_|refine OkL.cons ?_|((first|refine Ok.region tok ?_|refine Ok.cond ?_|refine Ok.skip ?_|refine Ok.ret ?_);conv=>whnf)|(refine bI ?_ ?_<;>intro<;>(conv=>whnf)<;>(try (exfalso;omega)))|fail)
   all_goals first
    | (exfalso;omega)
    | (refine Or.inl ?_;(conv=>whnf)
       exact⟨rfl,[],rfl⟩)
 (try (conv=>whnf));repeat' (first|refine OkL.cons ?_|((first|refine Ok.region tok ?_|refine Ok.cond ?_|refine Ok.skip ?_);conv=>whnf)|(refine bI ?_ ?_<;>intro<;>(conv=>whnf)<;>(try (exfalso;omega)))|fail)
 all_goals first
  | (exfalso;omega)
  | skip
 refine OkL.nil ?_
 (conv=>whnf)
 refine⟨1,2,rfl,rfl,by decide,by decide,by decide,rfl,?_⟩
 (try (conv=>whnf));repeat' (first|refine OkL.cons ?_|(refine Ok.region tok ?_;conv=>whnf)|refine Ok.block ?_|fail)
 refine Ok.ghostB 1 0 46 rfl rfl ?_
 (conv=>whnf)
 refine Ok.loopU [1,4,5,22,23,57,58] [24] 1 3 (fun (x:Nat × List Str)=>[.i .i64 (x.1:Nat)]) (fun (x:Nat × List Str) (_:List (List D))=>[[.i .i64 n,.lst 112 (ks.map trow) rm],[.own 0 x.2.length],[.i .i64 0]]) (fun (x:Nat × List Str) (_:Vx.Rows)=>[some (46,x.2.map crow)]) (fun (x:Nat × List Str)=>x.1<=ts.length/\expX limit ts []=expX limit (ts.drop x.1) x.2/\AllW n.toNat x.2/\(x.2.length:Int)<=limit) (fun (x:Nat × List Str)=>ts.length - x.1) ((0,[])) (⟨Nat.zero_le _,by simp,fun c hc=>by simp at hc,by simp;omega⟩) ?_;(conv=>whnf);refine⟨by ((conv=>whnf);first|rfl|(simp[envCat,List.take_of_length_le,crow,trow,srow,drow];done)|(simp[envCat,List.take_of_length_le,crow,trow,srow,drow];rw[IntKind.wrap_i64];omega)),?_⟩
 rintro⟨i,out⟩ ⟨hi,hex,hal,hle⟩
 dsimp only at hi hex hal hle ⊢
 have hom:(out.map crow).length=out.length:=by simp
 (conv=>whnf)
 by_cases hil:i<ts.length
 . obtain⟨a,ha⟩:∃ a,ks[i]? = some a:=⟨_,List.getElem?_eq_getElem (by omega)⟩
   have haI:ks[((i:Nat):Int).toNat]? = some a:=ha
   have hat:=tr_get h1 ha
   have hag:=hf.good _ (List.mem_of_getElem? hat)
   have hlb:=hf.less (List.mem_of_getElem? hat)
   have hlb2:(a.t.less.map crow).length=a.t.less.length:=by simp
   rw[drop_get hat] at hex
   rw[expX_cons] at hex
   have hone:=one_at a.t.p
   by_cases hlim:limit - (out.length:Int)<1
   . rw[show termX (limit - (out.length:Int)) a.t=none by unfold termX;rw[if_pos hlim]] at hex
     rw[expO_none hz harg hex]
     (try (conv=>whnf));repeat' (first|refine Ok.seq ?_|((first|refine Ok.region tok ?_|refine Ok.cond ?_);conv=>whnf)|refine Ok.block ?_|((first|refine Ok.skip ?_|refine ix _ (by assumption) ?_);conv=>whnf)|(refine bI ?_ ?_<;>intro<;>(conv=>whnf)<;>(try (exfalso;omega)))|fail)
     refine Ok.region_planpanS tok follows [(1,2,[])] [.q 0,.q 1,.q 3,.q 4,.q 5,.q 6,.l 2] 7 (by kernel_rfl) ?_;(conv=>whnf)
     (try (conv=>whnf));repeat' (first|(refine nI ?_;conv=>whnf)|(refine Or.inr (Or.inl ?_);(conv=>whnf);(repeat (refine aI ?_;conv=>whnf));refine⟨_,hone,?_⟩;rintro _ _ ⟨rfl,rfl⟩<;>(conv=>whnf))|fail)
     refine⟨_,collect_pan (one_seq a.t.p) (limit - (out.length:Int)) (by omega) (by simp;omega) (by simp),?_⟩
     (conv=>whnf)
     refine⟨rfl,1,2,_,_,rfl,rfl,rfl,rfl,rfl,rfl,by decide,rfl,?_⟩
     (conv=>whnf)
     refine Or.inl ?_;(conv=>whnf)
     exact⟨rfl,_,rfl⟩
   rw[show termX (limit - (out.length:Int)) a.t=splX (limit - (out.length:Int)) a.t.less [a.t.p] by unfold termX;rw[if_neg hlim]] at hex
   (try (conv=>whnf));repeat' (first|refine Ok.seq ?_|((first|refine Ok.region tok ?_|refine Ok.region_plan (id:=9) tok follows [(1,2,[]),(1,7,[2]),(4,7,[6,5]),(2,7,[])] [.q 0,.q 1,.q 3,.q 4,.q 5,.q 6,.l 2,.l 7,.q 8] (by kernel_rfl) ?_|refine Ok.cond ?_);conv=>whnf)|refine Ok.block ?_|((first|refine Ok.skip ?_|refine nI ?_|refine ix _ (by assumption) ?_);conv=>whnf)|(refine Or.inr (Or.inl ?_);(conv=>whnf);(repeat (refine aI ?_;conv=>whnf));refine⟨_,hone,?_⟩;rintro _ _ ⟨rfl,rfl⟩<;>(conv=>whnf))|(refine Or.inr (Or.inl ?_);(conv=>whnf);(repeat (refine aI ?_;conv=>whnf));refine⟨_,collect_at (one_seq a.t.p) (limit - (out.length:Int)) (by simp;omega) (by simp) , ?_⟩;rintro _ _ ⟨rm5,rfl,rfl⟩<;>(conv=>whnf))|(refine bI ?_ ?_<;>intro<;>(conv=>whnf)<;>(try (exfalso;omega)))|fail)
   refine Ok.loopU [1,4,5,22,23,24,37,38,57,58] [8,39] 1 4 (fun (x:Nat × List Str × List (List D))=>[.lst 46 (x.2.1.map crow) x.2.2,.i .i64 (x.1:Nat)]) (fun (x:Nat × List Str × List (List D)) (_:List (List D))=>[[.i .i64 n,.lst 112 (ks.map trow) rm],[.own 0 out.length],[.i .i64 0],trow a]) (fun (x:Nat × List Str × List (List D)) (_:Vx.Rows)=>[some (46,out.map crow)]) (fun (x:Nat × List Str × List (List D))=>x.1<=a.t.less.length/\splX (limit - (out.length:Int)) a.t.less [a.t.p]=splX (limit - (out.length:Int)) (a.t.less.drop x.1) x.2.1/\AllW n.toNat x.2.1/\(x.2.1.length:Int)<=limit - (out.length:Int)) (fun (x:Nat × List Str × List (List D))=>a.t.less.length - x.1) ((0,[a.t.p],rm5)) (⟨Nat.zero_le _,rfl,fun c hc=>by simp at hc;subst hc;exact⟨hag.p,hag.ok.p⟩,by simp;omega⟩) ?_;(conv=>whnf);refine⟨by ((conv=>whnf);first|rfl|(simp[envCat,List.take_of_length_le,crow,trow,srow,drow];done)|(simp[envCat,List.take_of_length_le,crow,trow,srow,drow];rw[IntKind.wrap_i64];omega)),?_⟩
   rintro⟨j,l,rml⟩ ⟨hj,hsx,hla,hll⟩
   dsimp only at hj hsx hla hll ⊢
   have hlm:(l.map crow).length=l.length:=by simp
   (conv=>whnf)
   by_cases hjl:j<a.t.less.length
   . obtain⟨m,hm⟩:∃ m,a.t.less[j]? = some m:=⟨_,List.getElem?_eq_getElem hjl⟩
     have hmI:a.t.less[((j:Nat):Int).toNat]? = some m:=hm
     have hmc:=(hag.less m (List.mem_of_getElem? hm)).1
     have hsa:=splL_all hla hmc
     have hsl:=splL_len (m:=m) hla
     have hseq:=splits_seq l rml m (fun c hc=>(hla c hc).1) hmc (by omega)
     have hsp:=splits_at l rml m
     rw[drop_get hm,splX_cons] at hsx
     by_cases hov:limit - (out.length:Int)<((splL m l).length:Int)
     . rw[if_pos hov] at hsx
       rw[hsx] at hex
       rw[expO_none hz harg hex]
       (try (conv=>whnf));repeat' (first|refine Ok.seq ?_|((first|refine Ok.region tok ?_|refine Ok.cond ?_);conv=>whnf)|refine Ok.block ?_|((first|refine Ok.skip ?_|refine ix _ (by assumption) ?_);conv=>whnf)|(refine bI ?_ ?_<;>intro<;>(conv=>whnf)<;>(try (exfalso;omega)))|fail)
       refine Ok.region_planpanS tok follows [(1,2,[])] [.q 0,.q 1,.q 3,.q 4,.q 5,.q 6,.l 2] 7 (by kernel_rfl) ?_;(conv=>whnf)
       (try (conv=>whnf));repeat' (first|(refine nI ?_;conv=>whnf)|(refine Or.inr (Or.inl ?_);(conv=>whnf);(repeat (refine aI ?_;conv=>whnf));refine⟨_,hsp,?_⟩;rintro _ _ ⟨rfl,rfl⟩<;>(conv=>whnf))|fail)
       refine⟨_,collect_pan hseq (limit - (out.length:Int)) (by omega) hov (by omega),?_⟩
       (conv=>whnf)
       refine⟨rfl,1,2,_,_,rfl,rfl,rfl,rfl,rfl,rfl,by decide,rfl,?_⟩
       (conv=>whnf)
       refine Or.inl ?_;(conv=>whnf)
       exact⟨rfl,_,rfl⟩
     . rw[if_neg hov] at hsx
       (try (conv=>whnf));repeat' (first|refine Ok.seq ?_|((first|refine Ok.region tok ?_|refine Ok.region_plan (id:=13) tok follows [(1,2,[]),(1,7,[2]),(4,7,[6,5]),(2,7,[])] [.q 0,.q 1,.q 3,.q 4,.q 5,.q 6,.l 2,.l 7,.q 8] (by kernel_rfl) ?_|refine Ok.cond ?_);conv=>whnf)|refine Ok.block ?_|((first|refine Ok.skip ?_|refine nI ?_|refine ix _ (by assumption) ?_);conv=>whnf)|(refine Or.inr (Or.inl ?_);(conv=>whnf);(repeat (refine aI ?_;conv=>whnf));refine⟨_,hsp,?_⟩;rintro _ _ ⟨rfl,rfl⟩<;>(conv=>whnf))|(refine Or.inr (Or.inl ?_);(conv=>whnf);(repeat (refine aI ?_;conv=>whnf));refine⟨_,collect_at hseq (limit - (out.length:Int)) (by omega) (by omega) , ?_⟩;rintro _ _ ⟨rm6,rfl,rfl⟩<;>(conv=>whnf))|(refine bI ?_ ?_<;>intro<;>(conv=>whnf)<;>(try (exfalso;omega)))|fail)
       refine⟨(j+1,splL m l,rm6),by dsimp only;omega,⟨by dsimp only;omega,hsx,hsa,by dsimp only;omega⟩,?_⟩
       (conv=>whnf)
       rfl
   . have hje:j=a.t.less.length:=by omega
     subst hje
     rw[List.drop_length] at hsx
     have hsx:splX (limit - (out.length:Int)) a.t.less [a.t.p]=some l:=hsx
     rw[hsx] at hex
     have hap:(out.map crow++l.map crow).length=out.length+l.length:=by simp
     (try (conv=>whnf));repeat' (first|refine Ok.seq ?_|((first|refine Ok.region tok ?_|refine Ok.cond ?_|refine Ok.exit ?_|refine nI ?_|refine Alt2.l (aI ?_)|refine⟨_,_,rfl,rfl,?_⟩);conv=>whnf)|(refine bI ?_ ?_<;>intro<;>(conv=>whnf)<;>(try (exfalso;omega)))|(refine aJ ?_;conv=>whnf)|fail)
     refine⟨(i+1,out++l),by dsimp only;omega,⟨by dsimp only;omega,hex,fun c hc=>(List.mem_append.1 hc).elim (hal c) (hla c),by dsimp only;rw[List.length_append];omega⟩,?_⟩
     (conv=>whnf)
     simp[envCat]
 . have hie:i=ts.length:=by omega
   subst hie
   rw[List.drop_length] at hex
   have hex:expX limit ts []=some out:=hex
   rw[expO_some hz harg hex]
   (try (conv=>whnf));repeat' (first|refine Ok.seq ?_|refine OkL.cons ?_|((first|refine Ok.region tok ?_|refine Ok.cond ?_|refine Ok.exit ?_|refine Ok.ret ?_);conv=>whnf)|(refine bI ?_ ?_<;>intro<;>(conv=>whnf)<;>(try (exfalso;omega)))|fail)
   refine Or.inl ?_;(conv=>whnf)
   refine⟨rfl,[],?_⟩
   rw[List.take_of_length_le (by simp),List.drop_of_length_le (by simp)]
   rfl
end Go.Proofs.YtaiondckookpiaaGreatDoor
namespace Go.Proofs.YtaiondckookpiaaGreatDoor
open Go Go.Vx
def EOutO(o:Int × List Str)(d:D)(rows:Vx.Rows):Prop:=d = .tup [.own 0 o.2.length,.i .i64 o.1]/\rows=[some (46,o.2.map crow)]
set_option maxRecDepth 100000 in
set_option maxHeartbeats 8000000 in
theorem expandO_at{n:Int}{ts:List Term}(hf:Fine n ts)(ks:List TR)(rm:List (List D))(h1:ks.map TR.t=ts)(limit:Int) :
    FSpec Tryz.prog T 34 [.agg [.i .i64 n,.lst 112 (ks.map trow) rm],.i .i64 limit] (EOutO (expO n ts limit)):=by
 have hl1:ks.length=ts.length:=by rw[<- h1,List.length_map]
 have hm1:(ks.map trow).length=ts.length:=by simp[hl1]
 have hk1:=hf.len
 have hn0:=hf.n0
 refine FSpec.of_deferK 5 tok Tryz.func34 rfl Tryz.call34 (by simp) def_expand (zd1:=[.nilS]) (zd2:=[.i .i64 3]) rfl rfl (by simp[Value.oneCell']) (by simp[Value.oneCell']) rfl ?_
 by_cases hz:n=0
 . rw[expO_zero hz]
   subst hz
   (try (conv=>whnf));repeat' (first|refine Ok.seq ?_|refine OkL.cons ?_|((first|refine Ok.region tok ?_|refine Ok.cond ?_|refine Ok.ret ?_);conv=>whnf)|(refine bI ?_ ?_<;>intro<;>(conv=>whnf)<;>(try (exfalso;omega)))|fail)
   . refine Or.inr (Or.inr ?_);(conv=>whnf)
     exact⟨rfl,rfl⟩
   all_goals (exfalso;rename_i h;exact h rfl)
 by_cases harg:limit<0\/2048<limit
 . rw[expO_arg hz harg]
   (try (conv=>whnf));repeat' (first|refine Ok.seq ?_|refine OkL.cons ?_|((first|refine Ok.region tok ?_|refine Ok.cond ?_|refine Ok.skip ?_|refine Ok.ret ?_);conv=>whnf)|(refine bI ?_ ?_<;>intro<;>(conv=>whnf)<;>(try (exfalso;omega)))|fail)
   all_goals first
    | (exfalso;omega)
    | (refine Or.inr (Or.inr ?_);(conv=>whnf)
       exact⟨rfl,rfl⟩)
 (try (conv=>whnf));repeat' (first|refine OkL.cons ?_|((first|refine Ok.region tok ?_|refine Ok.cond ?_|refine Ok.skip ?_);conv=>whnf)|(refine bI ?_ ?_<;>intro<;>(conv=>whnf)<;>(try (exfalso;omega)))|fail)
 all_goals first
  | (exfalso;omega)
  | skip
 refine OkL.nil ?_
 (conv=>whnf)
 refine⟨1,2,rfl,rfl,by decide,by decide,by decide,rfl,?_⟩
 (try (conv=>whnf));repeat' (first|refine OkL.cons ?_|(refine Ok.region tok ?_;conv=>whnf)|refine Ok.block ?_|fail)
 refine Ok.ghostB 1 0 46 rfl rfl ?_
 (conv=>whnf)
 refine Ok.loopU [1,4,5,22,23,57,58] [24] 1 3 (fun (x:Nat × List Str)=>[.i .i64 (x.1:Nat)]) (fun (x:Nat × List Str) (_:List (List D))=>[[.i .i64 n,.lst 112 (ks.map trow) rm],[.own 0 x.2.length],[.i .i64 0]]) (fun (x:Nat × List Str) (_:Vx.Rows)=>[some (46,x.2.map crow)]) (fun (x:Nat × List Str)=>x.1<=ts.length/\expX limit ts []=expX limit (ts.drop x.1) x.2/\AllW n.toNat x.2/\(x.2.length:Int)<=limit) (fun (x:Nat × List Str)=>ts.length - x.1) ((0,[])) (⟨Nat.zero_le _,by simp,fun c hc=>by simp at hc,by simp;omega⟩) ?_;(conv=>whnf);refine⟨by ((conv=>whnf);first|rfl|(simp[envCat,List.take_of_length_le,crow,trow,srow,drow];done)|(simp[envCat,List.take_of_length_le,crow,trow,srow,drow];rw[IntKind.wrap_i64];omega)),?_⟩
 rintro⟨i,out⟩ ⟨hi,hex,hal,hle⟩
 dsimp only at hi hex hal hle ⊢
 have hom:(out.map crow).length=out.length:=by simp
 (conv=>whnf)
 by_cases hil:i<ts.length
 . obtain⟨a,ha⟩:∃ a,ks[i]? = some a:=⟨_,List.getElem?_eq_getElem (by omega)⟩
   have haI:ks[((i:Nat):Int).toNat]? = some a:=ha
   have hat:=tr_get h1 ha
   have hag:=hf.good _ (List.mem_of_getElem? hat)
   have hlb:=hf.less (List.mem_of_getElem? hat)
   have hlb2:(a.t.less.map crow).length=a.t.less.length:=by simp
   rw[drop_get hat] at hex
   rw[expX_cons] at hex
   have hone:=one_at a.t.p
   by_cases hlim:limit - (out.length:Int)<1
   . rw[show termX (limit - (out.length:Int)) a.t=none by unfold termX;rw[if_pos hlim]] at hex
     rw[expO_none hz harg hex]
     (try (conv=>whnf));repeat' (first|refine Ok.seq ?_|((first|refine Ok.region tok ?_|refine Ok.cond ?_);conv=>whnf)|refine Ok.block ?_|((first|refine Ok.skip ?_|refine ix _ (by assumption) ?_);conv=>whnf)|(refine bI ?_ ?_<;>intro<;>(conv=>whnf)<;>(try (exfalso;omega)))|fail)
     refine Ok.region_planpanS tok follows [(1,2,[])] [.q 0,.q 1,.q 3,.q 4,.q 5,.q 6,.l 2] 7 (by kernel_rfl) ?_;(conv=>whnf)
     (try (conv=>whnf));repeat' (first|(refine nI ?_;conv=>whnf)|(refine Or.inr (Or.inl ?_);(conv=>whnf);(repeat (refine aI ?_;conv=>whnf));refine⟨_,hone,?_⟩;rintro _ _ ⟨rfl,rfl⟩<;>(conv=>whnf))|fail)
     refine⟨_,collect_pan (one_seq a.t.p) (limit - (out.length:Int)) (by omega) (by simp;omega) (by simp),?_⟩
     (conv=>whnf)
     refine⟨rfl,1,2,_,_,rfl,rfl,rfl,rfl,rfl,rfl,by decide,rfl,?_⟩
     (conv=>whnf)
     refine Or.inr (Or.inr ?_);(conv=>whnf)
     exact⟨rfl,rfl⟩
   rw[show termX (limit - (out.length:Int)) a.t=splX (limit - (out.length:Int)) a.t.less [a.t.p] by unfold termX;rw[if_neg hlim]] at hex
   (try (conv=>whnf));repeat' (first|refine Ok.seq ?_|((first|refine Ok.region tok ?_|refine Ok.region_plan (id:=9) tok follows [(1,2,[]),(1,7,[2]),(4,7,[6,5]),(2,7,[])] [.q 0,.q 1,.q 3,.q 4,.q 5,.q 6,.l 2,.l 7,.q 8] (by kernel_rfl) ?_|refine Ok.cond ?_);conv=>whnf)|refine Ok.block ?_|((first|refine Ok.skip ?_|refine nI ?_|refine ix _ (by assumption) ?_);conv=>whnf)|(refine Or.inr (Or.inl ?_);(conv=>whnf);(repeat (refine aI ?_;conv=>whnf));refine⟨_,hone,?_⟩;rintro _ _ ⟨rfl,rfl⟩<;>(conv=>whnf))|(refine Or.inr (Or.inl ?_);(conv=>whnf);(repeat (refine aI ?_;conv=>whnf));refine⟨_,collect_at (one_seq a.t.p) (limit - (out.length:Int)) (by simp;omega) (by simp) , ?_⟩;rintro _ _ ⟨rm5,rfl,rfl⟩<;>(conv=>whnf))|(refine bI ?_ ?_<;>intro<;>(conv=>whnf)<;>(try (exfalso;omega)))|fail)
   refine Ok.loopU [1,4,5,22,23,24,37,38,57,58] [8,39] 1 4 (fun (x:Nat × List Str × List (List D))=>[.lst 46 (x.2.1.map crow) x.2.2,.i .i64 (x.1:Nat)]) (fun (x:Nat × List Str × List (List D)) (_:List (List D))=>[[.i .i64 n,.lst 112 (ks.map trow) rm],[.own 0 out.length],[.i .i64 0],trow a]) (fun (x:Nat × List Str × List (List D)) (_:Vx.Rows)=>[some (46,out.map crow)]) (fun (x:Nat × List Str × List (List D))=>x.1<=a.t.less.length/\splX (limit - (out.length:Int)) a.t.less [a.t.p]=splX (limit - (out.length:Int)) (a.t.less.drop x.1) x.2.1/\AllW n.toNat x.2.1/\(x.2.1.length:Int)<=limit - (out.length:Int)) (fun (x:Nat × List Str × List (List D))=>a.t.less.length - x.1) ((0,[a.t.p],rm5)) (⟨Nat.zero_le _,rfl,fun c hc=>by simp at hc;subst hc;exact⟨hag.p,hag.ok.p⟩,by simp;omega⟩) ?_;(conv=>whnf);refine⟨by ((conv=>whnf);first|rfl|(simp[envCat,List.take_of_length_le,crow,trow,srow,drow];done)|(simp[envCat,List.take_of_length_le,crow,trow,srow,drow];rw[IntKind.wrap_i64];omega)),?_⟩
   rintro⟨j,l,rml⟩ ⟨hj,hsx,hla,hll⟩
   dsimp only at hj hsx hla hll ⊢
   have hlm:(l.map crow).length=l.length:=by simp
   (conv=>whnf)
   by_cases hjl:j<a.t.less.length
   . obtain⟨m,hm⟩:∃ m,a.t.less[j]? = some m:=⟨_,List.getElem?_eq_getElem hjl⟩
     have hmI:a.t.less[((j:Nat):Int).toNat]? = some m:=hm
     have hmc:=(hag.less m (List.mem_of_getElem? hm)).1
     have hsa:=splL_all hla hmc
     have hsl:=splL_len (m:=m) hla
     have hseq:=splits_seq l rml m (fun c hc=>(hla c hc).1) hmc (by omega)
     have hsp:=splits_at l rml m
     rw[drop_get hm,splX_cons] at hsx
     by_cases hov:limit - (out.length:Int)<((splL m l).length:Int)
     . rw[if_pos hov] at hsx
       rw[hsx] at hex
       rw[expO_none hz harg hex]
       (try (conv=>whnf));repeat' (first|refine Ok.seq ?_|((first|refine Ok.region tok ?_|refine Ok.cond ?_);conv=>whnf)|refine Ok.block ?_|((first|refine Ok.skip ?_|refine ix _ (by assumption) ?_);conv=>whnf)|(refine bI ?_ ?_<;>intro<;>(conv=>whnf)<;>(try (exfalso;omega)))|fail)
       refine Ok.region_planpanS tok follows [(1,2,[])] [.q 0,.q 1,.q 3,.q 4,.q 5,.q 6,.l 2] 7 (by kernel_rfl) ?_;(conv=>whnf)
       (try (conv=>whnf));repeat' (first|(refine nI ?_;conv=>whnf)|(refine Or.inr (Or.inl ?_);(conv=>whnf);(repeat (refine aI ?_;conv=>whnf));refine⟨_,hsp,?_⟩;rintro _ _ ⟨rfl,rfl⟩<;>(conv=>whnf))|fail)
       refine⟨_,collect_pan hseq (limit - (out.length:Int)) (by omega) hov (by omega),?_⟩
       (conv=>whnf)
       refine⟨rfl,1,2,_,_,rfl,rfl,rfl,rfl,rfl,rfl,by decide,rfl,?_⟩
       (conv=>whnf)
       refine Or.inr (Or.inr ?_);(conv=>whnf)
       exact⟨rfl,rfl⟩
     . rw[if_neg hov] at hsx
       (try (conv=>whnf));repeat' (first|refine Ok.seq ?_|((first|refine Ok.region tok ?_|refine Ok.region_plan (id:=13) tok follows [(1,2,[]),(1,7,[2]),(4,7,[6,5]),(2,7,[])] [.q 0,.q 1,.q 3,.q 4,.q 5,.q 6,.l 2,.l 7,.q 8] (by kernel_rfl) ?_|refine Ok.cond ?_);conv=>whnf)|refine Ok.block ?_|((first|refine Ok.skip ?_|refine nI ?_|refine ix _ (by assumption) ?_);conv=>whnf)|(refine Or.inr (Or.inl ?_);(conv=>whnf);(repeat (refine aI ?_;conv=>whnf));refine⟨_,hsp,?_⟩;rintro _ _ ⟨rfl,rfl⟩<;>(conv=>whnf))|(refine Or.inr (Or.inl ?_);(conv=>whnf);(repeat (refine aI ?_;conv=>whnf));refine⟨_,collect_at hseq (limit - (out.length:Int)) (by omega) (by omega) , ?_⟩;rintro _ _ ⟨rm6,rfl,rfl⟩<;>(conv=>whnf))|(refine bI ?_ ?_<;>intro<;>(conv=>whnf)<;>(try (exfalso;omega)))|fail)
       refine⟨(j+1,splL m l,rm6),by dsimp only;omega,⟨by dsimp only;omega,hsx,hsa,by dsimp only;omega⟩,?_⟩
       (conv=>whnf)
       rfl
   . have hje:j=a.t.less.length:=by omega
     subst hje
     rw[List.drop_length] at hsx
     have hsx:splX (limit - (out.length:Int)) a.t.less [a.t.p]=some l:=hsx
     rw[hsx] at hex
     have hap:(out.map crow++l.map crow).length=out.length+l.length:=by simp
     (try (conv=>whnf));repeat' (first|refine Ok.seq ?_|((first|refine Ok.region tok ?_|refine Ok.cond ?_|refine Ok.exit ?_|refine nI ?_|refine Alt2.l (aI ?_)|refine⟨_,_,rfl,rfl,?_⟩);conv=>whnf)|(refine bI ?_ ?_<;>intro<;>(conv=>whnf)<;>(try (exfalso;omega)))|(refine aJ ?_;conv=>whnf)|fail)
     refine⟨(i+1,out++l),by dsimp only;omega,⟨by dsimp only;omega,hex,fun c hc=>(List.mem_append.1 hc).elim (hal c) (hla c),by dsimp only;rw[List.length_append];omega⟩,?_⟩
     (conv=>whnf)
     simp[envCat]
 . have hie:i=ts.length:=by omega
   subst hie
   rw[List.drop_length] at hex
   have hex:expX limit ts []=some out:=hex
   rw[expO_some hz harg hex]
   (try (conv=>whnf));repeat' (first|refine Ok.seq ?_|refine OkL.cons ?_|((first|refine Ok.region tok ?_|refine Ok.cond ?_|refine Ok.exit ?_|refine Ok.ret ?_);conv=>whnf)|(refine bI ?_ ?_<;>intro<;>(conv=>whnf)<;>(try (exfalso;omega)))|fail)
   refine Or.inr (Or.inl ?_);(conv=>whnf)
   exact⟨rfl,rfl⟩
end Go.Proofs.YtaiondckookpiaaGreatDoor
namespace Go.Proofs.YtaiondckookpiaaGreatDoor
open Go Go.Vx
def ROut(o:Int × List Str)(d:D)(rows:Vx.Rows):Prop:=rows=[]/\∃ rm,d = .tup [.lst 9 (o.2.map srow) rm,.i .i64 o.1]
set_option maxRecDepth 100000 in
set_option maxHeartbeats 8000000 in
theorem rexpand_at{n:Int}{ts:List Term}(hf:Fine n ts)(ks:List TR)(rm:List (List D))(h1:ks.map TR.t=ts)(limit:Int) :
    FSpec Tryz.prog T 32 [.agg [.i .i64 n,.lst 120 (ks.map drow) rm],.i .i64 limit] (ROut (expO n ts limit)):=by
 have hl1:ks.length=ts.length:=by rw[<- h1,List.length_map]
 have hm1:(ks.map drow).length=ts.length:=by simp[hl1]
 have hk1:=hf.len
 have hn0:=hf.n0
 refine FSpec.of_ok tok Tryz.func32 rfl Tryz.call32 (by simp) ?_
 by_cases hz:n=0
 . rw[expO_zero hz]
   subst hz
   (try (conv=>whnf));repeat' (first|refine Ok.seq ?_|((first|refine Ok.region tok ?_|refine Ok.cond ?_|refine Ok.ret ?_);conv=>whnf)|(refine bI ?_ ?_<;>intro<;>(conv=>whnf)<;>(try (exfalso;omega)))|fail)
   . refine Or.inl ?_;(conv=>whnf)
     exact⟨rfl,[],rfl⟩
   all_goals (exfalso;rename_i h;exact h rfl)
 by_cases harg:limit<0\/2048<limit
 . rw[expO_arg hz harg]
   (try (conv=>whnf));repeat' (first|refine Ok.seq ?_|((first|refine Ok.region tok ?_|refine Ok.cond ?_|refine Ok.skip ?_|refine Ok.ret ?_);conv=>whnf)|(refine bI ?_ ?_<;>intro<;>(conv=>whnf)<;>(try (exfalso;omega)))|fail)
   all_goals first
    | (exfalso;omega)
    | (refine Or.inl ?_;(conv=>whnf)
       exact⟨rfl,[],rfl⟩)
 (try (conv=>whnf));repeat' (first|refine Ok.seq ?_|((first|refine Ok.region tok ?_|refine Ok.cond ?_);conv=>whnf)|refine Ok.block ?_|(refine Ok.skip ?_;conv=>whnf)|(refine bI ?_ ?_<;>intro<;>(conv=>whnf)<;>(try (exfalso;omega)))|fail)
 all_goals first
  | (exfalso;omega)
  | skip
 refine Ok.ghost 6 9 rfl ?_
 (conv=>whnf)
 refine Ok.loopU [1,2] [6,7] 1 1 (fun (x:Nat × List Str)=>[.own 0 x.2.length,.i .i64 (x.1:Nat)]) (fun _ b=>b) (fun (x:Nat × List Str) (_:Vx.Rows)=>[some (9,x.2.map srow)]) (fun (x:Nat × List Str)=>x.1<=ts.length/\expX limit ts []=expX limit (ts.drop x.1) x.2/\AllW n.toNat x.2/\(x.2.length:Int)<=limit) (fun (x:Nat × List Str)=>ts.length - x.1) ((0,[])) (⟨Nat.zero_le _,by simp,fun c hc=>by simp at hc,by simp;omega⟩) ?_;(conv=>whnf);refine⟨by ((conv=>whnf);first|rfl|(simp[envCat,List.take_of_length_le,crow,trow,srow,drow];done)|(simp[envCat,List.take_of_length_le,crow,trow,srow,drow];rw[IntKind.wrap_i64];omega)),?_⟩
 rintro⟨i,out⟩ ⟨hi,hex,hal,hle⟩
 dsimp only at hi hex hal hle ⊢
 have hom:(out.map srow).length=out.length:=by simp
 (conv=>whnf)
 by_cases hil:i<ts.length
 . obtain⟨a,ha⟩:∃ a,ks[i]? = some a:=⟨_,List.getElem?_eq_getElem (by omega)⟩
   have haI:ks[((i:Nat):Int).toNat]? = some a:=ha
   have hat:=tr_get h1 ha
   have hag:=hf.good _ (List.mem_of_getElem? hat)
   have hlb:=hf.less (List.mem_of_getElem? hat)
   have hlb2:(a.t.less.map srow).length=a.t.less.length:=by simp
   rw[drop_get hat,expX_cons] at hex
   by_cases hlim:limit - (out.length:Int)<1
   . rw[show termX (limit - (out.length:Int)) a.t=none by unfold termX;rw[if_pos hlim]] at hex
     rw[expO_none hz harg hex]
     (try (conv=>whnf));repeat' (first|refine Ok.seq ?_|((first|refine Ok.region tok ?_|refine Ok.cond ?_);conv=>whnf)|refine Ok.block ?_|((first|refine Ok.skip ?_|refine Ok.ret ?_|refine nI ?_|refine ix _ (by assumption) ?_);conv=>whnf)|(refine bI ?_ ?_<;>intro<;>(conv=>whnf)<;>(try (exfalso;omega)))|fail)
     all_goals first
      | (exfalso;omega)
      | (refine Or.inl ?_;(conv=>whnf)
         exact⟨rfl,[],rfl⟩)
   rw[show termX (limit - (out.length:Int)) a.t=splX (limit - (out.length:Int)) a.t.less [a.t.p] by unfold termX;rw[if_neg hlim]] at hex
   (try (conv=>whnf));repeat' (first|refine Ok.seq ?_|((first|refine Ok.region tok ?_|refine Ok.cond ?_);conv=>whnf)|refine Ok.block ?_|((first|refine Ok.skip ?_|refine nI ?_|refine ix _ (by assumption) ?_);conv=>whnf)|(refine bI ?_ ?_<;>intro<;>(conv=>whnf)<;>(try (exfalso;omega)))|fail)
   refine Ok.pub 1 ?_
   (conv=>whnf)
   refine Ok.loopU [1,2,6,7] [8,9] 1 1 (fun (x:Nat × List Str × List (List D))=>[.lst 9 (x.2.1.map srow) x.2.2,.i .i64 (x.1:Nat)]) (fun _ b=>b) (fun (x:Nat × List Str × List (List D)) (_:Vx.Rows)=>[some (9,out.map srow)]) (fun (x:Nat × List Str × List (List D))=>x.1<=a.t.less.length/\splX (limit - (out.length:Int)) a.t.less [a.t.p]=splX (limit - (out.length:Int)) (a.t.less.drop x.1) x.2.1/\AllW n.toNat x.2.1/\(x.2.1.length:Int)<=limit - (out.length:Int)) (fun (x:Nat × List Str × List (List D))=>a.t.less.length - x.1) ((0,[a.t.p],[])) (⟨Nat.zero_le _,rfl,fun c hc=>by simp at hc;subst hc;exact⟨hag.p,hag.ok.p⟩,by simp;omega⟩) ?_;(conv=>whnf);refine⟨by ((conv=>whnf);first|rfl|(simp[envCat,List.take_of_length_le,crow,trow,srow,drow];done)|(simp[envCat,List.take_of_length_le,crow,trow,srow,drow];rw[IntKind.wrap_i64];omega)),?_⟩
   rintro⟨j,l,rml⟩ ⟨hj,hsx,hla,hll⟩
   dsimp only at hj hsx hla hll ⊢
   have hlm:(l.map srow).length=l.length:=by simp
   (conv=>whnf)
   by_cases hjl:j<a.t.less.length
   . obtain⟨m,hm⟩:∃ m,a.t.less[j]? = some m:=⟨_,List.getElem?_eq_getElem hjl⟩
     have hmI:a.t.less[((j:Nat):Int).toNat]? = some m:=hm
     have hmc:=(hag.less m (List.mem_of_getElem? hm)).1
     have hsa:=splL_all hla hmc
     have hsl:=splL_len (m:=m) hla
     rw[drop_get hm,splX_cons] at hsx
     (try (conv=>whnf));repeat' (first|refine Ok.seq ?_|((first|refine Ok.region tok ?_|refine Ok.cond ?_);conv=>whnf)|refine Ok.block ?_|((first|refine Ok.skip ?_|refine ix _ (by assumption) ?_);conv=>whnf)|(refine bI ?_ ?_<;>intro<;>(conv=>whnf)<;>(try (exfalso;omega)))|fail)
     refine Ok.ghost 10 9 rfl ?_
     (conv=>whnf)
     refine Ok.loopU [1,2,6,7,8,9] [10,11] 2 1 (fun (k:Nat)=>[.own 1 (splL m (l.take k)).length,.i .i64 (k:Nat)]) (fun _ b=>b) (fun (k:Nat) (_:Vx.Rows)=>[some (9,out.map srow),some (9,(splL m (l.take k)).map srow)]) (fun (k:Nat)=>k<=l.length) (fun (k:Nat)=>l.length - k) (0) (Nat.zero_le _) ?_;(conv=>whnf);refine⟨by ((conv=>whnf);first|rfl|(simp[envCat,List.take_of_length_le,crow,trow,srow,drow];done)|(simp[envCat,List.take_of_length_le,crow,trow,srow,drow];rw[IntKind.wrap_i64];omega)),?_⟩
     intro k hk
     have hqm:((splL m (l.take k)).map srow).length=(splL m (l.take k)).length:=by simp
     have hql:=splL_len (m:=m) (l:=l.take k) (n:=n.toNat) fun c hc=>hla c (List.mem_of_mem_take hc)
     have hqk:(l.take k).length=k:=by simp;omega
     (conv=>whnf)
     by_cases hkl:k<l.length
     . obtain⟨c,hc⟩:∃ c,l[k]? = some c:=⟨_,List.getElem?_eq_getElem hkl⟩
       have hcI:l[((k:Nat):Int).toNat]? = some c:=hc
       have hcw:=hla c (List.mem_of_getElem? hc)
       have hsn:=splL_snoc (m:=m) hc
       have hcl:=splitT_len (d:=m) hcw.1.1.len
       have hclm:((splitT c m).map srow).length=(splitT c m).length:=by simp
       have rsp:=rsplit_at c m hcw.1 hmc
       generalize splitT c m=S at *
       (try (conv=>whnf));repeat' (first|refine Ok.seq ?_|((first|refine Ok.region tok ?_|refine Ok.region_plan (id:=19) tok follows [(4,14,[]),(6,14,[13,12,10,9,8]),(10,14,[13,12]),(13,14,[]),(4,15,[14]),(6,15,[14,13,12,10,9,8]),(10,15,[14,13,12]),(13,15,[14]),(14,15,[])] [.q 0,.q 1,.q 2,.q 3,.q 4,.q 5,.q 6,.q 7,.q 8,.q 9,.q 10,.q 11,.q 12,.q 13,.l 14,.l 15,.q 16] (by kernel_rfl) ?_|refine Ok.cond ?_);conv=>whnf)|refine Ok.block ?_|((first|refine Ok.skip ?_|refine nI ?_|refine ix _ (by assumption) ?_);conv=>whnf)|(refine Or.inr (Or.inl ?_);(conv=>whnf);(repeat (refine aI ?_;conv=>whnf));refine⟨_,rsp , ?_⟩;rintro _ _ ⟨rmq,rfl,rfl⟩<;>(conv=>whnf))|((first|refine Alt2.l (aI ?_)|refine⟨_,_,rfl,rfl,?_⟩);conv=>whnf)|(refine bI ?_ ?_<;>intro<;>(conv=>whnf)<;>(try (exfalso;omega)))|(refine aJ ?_;conv=>whnf)|fail)
       refine⟨k+1,by omega,by omega,?_⟩
       rw[hsn,List.map_append]
       (conv=>whnf)
       simp[envCat]
     . have hke:k=l.length:=by omega
       subst hke
       rw[List.take_length] at *
       refine Ok.pub 1 ?_
       (conv=>whnf)
       rw[take_all,drop_all]
       by_cases hov:limit - (out.length:Int)<((splL m l).length:Int)
       . rw[if_pos hov] at hsx
         rw[hsx] at hex
         rw[expO_none hz harg hex]
         (try (conv=>whnf));repeat' (first|refine Ok.seq ?_|((first|refine Ok.region tok ?_|refine Ok.cond ?_|refine Ok.exit ?_|refine Ok.ret ?_|refine nI ?_);conv=>whnf)|(refine bI ?_ ?_<;>intro<;>(conv=>whnf)<;>(try (exfalso;omega)))|fail)
         all_goals first
          | (exfalso;omega)
          | (refine Or.inl ?_;(conv=>whnf)
             exact⟨rfl,[],rfl⟩)
       . rw[if_neg hov] at hsx
         (try (conv=>whnf));repeat' (first|refine Ok.seq ?_|((first|refine Ok.region tok ?_|refine Ok.cond ?_|refine Ok.skip ?_|refine Ok.exit ?_|refine nI ?_);conv=>whnf)|(refine bI ?_ ?_<;>intro<;>(conv=>whnf)<;>(try (exfalso;omega)))|fail)
         all_goals first
          | (exfalso;omega)
          | skip
         refine⟨(j+1,splL m l,[]),by dsimp only;omega,⟨by dsimp only;omega,hsx,hsa,by dsimp only;omega⟩,?_⟩
         (conv=>whnf)
         rfl
   . have hje:j=a.t.less.length:=by omega
     subst hje
     rw[List.drop_length] at hsx
     have hsx:splX (limit - (out.length:Int)) a.t.less [a.t.p]=some l:=hsx
     rw[hsx] at hex
     have hap:(out.map srow++l.map srow).length=out.length+l.length:=by simp
     (try (conv=>whnf));repeat' (first|refine Ok.seq ?_|((first|refine Ok.region tok ?_|refine Ok.cond ?_|refine Ok.exit ?_|refine nI ?_|refine ix _ (by assumption) ?_|refine Alt2.l (aI ?_)|refine⟨_,_,rfl,rfl,?_⟩);conv=>whnf)|(refine bI ?_ ?_<;>intro<;>(conv=>whnf)<;>(try (exfalso;omega)))|(refine aJ ?_;conv=>whnf)|fail)
     refine⟨(i+1,out++l),by dsimp only;omega,⟨by dsimp only;omega,hex,fun c hc=>(List.mem_append.1 hc).elim (hal c) (hla c),by dsimp only;rw[List.length_append];omega⟩,?_⟩
     (conv=>whnf)
     simp[envCat]
 . have hie:i=ts.length:=by omega
   subst hie
   rw[List.drop_length] at hex
   have hex:expX limit ts []=some out:=hex
   rw[expO_some hz harg hex]
   (try (conv=>whnf));repeat' (first|refine Ok.seq ?_|((first|refine Ok.region tok ?_|refine Ok.cond ?_|refine Ok.exit ?_|refine Ok.ret ?_);conv=>whnf)|(refine bI ?_ ?_<;>intro<;>(conv=>whnf)<;>(try (exfalso;omega)))|fail)
   refine Or.inl ?_;(conv=>whnf)
   refine⟨rfl,[],?_⟩
   rw[List.take_of_length_le (by simp),List.drop_of_length_le (by simp)]
   rfl
end Go.Proofs.YtaiondckookpiaaGreatDoor
namespace Go.Proofs.YtaiondckookpiaaGreatDoor
open Go Go.Vx
def wr1(a b:UInt8):UInt8:=if b=120 then a else b
def writeL(c r:Str):Str:=List.zipWith wr1 c r
theorem writeL_len{c r:Str}(h:r.length=c.length):(writeL c r).length=c.length:=by simp[writeL,h]
theorem writeL_get{c r:Str}{i:Nat}{a b:UInt8}(ha:c[i]? = some a)(hb:r[i]? = some b):(writeL c r)[i]? = some (wr1 a b):=by
 simp[writeL,List.getElem?_zipWith,ha,hb]
theorem writeL_bits{c r:Str}(h:r.length=c.length)(hr:CT r)(i:Nat):car (writeL c r) i=(car c i || car r i)/\one (writeL c r) i=((one c i && !car r i) || one r i):=by
 by_cases hi:i<c.length
 . have e1:=List.getElem?_eq_getElem hi
   have e2:=List.getElem?_eq_getElem (show i<r.length by omega)
   have e3:=writeL_get e1 e2
   rw[(at_b e1).1,(at_b e1).2,(at_b e2).1,(at_b e2).2,(at_b e3).1,(at_b e3).2]
   have:=hr.cub _ (List.getElem_mem (show i<r.length by omega))
   generalize r[i]=b at this
   rcases this with rfl|rfl|rfl<;>simp[wr1,dig]
 . have h1:=at_out (t:=c) (i:=i) (by omega)
   have h2:=at_out (t:=writeL c r) (i:=i) (by rw[writeL_len h];omega)
   have h3:=at_out (t:=r) (i:=i) (by omega)
   rw[h1.1,h1.2,h2.1,h2.2,h3.1,h3.2]
   simp
theorem wof_or2{f g h:Nat->Bool}(e:∀ i,h i=(f i || g i))(k:Nat):wof h k=wof f k ||| wof g k:=by
 refine BitVec.eq_of_getLsbD_eq fun i hi=>?_
 rw[BitVec.getLsbD_or,wof_get _ _ _ hi,wof_get _ _ _ hi,wof_get _ _ _ hi,e]
theorem wof_over{f g p h:Nat->Bool}(e:∀ i,h i=((f i && !g i) || p i))(k:Nat):wof h k=(wof f k &&& ~~~ wof g k) ||| wof p k:=by
 refine BitVec.eq_of_getLsbD_eq fun i hi=>?_
 rw[BitVec.getLsbD_or,BitVec.getLsbD_and,BitVec.getLsbD_not,wof_get _ _ _ hi,wof_get _ _ _ hi,wof_get _ _ _ hi,wof_get _ _ _ hi,e]
 simp[hi]
def wwc(w:Nat)(f g:Nat->Bool)(k:Nat):BitVec 64:=if k<w then wof f k ||| wof g k else wof f k
def wwo(w:Nat)(f g p:Nat->Bool)(k:Nat):BitVec 64:=if k<w then (wof f k &&& ~~~ wof g k) ||| wof p k else wof f k
@[reducible] def wcells(n w:Nat)(c d:Str):List D:=[.i .i64 (n:Int),.i .u64 ((wwc w (car c) (car d) 0).toNat:Int),.i .u64 ((wwc w (car c) (car d) 1).toNat:Int),.i .u64 ((wwc w (car c) (car d) 2).toNat:Int),.i .u64 ((wwc w (car c) (car d) 3).toNat:Int),.i .u64 ((wwo w (one c) (car d) (one d) 0).toNat:Int),.i .u64 ((wwo w (one c) (car d) (one d) 1).toNat:Int),.i .u64 ((wwo w (one c) (car d) (one d) 2).toNat:Int),.i .u64 ((wwo w (one c) (car d) (one d) 3).toNat:Int)]
theorem wcells_end{c d:Str}(h:d.length=c.length)(hd:CT d):wcells c.length 4 c d=crow (writeL c d):=by
 simp only[wcells,crow,cells9,wwc,wwo,wof_or2 (fun i=>(writeL_bits h hd i).1),wof_over (fun i=>(writeL_bits h hd i).2),writeL_len h]
 rfl
theorem writeL_ct{c r:Str}(hc:CT c)(hr:CT r)(h:r.length=c.length):CT (writeL c r):=by
 refine⟨by rw[writeL_len h];exact hc.len,fun b hb=>?_⟩
 obtain⟨k,hk⟩:=List.getElem?_of_mem hb
 have hkl:k<c.length:=by have:=(List.getElem?_eq_some_iff.1 hk).1;rw[writeL_len h] at this;exact this
 have e1:=List.getElem?_eq_getElem hkl
 have e2:=List.getElem?_eq_getElem (show k<r.length by omega)
 rw[writeL_get e1 e2] at hk
 cases hk
 unfold wr1
 split
 . exact hc.cub _ (List.getElem_mem hkl)
 . exact hr.cub _ (List.getElem_mem _)
theorem writeL_cn{c r:Str}(hc:CN c)(hr:CT r)(h:r.length=c.length):CN (writeL c r):=
 ⟨writeL_ct hc.1 hr h,fun e=>hc.2 (List.eq_nil_of_length_eq_zero (by rw[<- writeL_len h,e];rfl))⟩
set_option maxHeartbeats 4000000 in
theorem write_at(c d:Str)(hc:CN c)(hd:CT d)(hl:d.length=c.length):FSpec Tryz.prog T 95 [.agg (crow c),.agg (crow d)] (fun r rows=>r = .agg (crow (writeL c d))/\rows=[]):=by
 have hpos:0<c.length:=List.length_pos_iff.2 hc.2
 refine FSpec.of_ok tok Tryz.func95 rfl Tryz.call95 (by simp) ?_
 (try (conv=>whnf));repeat' (first|refine Ok.seq ?_|((first|refine Ok.region tok ?_|refine Ok.cond ?_);conv=>whnf)|refine Ok.block ?_|(refine Ok.skip ?_;conv=>whnf)|(refine Or.inl ?_;(conv=>whnf);(repeat (refine aI ?_;conv=>whnf));refine⟨_,fits_at c d,rfl,?_⟩;conv=>whnf)|(refine bI ?_ ?_<;>intro<;>(conv=>whnf)<;>(try (exfalso;omega)))|fail)
 all_goals first
  | (exfalso;omega)
  | skip
 refine Ok.loopU [2,3,4] [11] 0 3 (fun (w:Nat)=>[.i .i64 (w:Nat)]) (fun (w:Nat) (_:List (List D))=>[wcells c.length w c d,crow d,[.i .i64 0,.i .u64 0,.i .u64 0,.i .u64 0,.i .u64 0,.i .u64 0,.i .u64 0,.i .u64 0,.i .u64 0]]) (fun _ r=>r) (fun (w:Nat)=>w<=4) (fun (w:Nat)=>4 - w) (0) (by omega) ?_;(conv=>whnf);refine⟨by ((conv=>whnf);first|rfl|(simp[envCat,List.take_of_length_le,cells9,wcells,bcell,crow];done)|(simp[envCat,List.take_of_length_le,cells9,wcells,bcell,crow];rw[IntKind.wrap_i64];omega)),?_⟩
 rintro w hw
 (conv=>whnf)
 by_cases hw4:w=4
 . subst hw4
   (try (conv=>whnf));repeat' (first|refine Ok.seq ?_|((first|refine Ok.region tok ?_|refine Ok.cond ?_|refine Ok.exit ?_|refine Ok.ret ?_);conv=>whnf)|(refine bI ?_ ?_<;>intro<;>(conv=>whnf)<;>(try (exfalso;omega)))|fail)
   refine Or.inl ?_;(conv=>whnf)
   refine⟨?_,rfl⟩
   show D.agg (wcells c.length 4 c d)=_
   rw[wcells_end hl hd]
 . rcases (by omega:w=0\/w=1\/w=2\/w=3) with rfl|rfl|rfl|rfl
   . (try (conv=>whnf));repeat' (first|((with_reducible_and_instances (first|refine nOr ?_|refine nAndNot ?_));conv=>whnf)|refine Ok.seq ?_|((first|refine Ok.region tok ?_|refine Ok.region_plan (id:=6) tok follows [(3,11,[]),(7,11,[])] [.q 0,.q 1,.q 2,.q 3,.q 4,.q 5,.q 6,.q 7,.q 8,.q 9,.q 10,.l 11] (by kernel_rfl) ?_|refine Ok.region_plan (id:=7) tok follows [(4,17,[]),(8,17,[]),(13,17,[])] [.q 0,.q 1,.q 2,.q 3,.q 4,.q 5,.q 6,.q 7,.q 8,.q 9,.q 10,.q 11,.q 12,.q 13,.q 14,.q 15,.q 16,.l 17] (by kernel_rfl) ?_|refine Ok.cond ?_);conv=>whnf)|refine Ok.block ?_|((first|refine Ok.skip ?_|refine nI ?_);conv=>whnf)|(refine bI ?_ ?_<;>intro<;>(conv=>whnf)<;>(try (exfalso;omega)))|((first|refine aJ ?_|refine⟨_,rfl,?_⟩);conv=>whnf)|fail)
     refine⟨1,by omega,by omega,?_⟩
     (conv=>whnf)
     rfl
   . (try (conv=>whnf));repeat' (first|((with_reducible_and_instances (first|refine nOr ?_|refine nAndNot ?_));conv=>whnf)|refine Ok.seq ?_|((first|refine Ok.region tok ?_|refine Ok.region_plan (id:=6) tok follows [(3,11,[]),(7,11,[])] [.q 0,.q 1,.q 2,.q 3,.q 4,.q 5,.q 6,.q 7,.q 8,.q 9,.q 10,.l 11] (by kernel_rfl) ?_|refine Ok.region_plan (id:=7) tok follows [(4,17,[]),(8,17,[]),(13,17,[])] [.q 0,.q 1,.q 2,.q 3,.q 4,.q 5,.q 6,.q 7,.q 8,.q 9,.q 10,.q 11,.q 12,.q 13,.q 14,.q 15,.q 16,.l 17] (by kernel_rfl) ?_|refine Ok.cond ?_);conv=>whnf)|refine Ok.block ?_|((first|refine Ok.skip ?_|refine nI ?_);conv=>whnf)|(refine bI ?_ ?_<;>intro<;>(conv=>whnf)<;>(try (exfalso;omega)))|((first|refine aJ ?_|refine⟨_,rfl,?_⟩);conv=>whnf)|fail)
     refine⟨2,by omega,by omega,?_⟩
     (conv=>whnf)
     rfl
   . (try (conv=>whnf));repeat' (first|((with_reducible_and_instances (first|refine nOr ?_|refine nAndNot ?_));conv=>whnf)|refine Ok.seq ?_|((first|refine Ok.region tok ?_|refine Ok.region_plan (id:=6) tok follows [(3,11,[]),(7,11,[])] [.q 0,.q 1,.q 2,.q 3,.q 4,.q 5,.q 6,.q 7,.q 8,.q 9,.q 10,.l 11] (by kernel_rfl) ?_|refine Ok.region_plan (id:=7) tok follows [(4,17,[]),(8,17,[]),(13,17,[])] [.q 0,.q 1,.q 2,.q 3,.q 4,.q 5,.q 6,.q 7,.q 8,.q 9,.q 10,.q 11,.q 12,.q 13,.q 14,.q 15,.q 16,.l 17] (by kernel_rfl) ?_|refine Ok.cond ?_);conv=>whnf)|refine Ok.block ?_|((first|refine Ok.skip ?_|refine nI ?_);conv=>whnf)|(refine bI ?_ ?_<;>intro<;>(conv=>whnf)<;>(try (exfalso;omega)))|((first|refine aJ ?_|refine⟨_,rfl,?_⟩);conv=>whnf)|fail)
     refine⟨3,by omega,by omega,?_⟩
     (conv=>whnf)
     rfl
   . (try (conv=>whnf));repeat' (first|((with_reducible_and_instances (first|refine nOr ?_|refine nAndNot ?_));conv=>whnf)|refine Ok.seq ?_|((first|refine Ok.region tok ?_|refine Ok.region_plan (id:=6) tok follows [(3,11,[]),(7,11,[])] [.q 0,.q 1,.q 2,.q 3,.q 4,.q 5,.q 6,.q 7,.q 8,.q 9,.q 10,.l 11] (by kernel_rfl) ?_|refine Ok.region_plan (id:=7) tok follows [(4,17,[]),(8,17,[]),(13,17,[])] [.q 0,.q 1,.q 2,.q 3,.q 4,.q 5,.q 6,.q 7,.q 8,.q 9,.q 10,.q 11,.q 12,.q 13,.q 14,.q 15,.q 16,.l 17] (by kernel_rfl) ?_|refine Ok.cond ?_);conv=>whnf)|refine Ok.block ?_|((first|refine Ok.skip ?_|refine nI ?_);conv=>whnf)|(refine bI ?_ ?_<;>intro<;>(conv=>whnf)<;>(try (exfalso;omega)))|((first|refine aJ ?_|refine⟨_,rfl,?_⟩);conv=>whnf)|fail)
     refine⟨4,by omega,by omega,?_⟩
     (conv=>whnf)
     rfl
theorem wr_fill{c r:Str}{i:Nat}{a b:UInt8}(ha:c[i]? = some a)(hb:r[i]? = some b):writeL (c.take (i+1)) (r.take (i+1))++c.drop (i+1)=(writeL (c.take i) (r.take i)++c.drop i).set i (wr1 a b):=by
 have hi:i<c.length:=(List.getElem?_eq_some_iff.1 ha).1
 have hi2:i<r.length:=(List.getElem?_eq_some_iff.1 hb).1
 have hl:(writeL (c.take i) (r.take i)).length=i:=by simp[writeL];omega
 rw[List.set_append,if_neg (by omega),hl,Nat.sub_self,List.drop_eq_getElem_cons hi,List.set_cons_zero,take_snoc ha,take_snoc hb]
 unfold writeL
 rw[List.zipWith_append (by simp;omega)]
 simp
theorem wr_at{c r:Str}{i:Nat}{a:UInt8}(ha:c[i]? = some a)(hir:i<r.length):(writeL (c.take i) (r.take i)++c.drop i)[i]? = some a:=by
 have hi:i<c.length:=(List.getElem?_eq_some_iff.1 ha).1
 have hl:(writeL (c.take i) (r.take i)).length=i:=by simp[writeL];omega
 rw[List.getElem?_append_right (by omega),hl,Nat.sub_self,List.getElem?_drop]
 exact ha
set_option maxHeartbeats 4000000 in
theorem rwritten_at(c r:Str)(hc:c.length<=100000)(hl:r.length=c.length):FSpec Tryz.prog T 96 [.s c,.s r] (fun d _=>d = .s (writeL c r)):=by
 refine FSpec.of_ok tok Tryz.func96 rfl Tryz.call96 (by simp) ?_
 (try (conv=>whnf));repeat' (first|refine Ok.seq ?_|(refine Ok.region tok ?_;conv=>whnf)|refine Ok.block ?_|(refine aJ ?_;conv=>whnf)|fail)
 refine Ok.loopU [1,5] [6] 1 0 (fun (i:Nat)=>[.i .i64 (i:Nat)]) (fun _ b=>b) (fun (i:Nat) (_:Vx.Rows)=>[some (Nat.add 5 BIG,(writeL (c.take i) (r.take i)++c.drop i).map bcell)]) (fun (i:Nat)=>i<=c.length) (fun (i:Nat)=>c.length - i) (0) (Nat.zero_le _) ?_;(conv=>whnf);refine⟨by ((conv=>whnf);first|rfl|(simp[envCat,List.take_of_length_le,cells9,wcells,bcell,crow];done)|(simp[envCat,List.take_of_length_le,cells9,wcells,bcell,crow];rw[IntKind.wrap_i64];omega)),?_⟩
 intro i hi
 have hrl:(writeL (c.take i) (r.take i)++c.drop i).length=c.length:=by simp[writeL];omega
 have hrl2:((writeL (c.take i) (r.take i)++c.drop i).map bcell).length=c.length:=by rw[List.length_map,hrl]
 (conv=>whnf)
 by_cases hil:i<c.length
 . obtain⟨a,ha⟩:∃ a,c[i]? = some a:=⟨_,List.getElem?_eq_getElem hil⟩
   obtain⟨b,hb⟩:∃ b,r[i]? = some b:=⟨_,List.getElem?_eq_getElem (by omega)⟩
   have haI:c[((i:Nat):Int).toNat]? = some a:=ha
   have hbI:r[((i:Nat):Int).toNat]? = some b:=hb
   have hfl:=wr_fill ha hb
   have hz:=wr_at ha (show i<r.length by omega)
   generalize hL:writeL (c.take i) (r.take i)++c.drop i=L at *
   have hn:(((120:UInt8).toNat:Nat):Int)=120:=rfl
   by_cases hx:b=120
   . subst hx
     rw[show wr1 a 120=a from rfl,set_self hz] at hfl
     (try (conv=>whnf));repeat' (first|refine Ok.seq ?_|((first|refine Ok.region tok ?_|refine Ok.cond ?_);conv=>whnf)|refine Ok.block ?_|((first|refine Ok.skip ?_|refine nI ?_|refine⟨_,by assumption,?_⟩);conv=>whnf)|(refine bI ?_ ?_<;>intro<;>(conv=>whnf)<;>(try (exfalso;omega)))|(refine aJ ?_;conv=>whnf)|fail)
     refine⟨i+1,by omega,by omega,?_⟩
     rw[hfl]
     (conv=>whnf)
     rfl
   . have hx2:=u8_ne hx
     rw[hn] at hx2
     rw[show wr1 a b=b by unfold wr1;rw[if_neg hx]] at hfl
     (try (conv=>whnf));repeat' (first|refine Ok.seq ?_|((first|refine Ok.region tok ?_|refine Ok.cond ?_);conv=>whnf)|refine Ok.block ?_|((first|refine Ok.skip ?_|refine⟨_,by assumption,?_⟩);conv=>whnf)|(refine bI ?_ ?_<;>intro<;>(conv=>whnf)<;>(try (exfalso;omega)))|((first|refine aJ ?_|refine num_any ?_);conv=>whnf)|fail)
     refine st b hz (by simp[bcell]) (by simp[setCells,bcell]) ?_
     rw[toNat_cast,<- hfl]
     (try (conv=>whnf));repeat' (first|((first|refine Ok.region tok ?_|refine nI ?_);conv=>whnf)|fail)
     refine⟨i+1,by omega,by omega,?_⟩
     (conv=>whnf)
     rfl
 . have hie:i=c.length:=by omega
   subst hie
   have hr2:r.take c.length=r:=by rw[<- hl];exact List.take_length
   rw[List.take_length,List.drop_length,List.append_nil,hr2]
   have hbl:=writeL_len hl
   (try (conv=>whnf));repeat' (first|refine Ok.seq ?_|((first|refine Ok.region tok ?_|refine Ok.cond ?_|refine Ok.exit ?_);conv=>whnf)|(refine bI ?_ ?_<;>intro<;>(conv=>whnf)<;>(try (exfalso;omega)))|(refine aJ ?_;conv=>whnf)|fail)
   refine⟨writeL c r,by rw[<- hbl];exact take_all bcell _,?_⟩
   (try (conv=>whnf));repeat' (first|(refine Ok.ret ?_;conv=>whnf)|fail)
   refine Or.inl ?_;(conv=>whnf)
   rfl
end Go.Proofs.YtaiondckookpiaaGreatDoor
namespace Go.Proofs.YtaiondckookpiaaGreatDoor
open Go Go.Vx
def aft(r:Str)(l:List Str):List Term:=l.map fun c=>⟨writeL c r,[]⟩
open Classical in
noncomputable def aftO(n:Int)(ts:List Term)(r:Str)(limit:Int):Int × Int × List Term:=if fitP n (r.length:Int) then (if (expO n ts limit).1=0 then bndO n (formT (aft r (expO n ts limit).2)) else ((expO n ts limit).1,0,[])) else (11,0,[])
theorem aftO_fit{n:Int}{ts:List Term}{r:Str}{limit:Int}(h:fitP n (r.length:Int))(h2:(expO n ts limit).1=0):aftO n ts r limit=bndO n (formT (aft r (expO n ts limit).2)):=by unfold aftO;rw[if_pos h,if_pos h2]
theorem aftO_err{n:Int}{ts:List Term}{r:Str}{limit:Int}(h:fitP n (r.length:Int))(h2:(expO n ts limit).1 ≠ 0):aftO n ts r limit=((expO n ts limit).1,0,[]):=by unfold aftO;rw[if_pos h,if_neg h2]
theorem aftO_not{n:Int}{ts:List Term}{r:Str}{limit:Int}(h:¬ fitP n (r.length:Int)):aftO n ts r limit=(11,0,[]):=by unfold aftO;rw[if_neg h]
theorem termT_nil(p:Str):termT p []=some ⟨p,[]⟩:=by
 have h:PK p []=[]:=rfl
 rw[termT_pk1 (by rw[h];simp),h]
theorem aft_good{n:Nat}{r:Str}{l:List Str}(h:AllW n l)(hr:CT r)(hl:r.length=n)(h0:0<n):∀ t ∈ aft r l,GoodT n t:=by
 intro t ht
 obtain⟨c,hc,rfl⟩:=List.mem_map.1 ht
 have hh:=h c hc
 exact⟨⟨h0,by dsimp only;rw[writeL_len (by omega)];exact hh.2,fun m hm=>by simp at hm⟩,writeL_cn hh.1 hr (by omega),fun m hm=>by simp at hm⟩
theorem aft_snoc{r c:Str}{l:List Str}{i:Nat}(h:l[i]? = some c):aft r (l.take (i+1))=aft r (l.take i)++[⟨writeL c r,[]⟩]:=by
 unfold aft
 rw[take_snoc h,List.map_append]
 rfl
theorem aftO_fine{n:Int}{ts:List Term}{r:Str}{limit:Int}(hf:Fine n ts)(hr:CT r):Fine (aftO n ts r limit).2.1 (aftO n ts r limit).2.2:=by
 by_cases h:fitP n (r.length:Int)
 . have h1:=h.1
   have h2:=h.2
   by_cases hx:(expO n ts limit).1=0
   . rw[aftO_fit h hx]
     exact bndO_fine hf.n0 hf.n1 (aft_good (expO_all hf).1 hr (by omega) (by omega))
   . rw[aftO_err h hx];exact Fine.nil (n:=0) (by decide) (by decide)
 . rw[aftO_not h];exact .nil (by decide) (by decide)
set_option maxRecDepth 100000 in
set_option maxHeartbeats 8000000 in
theorem after_at{n:Int}{ts:List Term}(hf:Fine n ts)(ks:List TR)(rm:List (List D))(h1:ks.map TR.t=ts)(r:Str)(hr:CT r)(limit:Int) :
    FSpec Tryz.prog T 37 [.agg [.i .i64 n,.lst 112 (ks.map trow) rm],.agg (crow r),.i .i64 limit] (POut (aftO n ts r limit)):=by
 have hfit:=fits2_at n (r.length:Int)
 have htx:=text_at r hr
 have hex:=expand_at hf ks rm h1 limit
 have hal:=expO_all (limit:=limit) hf
 have hn0:=hf.n0
 have hrl:=hr.len
 refine FSpec.of_deferK 6 tok Tryz.func37 rfl Tryz.call37 (by simp) def_after (zd1:=[.i .i64 0,.nilS]) (zd2:=[.i .i64 3]) rfl rfl (by simp[Value.oneCell']) (by simp[Value.oneCell']) rfl ?_
 by_cases hfp:fitP n (r.length:Int)
 . have hnr:=hfp.1
   have hn1:=hfp.2
   by_cases hx:(expO n ts limit).1=0
   . rw[aftO_fit hfp hx]
     generalize expO n ts limit=o at *
     obtain⟨x,l⟩:=o
     dsimp only at hx hal ⊢
     subst hx
     have hlm:(l.map crow).length=l.length:=by simp
     obtain⟨hal,hll⟩:=hal
     (try (conv=>whnf));repeat' (first|refine Ok.seq ?_|refine OkL.cons ?_|((first|refine Ok.region tok ?_|refine Ok.region_draw tok follows (by kernel_rfl) ?_|refine Ok.cond ?_|refine Ok.skip ?_|refine Ok.ret ?_|refine⟨_,by assumption,?_⟩);conv=>whnf)|(refine Or.inr (Or.inl ?_);(conv=>whnf);(repeat (refine aI ?_;conv=>whnf));refine⟨_,hex , ?_⟩;rintro _ _ ⟨rfl,rm5,rfl⟩<;>(conv=>whnf))|(refine bI ?_ ?_<;>intro<;>(conv=>whnf)<;>(try (exfalso;omega)))|(refine aJ ?_;conv=>whnf)|fail)
     all_goals first
      | exact absurd hfp (by assumption)
      | (rename_i h;exact absurd rfl h)
      | skip
     refine OkL.nil ?_
     (conv=>whnf)
     refine⟨2,3,rfl,rfl,by decide,by decide,by decide,rfl,?_⟩
     (try (conv=>whnf));repeat' (first|refine OkL.cons ?_|(refine Ok.region tok ?_;conv=>whnf)|refine Ok.block ?_|fail)
     refine Ok.ghost 9 112 rfl ?_
     (conv=>whnf)
     refine Ok.loopU [3,4,6,7,33,34,56,57] [9,35] 1 4 (fun (x:Nat × List TR)=>[.own 0 x.2.length,.i .i64 (x.1:Nat)]) (fun _ b=>b) (fun (x:Nat × List TR) (_:Vx.Rows)=>[some (112,x.2.map trow)]) (fun (x:Nat × List TR)=>x.1<=l.length/\x.2.map TR.t=aft r (l.take x.1)/\x.2.length<=x.1) (fun (x:Nat × List TR)=>l.length - x.1) ((0,[])) (⟨Nat.zero_le _,by simp[aft],by simp⟩) ?_;(conv=>whnf);refine⟨by ((conv=>whnf);first|rfl|(simp[envCat,List.take_of_length_le,crow,trow,srow,drow];done)|(simp[envCat,List.take_of_length_le,crow,trow,srow,drow];rw[IntKind.wrap_i64];omega)),?_⟩
     rintro⟨i,tl⟩ ⟨hi,hl,htl⟩
     dsimp only at hi hl htl ⊢
     have htm:(tl.map trow).length=tl.length:=by simp
     (conv=>whnf)
     by_cases hil:i<l.length
     . obtain⟨c,hc⟩:∃ c,l[i]? = some c:=⟨_,List.getElem?_eq_getElem hil⟩
       have hcI:l[((i:Nat):Int).toNat]? = some c:=hc
       have hcw:=hal c (List.mem_of_getElem? hc)
       have hwr:=write_at c r hcw.1 hr (by omega)
       have hcn:=writeL_cn hcw.1 hr (show r.length=c.length by omega)
       have hnew:FSpec Tryz.prog T 72 [.agg (crow (writeL c r)),.lst 58 [] []] (NewT (writeL c r) []):=newTerm_at (writeL c r) [] (room:=[]) hcn (by simp) (by simp[allL]) (by simp) rfl
       (try (conv=>whnf));repeat' (first|refine Ok.seq ?_|((first|refine Ok.region tok ?_|refine Ok.cond ?_);conv=>whnf)|refine Ok.block ?_|((first|refine Ok.skip ?_|refine nI ?_|refine ix _ (by assumption) ?_);conv=>whnf)|(refine Or.inr (Or.inl ?_);(conv=>whnf);(repeat (refine aI ?_;conv=>whnf));refine⟨_,hwr,?_⟩;rintro _ _ ⟨rfl,rfl⟩<;>(conv=>whnf))|(refine Or.inr (Or.inl ?_);(conv=>whnf);(repeat (refine aI ?_;conv=>whnf));refine⟨_,hnew , ?_⟩;rintro _ _ ⟨rfl,(⟨ht,rfl⟩|⟨t,rm4,ht,rfl⟩)⟩<;>(conv=>whnf))|((first|refine Alt2.l (aI ?_)|refine⟨_,.inl ⟨rfl,rfl⟩,?_⟩|refine⟨_,_,rfl,rfl,?_⟩);conv=>whnf)|(refine bI ?_ ?_<;>intro<;>(conv=>whnf)<;>(try (exfalso;omega)))|(refine aJ ?_;conv=>whnf)|fail)
       all_goals first
        | (rename_i h;exact absurd trivial h)
        | (rename_i h;cases h;done)
        | (exfalso;rw[termT_nil] at ht;cases ht;done)
        | (rw[termT_nil] at ht
           cases ht
           refine⟨(i+1,tl++[⟨⟨writeL c r,[]⟩,rm4⟩]),by dsimp only;omega,⟨by dsimp only;omega,by dsimp only;rw[aft_snoc hc,List.map_append,hl];rfl,by simp;omega⟩,?_⟩
           (conv=>whnf)
           simp[envCat])
     . have hie:i=l.length:=by omega
       subst hie
       rw[List.take_length] at hl
       have hgood:=aft_good hal hr (show r.length=n.toNat by omega) (by omega)
       have hle:∀ x ∈ tl,x.t.less.length<=1048576:=fun x hx=>by
        obtain⟨c,_,hc⟩:=List.mem_map.1 (mem_of_map hl hx)
        rw[<- hc]
        simp
       have hto:∀ x ∈ tl,TO n.toNat x:=fun x hx=>(hgood _ (mem_of_map hl hx)).to (hle x hx)
       have htk:List.take tl.length (tl.map trow)=tl.map trow:=List.take_of_length_le (by simp)
       rw[<- hl]
       by_cases hsz:szT (formT (tl.map TR.t))<=128
       . rw[bndO_le hsz]
         (try (conv=>whnf));repeat' (first|refine Ok.seq ?_|refine OkL.cons ?_|((first|refine Ok.region tok ?_|refine Ok.cond ?_|refine Ok.exit ?_|refine Ok.ret ?_);conv=>whnf)|(refine Or.inr (Or.inl ?_);(conv=>whnf);(repeat (refine aI ?_;conv=>whnf));refine⟨_,form_at n n.toNat tl (by omega) hto htk hsz , ?_⟩;rintro _ _ ⟨ks3,rm3,rfl,rfl,hks3,hkm⟩<;>(conv=>whnf))|(refine bI ?_ ?_<;>intro<;>(conv=>whnf)<;>(try (exfalso;omega)))|fail)
         refine Or.inl ?_;(conv=>whnf)
         exact⟨rfl,_,rfl,ks3,rm3,rfl,hks3⟩
       . rw[bndO_gt (by omega)]
         (try (conv=>whnf));repeat' (first|(refine Ok.region_pan (id:=15) tok 3 ?_;conv=>whnf)|refine Ok.seq ?_|refine OkL.cons ?_|((first|refine Ok.region tok ?_|refine Ok.cond ?_|refine Ok.exit ?_);conv=>whnf)|(refine bI ?_ ?_<;>intro<;>(conv=>whnf)<;>(try (exfalso;omega)))|(refine aJ ?_;conv=>whnf)|fail)
         refine⟨_,form_pan n n.toNat tl (by omega) hto htk (by omega),?_⟩
         (conv=>whnf)
         refine⟨rfl,2,3,_,_,rfl,rfl,rfl,rfl,rfl,rfl,by decide,rfl,?_⟩
         (conv=>whnf)
         refine Or.inl ?_;(conv=>whnf)
         exact⟨rfl,_,rfl,PSp.nil 0⟩
   . rw[aftO_err hfp hx]
     generalize expO n ts limit=o at *
     obtain⟨x,l⟩:=o
     dsimp only at hx hal ⊢
     (try (conv=>whnf));repeat' (first|refine Ok.seq ?_|refine OkL.cons ?_|((first|refine Ok.region tok ?_|refine Ok.region_plan (id:=5) tok follows [(1,3,[]),(2,3,[])] [.q 0,.q 1,.l 2,.l 3] (by kernel_rfl) ?_|refine Ok.region_draw tok follows (by kernel_rfl) ?_|refine Ok.cond ?_|refine Ok.skip ?_|refine Ok.ret ?_|refine⟨_,by assumption,?_⟩);conv=>whnf)|(refine Or.inr (Or.inl ?_);(conv=>whnf);(repeat (refine aI ?_;conv=>whnf));refine⟨_,hex , ?_⟩;rintro _ _ ⟨rfl,rm5,rfl⟩<;>(conv=>whnf))|(refine bI ?_ ?_<;>intro<;>(conv=>whnf)<;>(try (exfalso;omega)))|(refine aJ ?_;conv=>whnf)|fail)
     all_goals first
      | exact absurd hfp (by assumption)
      | (rename_i h;exact absurd hx h)
      | (refine Or.inl ?_;(conv=>whnf)
         exact⟨rfl,_,rfl,PSp.nil 0⟩)
 . rw[aftO_not hfp]
   (try (conv=>whnf));repeat' (first|refine Ok.seq ?_|refine OkL.cons ?_|((first|refine Ok.region tok ?_|refine Ok.region_draw tok follows (by kernel_rfl) ?_|refine Ok.cond ?_|refine Ok.skip ?_|refine Ok.ret ?_|refine⟨_,by assumption,?_⟩);conv=>whnf)|(refine bI ?_ ?_<;>intro<;>(conv=>whnf)<;>(try (exfalso;omega)))|(refine aJ ?_;conv=>whnf)|fail)
   . refine Or.inl ?_;(conv=>whnf)
     exact⟨rfl,_,rfl,PSp.nil 0⟩
   . rename_i h
     exact absurd hfp h
set_option maxRecDepth 100000 in
set_option maxHeartbeats 8000000 in
theorem rafter_at{n:Int}{ts:List Term}(hf:Fine n ts)(ks:List TR)(rm:List (List D))(h1:ks.map TR.t=ts)(r:Str)(hr:CT r)(limit:Int) :
    FSpec Tryz.prog T 38 [.agg [.i .i64 n,.lst 120 (ks.map drow) rm],.s r,.i .i64 limit] (DOut (aftO n ts r limit)):=by
 have hex:=rexpand_at hf ks rm h1 limit
 have hal:=expO_all (limit:=limit) hf
 have hn0:=hf.n0
 have hnm:=hf.n1
 have hrl:=hr.len
 refine FSpec.of_ok tok Tryz.func38 rfl Tryz.call38 (by simp) ?_
 by_cases hfp:fitP n (r.length:Int)
 . have hnr:=hfp.1
   have hn1:=hfp.2
   by_cases hx:(expO n ts limit).1=0
   . rw[aftO_fit hfp hx]
     generalize expO n ts limit=o at *
     obtain⟨x,l⟩:=o
     dsimp only at hx hal ⊢
     subst hx
     have hlm:(l.map srow).length=l.length:=by simp
     obtain⟨hal,hll⟩:=hal
     (try (conv=>whnf));repeat' (first|refine Ok.seq ?_|((first|refine Ok.region tok ?_|refine Ok.cond ?_);conv=>whnf)|refine Ok.block ?_|(refine Ok.skip ?_;conv=>whnf)|(refine Or.inr (Or.inl ?_);(conv=>whnf);(repeat (refine aI ?_;conv=>whnf));refine⟨_,hex , ?_⟩;rintro _ _ ⟨rfl,rm5,rfl⟩<;>(conv=>whnf))|(refine bI ?_ ?_<;>intro<;>(conv=>whnf)<;>(try (exfalso;omega)))|fail)
     all_goals first
      | (exfalso;omega)
      | (rename_i h;exact absurd rfl h)
      | skip
     refine Ok.ghost 10 120 rfl ?_
     (conv=>whnf)
     refine Ok.loopU [1,3,6,8] [10,11] 1 2 (fun (x:Nat × List TR)=>[.own 0 x.2.length,.i .i64 (x.1:Nat)]) (fun _ b=>b) (fun (x:Nat × List TR) (_:Vx.Rows)=>[some (120,x.2.map drow)]) (fun (x:Nat × List TR)=>x.1<=l.length/\x.2.map TR.t=aft r (l.take x.1)/\x.2.length<=x.1) (fun (x:Nat × List TR)=>l.length - x.1) ((0,[])) (⟨Nat.zero_le _,by simp[aft],by simp⟩) ?_;(conv=>whnf);refine⟨by ((conv=>whnf);first|rfl|(simp[envCat,List.take_of_length_le,crow,trow,srow,drow];done)|(simp[envCat,List.take_of_length_le,crow,trow,srow,drow];rw[IntKind.wrap_i64];omega)),?_⟩
     rintro⟨i,tl⟩ ⟨hi,hl,htl⟩
     dsimp only at hi hl htl ⊢
     have htm:(tl.map drow).length=tl.length:=by simp
     (conv=>whnf)
     by_cases hil:i<l.length
     . obtain⟨c,hc⟩:∃ c,l[i]? = some c:=⟨_,List.getElem?_eq_getElem hil⟩
       have hcI:l[((i:Nat):Int).toNat]? = some c:=hc
       have hcw:=hal c (List.mem_of_getElem? hc)
       have hwr:=rwritten_at c r (by omega) (by omega)
       (try (conv=>whnf));repeat' (first|refine Ok.seq ?_|((first|refine Ok.region tok ?_|refine Ok.cond ?_);conv=>whnf)|refine Ok.block ?_|((first|refine Ok.skip ?_|refine nI ?_|refine ix _ (by assumption) ?_);conv=>whnf)|(refine Or.inl ?_;(conv=>whnf);(repeat (refine aI ?_;conv=>whnf));refine⟨_,hwr,rfl,?_⟩;conv=>whnf)|((first|refine Alt2.l (aI ?_)|refine⟨_,.inl ⟨rfl,rfl⟩,?_⟩|refine⟨_,_,rfl,rfl,?_⟩);conv=>whnf)|(refine bI ?_ ?_<;>intro<;>(conv=>whnf)<;>(try (exfalso;omega)))|(refine aJ ?_;conv=>whnf)|fail)
       refine⟨(i+1,tl++[⟨⟨writeL c r,[]⟩,[]⟩]),by dsimp only;omega,⟨by dsimp only;omega,by dsimp only;rw[aft_snoc hc,List.map_append,hl];rfl,by simp;omega⟩,?_⟩
       (conv=>whnf)
       simp[envCat]
     . have hie:i=l.length:=by omega
       subst hie
       rw[List.take_length] at hl
       have hgood:=aft_good hal hr (show r.length=n.toNat by omega) (by omega)
       have hle:∀ x ∈ tl,x.t.less.length<=1048576:=fun x hx=>by
        obtain⟨c,_,hc⟩:=List.mem_map.1 (mem_of_map hl hx)
        rw[<- hc]
        simp
       have hrn:∀ x ∈ tl,RN2 x/\x.t.Ok n.toNat:=fun x hx=>(hgood _ (mem_of_map hl hx)).rn (hle x hx)
       have htk:List.take tl.length (tl.map drow)=tl.map drow:=List.take_of_length_le (by simp)
       have hln:(tl.map TR.t).length<=1048576:=by simp;omega
       rw[<- hl]
       (try (conv=>whnf));repeat' (first|refine Ok.seq ?_|((first|refine Ok.region tok ?_|refine Ok.cond ?_|refine Ok.exit ?_|refine Ok.ret ?_);conv=>whnf)|(refine Or.inr (Or.inl ?_);(conv=>whnf);(repeat (refine aI ?_;conv=>whnf));refine⟨_,rform_at n n.toNat tl (by omega) hrn htk , ?_⟩;rintro _ _ ⟨ks3,rm3,rfl,rfl,hks3,hkm⟩<;>(conv=>whnf))|(refine Or.inr (Or.inl ?_);(conv=>whnf);(repeat (refine aI ?_;conv=>whnf));refine⟨_,rbound_at n ks3 (form_len hks3 hln) (fun x hx=>hle x (hkm x hx)) rfl , ?_⟩;rintro _ _ ⟨rfl,(⟨hb,rfl⟩|⟨hb,rfl⟩)⟩<;>(conv=>whnf))|(refine bI ?_ ?_<;>intro<;>(conv=>whnf)<;>(try (exfalso;omega)))|fail)
       . refine Or.inl ?_;(conv=>whnf)
         exact DOut.form hks3 hb
       . refine Or.inl ?_;(conv=>whnf)
         exact DOut.many hks3 hb
   . rw[aftO_err hfp hx]
     generalize expO n ts limit=o at *
     obtain⟨x,l⟩:=o
     dsimp only at hx hal ⊢
     (try (conv=>whnf));repeat' (first|refine Ok.seq ?_|((first|refine Ok.region tok ?_|refine Ok.cond ?_|refine Ok.skip ?_|refine Ok.ret ?_);conv=>whnf)|(refine Or.inr (Or.inl ?_);(conv=>whnf);(repeat (refine aI ?_;conv=>whnf));refine⟨_,hex , ?_⟩;rintro _ _ ⟨rfl,rm5,rfl⟩<;>(conv=>whnf))|(refine bI ?_ ?_<;>intro<;>(conv=>whnf)<;>(try (exfalso;omega)))|fail)
     all_goals first
      | (exfalso;omega)
      | (rename_i h;exact absurd hx h)
      | (refine Or.inl ?_;(conv=>whnf)
         exact⟨rfl,_,rfl,DSp.nil 0⟩)
 . rw[aftO_not hfp]
   (try (conv=>whnf));repeat' (first|refine Ok.seq ?_|((first|refine Ok.region tok ?_|refine Ok.cond ?_|refine Ok.skip ?_|refine Ok.ret ?_);conv=>whnf)|(refine bI ?_ ?_<;>intro<;>(conv=>whnf)<;>(try (exfalso;omega)))|fail)
   all_goals first
    | (refine Or.inl ?_;(conv=>whnf)
       exact⟨rfl,_,rfl,DSp.nil 0⟩)
    | (exfalso;exact hfp ⟨by omega,by omega⟩)
end Go.Proofs.YtaiondckookpiaaGreatDoor
namespace Go.Proofs.YtaiondckookpiaaGreatDoor
open Go Go.Vx
section
variable {α : Type} {R L : α → α → Prop} {r b : α → α → Bool}
def addB(r:α->α->Bool)(k:List α)(x:α):List α:=if k.any (r x)=true then k else k.filter (fun y=>!r y x)++[x]
def grB(r:α->α->Bool)(l:List α):List α:=l.foldl (addB r) []
def insB(b:α->α->Bool)(c:α):List α->List α
 | []=>[c]
 | x :: q=>if b c x=true then c :: x :: q else x :: insB b c q
def srtB(b:α->α->Bool)(l:List α):List α:=l.foldl (fun acc x=>insB b x acc) []
theorem filt_eq(h:∀ x y,R x y ↔ r x y=true)(k:List α)(x:α)[∀ y,Decidable (¬ R y x)]:k.filter (fun y=>decide (¬ R y x))=k.filter (fun y=>!r y x):=by
 refine List.filter_congr fun y _=>?_
 cases hr:r y x with
 | true=>simp[(h y x).2 hr]
 | false=>
  have hn:¬ R y x:=fun e=>by rw[(h y x).1 e] at hr;cases hr
  simp[hn]
theorem any_eq(h:∀ x y,R x y ↔ r x y=true)(k:List α)(x:α):(∃ y ∈ k,R x y) ↔ k.any (r x)=true:=by simp[h]
theorem addG_eq(h:∀ x y,R x y ↔ r x y=true)(k:List α)(x:α):addG R k x=addB r k x:=by
 unfold addG addB
 by_cases hk:k.any (r x)=true
 . rw[if_pos ((any_eq h k x).2 hk),if_pos hk]
 . rw[if_neg (fun e=>hk ((any_eq h k x).1 e)),if_neg hk,filt_eq h]
theorem grG_eq(h:∀ x y,R x y ↔ r x y=true)(l:List α):grG R l=grB r l:=by
 have e:addG R=addB r:=by funext k x;exact addG_eq h k x
 unfold grG grB
 rw[e]
theorem insG_eq(h:∀ x y,L x y ↔ b x y=true)(c:α):∀ l:List α,insG L c l=insB b c l
 | []=>rfl
 | x :: q=>by
  unfold insG insB
  by_cases hk:b c x=true
  . rw[if_pos ((h c x).2 hk),if_pos hk]
  . rw[if_neg (fun e=>hk ((h c x).1 e)),if_neg hk,insG_eq h c q]
theorem srt_eq(h:∀ x y,L x y ↔ b x y=true)(l:List α):srt L l=srtB b l:=by
 unfold srt srtB
 congr 1
 funext acc x
 exact insG_eq h x acc
end
def inB:Str->Str->Bool
 | [],[]=>true
 | a :: c,b :: d=>(b == 120 || b == a) && inB c d
 | _,_=>false
theorem inL_b:∀ c d:Str,inL c d ↔ inB c d=true
 | [],[]=>by simp[inL,inB]
 | [],_ :: _=>by simp[inL,inB]
 | _ :: _,[]=>by simp[inL,inB]
 | a :: c,b :: d=>by simp[inL,inB,inL_b c d]
def inTB(c d:Str):Bool:=!c.isEmpty && inB c d
theorem inT_b(c d:Str):inT c d ↔ inTB c d=true:=by
 unfold inT inTB
 rw[inL_b]
 cases c<;>simp
def covB(t u:Term):Bool:=inTB t.p u.p && u.less.all fun m=>match meetT m t.p with|none=>true|some c=>t.less.any fun n=>inTB c n
theorem covT_b(t u:Term):covT t u ↔ covB t u=true:=by
 unfold covT covB
 rw[inT_b,Bool.and_eq_true,List.all_eq_true]
 refine and_congr_right fun _=>forall_congr' fun m=>forall_congr' fun _=>?_
 cases meetT m t.p with
 | none=>simp
 | some c=>simp[inT_b]
def lexB:List Str->List Str->Bool
 | _,[]=>false
 | [],_ :: _=>true
 | x :: a,y :: b=>Op.bytesLess x y || (x == y && lexB a b)
theorem lexL_b:∀ a b:List Str,lexL a b ↔ lexB a b=true
 | a,[]=>by cases a<;>simp[lexL,lexB]
 | [],_ :: _=>by simp[lexL,lexB]
 | x :: a,y :: b=>by simp[lexL,lexB,lexL_b a b]
def formB(l:List Term):List Term:=srtB (fun t u=>lexB (t.p :: t.less) (u.p :: u.less)) (grB covB l)
theorem formT_b(l:List Term):formT l=formB l:=by
 unfold formT formB
 rw[grG_eq covT_b]
 exact srt_eq (L:=aheadT) (b:=fun t u=>lexB (t.p :: t.less) (u.p :: u.less)) (fun t u=>lexL_b _ _) _
instance (n:Int) (w:Str):Decidable (OkW n w):=decidable_of_iff ((w.length:Int)=n/\(w.length<=256/\∀ b ∈ w,b=48\/b=49\/b=120)/\w ≠ []) ⟨fun h=>⟨h.1,⟨h.2.1.1,h.2.1.2⟩,h.2.2⟩,fun h=>⟨h.1,⟨h.2.1.1,h.2.1.2⟩,h.2.2⟩⟩
instance (n:Int) (ms:List (List Str)):Decidable (OkP n ms):=inferInstanceAs (Decidable (∀ m ∈ ms,∀ w ∈ m,OkW n w))
end Go.Proofs.YtaiondckookpiaaGreatDoor
namespace Go.Proofs.YtaiondckookpiaaGreatDoor
open Go Go.Vx Go.RowKit
theorem idle_of(p q:Addr)(w:World):CallsD Tryz.prog 103 #[.pointer (some p),.pointer (some q)] .returning w fun e u' w'=>e = .returned (.tuple #[])/\u' = .returning/\Ext w w':=by
 refine callsD_of_wpS Tryz.func103 rfl fun c₀ cs hu=>?_
 apply wpS_seq
 apply wpS_region
 simp[wpOpsS,go_sem,recoverD,hu,Tryz.ntmps103,Exit.thenS]
 refine (ours_nil w).mono ?_
 rintro e w' ⟨rfl,rfl⟩
 refine wpS_cond (t:=false) (by simp[Act.eval,Act.put,Array.replicate]) ?_
 simp only[Bool.false_eq_true,if_false]
 refine wpS_of_wp (wp_skip ?_)
 cases c₀
 simp_all[bodyPostS,results,Tryz.results103]
 exact Ext.refl _
theorem caught_of(p q:Addr)(w:World){R:Ending->FrameMode->World->Prop}(h:∀ w1,Ext w w1->∃ w2,(storeCells p [.int .i64 0,.slice none 0 0]).run Tryz.prog w1 = .ok () w2/\∃ w3,(storeCells q [.int .i64 3]).run Tryz.prog w2 = .ok () w3)
    (hR:∀ w1 w2 w3,Ext w w1->(storeCells p [.int .i64 0,.slice none 0 0]).run Tryz.prog w1 = .ok () w2->(storeCells q [.int .i64 3]).run Tryz.prog w2 = .ok () w3->R (.returned (.tuple #[])) (.panicking [{ v:=.iface 154 (.agg #[]),recovered:=true }]) w3) :
    CallsD Tryz.prog 103 #[.pointer (some p),.pointer (some q)] (.panicking [{ v:=.iface 154 (.agg #[]),recovered:=false }]) w R:=by
 refine callsD_of_wpS Tryz.func103 rfl fun c₀ cs hu=>?_
 apply wpS_seq
 apply wpS_region
 simp[wpOpsS,go_sem,recoverD,hu,Tryz.ntmps103,Exit.thenS]
 refine (ours_passed w).mono ?_
 rintro e w1 ⟨rfl,hx⟩
 obtain⟨w2,h1,w3,h2⟩:=h w1 hx
 have hr:=hR w1 w2 w3 hx h1 h2
 refine wpS_cond (t:=true) (by simp[Act.eval,Act.put,Array.replicate]) ?_
 simp only[if_true]
 refine wpS_of_wp ?_
 refine wp_region_lit ?_
 unfold wpList
 rw[if_pos (by simp[Region.wanted])]
 left
 unfold Oper.wp
 rw[run_build2]
 show wpList _ _ _ [_,_] (Act.put _ (some 4) _) w1
 unfold wpList
 rw[if_pos (by simp[Region.wanted])]
 left
 unfold Oper.wp
 rw[run_store2 (p:=p) (z:=[.int .i64 0,.slice none 0 0]) (fun w=>by kernel_rfl) (by simp[Act.eval,Act.put,Array.replicate]) (by simp[Act.eval,Act.put,Array.replicate,Value.cells]) h1]
 show wpList _ _ _ [_] _ w2
 unfold wpList
 rw[if_pos (by simp[Region.wanted])]
 left
 unfold Oper.wp
 rw[run_store2 (p:=q) (z:=[.int .i64 3]) (fun w=>by kernel_rfl) (by simp[Act.eval,Act.put,Array.replicate]) (by simp[Act.eval,Value.cells]) h2]
 show bodyPostS _ _ _ _ _ .normal _ _ w3
 cases c₀
 simp_all[bodyPostS,results,Tryz.results103]
 try exact rfl
theorem def_of:DefSpec Tryz.prog 103 (.iface 154 (.agg #[])) [.int .i64 0,.slice none 0 0] [.int .i64 3]:=
 ⟨Tryz.call103,idle_of,fun p q w h=>caught_of p q w h fun _ _ _ hx h1 h2=>⟨rfl,rfl,_,_,hx,h1,h2⟩⟩
def allC(n:Int):Str:=if n<1\/256<n then [] else List.replicate n.toNat 120
theorem rep_bits(n:Nat)(i:Nat):car (List.replicate n 120) i=false/\one (List.replicate n 120) i=false:=by
 by_cases h:i<n
 . have e:(List.replicate n (120:UInt8))[i]? = some 120:=by simp[List.getElem?_replicate,h]
   rw[(at_b e).1,(at_b e).2]
   exact⟨rfl,rfl⟩
 . exact at_out (by simp;omega)
theorem wof_none{f:Nat->Bool}(h:∀ i,f i=false)(k:Nat):wof f k=0#64:=BitVec.eq_of_getLsbD_eq fun i hi=>by rw[wof_get _ _ _ hi,h];simp
theorem crow_rep(n:Nat):crow (List.replicate n 120)=[.i .i64 n,.i .u64 0,.i .u64 0,.i .u64 0,.i .u64 0,.i .u64 0,.i .u64 0,.i .u64 0,.i .u64 0]:=by
 have h1:=wof_none (fun i=>(rep_bits n i).1)
 have h2:=wof_none (fun i=>(rep_bits n i).2)
 simp only[crow,cells9,h1,h2,List.length_replicate]
 rfl
theorem all_at(n:Int):FSpec Tryz.prog T 53 [.i .i64 n] (fun d rows=>d = .agg (crow (allC n))/\rows=[]):=by
 refine FSpec.of_ok tok Tryz.func53 rfl Tryz.call53 (by simp) ?_
 (try (conv=>whnf));repeat' (first|refine Ok.seq ?_|((first|refine Ok.region tok ?_|refine Ok.cond ?_|refine Ok.skip ?_|refine Ok.ret ?_);conv=>whnf)|(refine bI ?_ ?_<;>intro<;>(conv=>whnf)<;>(try (exfalso;omega)))|fail)
 all_goals
  refine Or.inl ?_;(conv=>whnf)
  refine⟨?_,rfl⟩
  unfold allC
  first
   | (rw[if_pos (by omega),crow_nil];rfl)
   | (rw[if_neg (by omega),crow_rep,Int.toNat_of_nonneg (by omega)];rfl)
open Classical in
noncomputable def ofO(c:Str)(less:List Str):Int × Int × List Term:=
 if 2048<less.length then (2,0,[]) else if (∃ m ∈ less,m.length ≠ c.length)\/c=[] then (11,0,[]) else match termT c less with
  | none=>(0,(c.length:Int),[])
  | some t=>bndO c.length (formT [t])
theorem ofO_long{c:Str}{less:List Str}(h:2048<less.length):ofO c less=(2,0,[]):=by unfold ofO;rw[if_pos h]
theorem ofO_wide{c:Str}{less:List Str}(h:¬ 2048<less.length)(h2:(∃ m ∈ less,m.length ≠ c.length)\/c=[]):ofO c less=(11,0,[]):=by unfold ofO;rw[if_neg h,if_pos h2]
theorem ofO_none{c:Str}{less:List Str}(h:¬ 2048<less.length)(h2:¬ ((∃ m ∈ less,m.length ≠ c.length)\/c=[]))(h3:termT c less=none):ofO c less=(0,(c.length:Int),[]):=by unfold ofO;rw[if_neg h,if_neg h2,h3]
theorem ofO_some{c:Str}{less:List Str}{t:Term}(h:¬ 2048<less.length)(h2:¬ ((∃ m ∈ less,m.length ≠ c.length)\/c=[]))(h3:termT c less=some t):ofO c less=bndO c.length (formT [t]):=by unfold ofO;rw[if_neg h,if_neg h2,h3]
theorem ofO_fine{c:Str}{less:List Str}(hc:CT c)(hl:∀ m ∈ less,CT m):Fine (ofO c less).2.1 (ofO c less).2.2:=by
 by_cases h:2048<less.length
 . rw[ofO_long h];exact Fine.nil (n:=0) (by decide) (by decide)
 by_cases h2:(∃ m ∈ less,m.length ≠ c.length)\/c=[]
 . rw[ofO_wide h h2];exact Fine.nil (n:=0) (by decide) (by decide)
 have hcn:CN c:=⟨hc,fun e=>h2 (.inr e)⟩
 have:=hc.len
 cases ht:termT c less with
 | none=>rw[ofO_none h h2 ht];exact Fine.nil (n:=(c.length:Int)) (by omega) (by omega)
 | some t=>
  rw[ofO_some h h2 ht]
  exact bndO_fine (n:=(c.length:Int)) (by omega) (by omega) (fun x hx=>by
   simp at hx
   subst hx
   exact (termT_good hcn (by simp) hl ht).1)
set_option maxRecDepth 100000 in
set_option maxHeartbeats 8000000 in
theorem of_at(c:Str)(less:List Str)(room:List (List D))(hc:CT c)(hl:∀ m ∈ less,CT m) :
    FSpec Tryz.prog T 52 [.agg (crow c),.lst 46 (less.map crow) room] (POut (ofO c less)):=by
 have htx:=text_at c hc
 have hlm:(less.map crow).length=less.length:=by simp
 have hcl:=hc.len
 refine FSpec.of_deferK 8 tok Tryz.func52 rfl Tryz.call52 (by simp) def_of (zd1:=[.i .i64 0,.nilS]) (zd2:=[.i .i64 3]) rfl rfl (by simp[Value.oneCell']) (by simp[Value.oneCell']) rfl ?_
 by_cases hlong:2048<less.length
 . rw[ofO_long hlong]
   (try (conv=>whnf));repeat' (first|refine Ok.seq ?_|refine OkL.cons ?_|((first|refine Ok.region tok ?_|refine Ok.cond ?_|refine Ok.ret ?_);conv=>whnf)|(refine bI ?_ ?_<;>intro<;>(conv=>whnf)<;>(try (exfalso;omega)))|fail)
   all_goals first
    | (exfalso;omega)
    | (refine Or.inl ?_;(conv=>whnf)
       exact⟨rfl,_,rfl,PSp.nil 0⟩)
 (try (conv=>whnf));repeat' (first|refine OkL.cons ?_|((first|refine Ok.region tok ?_|refine Ok.cond ?_);conv=>whnf)|refine Ok.block ?_|(refine Ok.skip ?_;conv=>whnf)|(refine Or.inl ?_;(conv=>whnf);(repeat (refine aI ?_;conv=>whnf));refine⟨_,htx,rfl,?_⟩;conv=>whnf)|(refine bI ?_ ?_<;>intro<;>(conv=>whnf)<;>(try (exfalso;omega)))|fail)
 all_goals first
  | (exfalso;omega)
  | skip
 refine Ok.loopU [1,2,4,5,6,18,19] [20] 0 3 (fun (i:Nat)=>[.i .i64 (i:Nat)]) (fun (i:Nat) (_:List (List D))=>[crow c,[.i .i64 0,.nilS],[.i .i64 0]]) (fun _ r=>r) (fun (i:Nat)=>i<=less.length/\∀ m ∈ less.take i,m.length=c.length) (fun (i:Nat)=>less.length - i) (0) (⟨Nat.zero_le _,by simp⟩) ?_;(conv=>whnf);refine⟨by ((conv=>whnf);first|rfl|(simp[envCat,List.take_of_length_le,crow,trow,srow,drow];done)|(simp[envCat,List.take_of_length_le,crow,trow,srow,drow];rw[IntKind.wrap_i64];omega)),?_⟩
 rintro i ⟨hi,hw⟩
 (conv=>whnf)
 by_cases hil:i<less.length
 . obtain⟨m,hm⟩:∃ m,less[i]? = some m:=⟨_,List.getElem?_eq_getElem hil⟩
   have hmI:less[((i:Nat):Int).toNat]? = some m:=hm
   have hmc:=hl m (List.mem_of_getElem? hm)
   have hmx:=text_at m hmc
   by_cases hml:m.length=c.length
   . (try (conv=>whnf));repeat' (first|refine Ok.seq ?_|((first|refine Ok.region tok ?_|refine Ok.cond ?_);conv=>whnf)|refine Ok.block ?_|((first|refine Ok.skip ?_|refine nI ?_|refine ix _ (by assumption) ?_);conv=>whnf)|(refine Or.inl ?_;(conv=>whnf);(repeat (refine aI ?_;conv=>whnf));refine⟨_,hmx,rfl,?_⟩;conv=>whnf)|(refine bI ?_ ?_<;>intro<;>(conv=>whnf)<;>(try (exfalso;omega)))|fail)
     all_goals first
      | (exfalso;omega)
      | (refine⟨i+1,by omega,⟨by omega,fun x hx=>by
          rw[take_snoc hm] at hx
          rcases List.mem_append.1 hx with hx|hx
          . exact hw x hx
          . simp at hx;rw[hx];exact hml⟩,?_⟩
         (conv=>whnf)
         rfl)
   . rw[ofO_wide hlong (.inl ⟨m,List.mem_of_getElem? hm,hml⟩)]
     (try (conv=>whnf));repeat' (first|refine Ok.seq ?_|((first|refine Ok.region tok ?_|refine Ok.cond ?_);conv=>whnf)|refine Ok.block ?_|((first|refine Ok.skip ?_|refine Ok.ret ?_|refine ix _ (by assumption) ?_);conv=>whnf)|(refine Or.inl ?_;(conv=>whnf);(repeat (refine aI ?_;conv=>whnf));refine⟨_,hmx,rfl,?_⟩;conv=>whnf)|(refine bI ?_ ?_<;>intro<;>(conv=>whnf)<;>(try (exfalso;omega)))|fail)
     all_goals first
      | (exfalso;omega)
      | (refine Or.inl ?_;(conv=>whnf)
         exact⟨rfl,_,rfl,PSp.nil 0⟩)
 have hie:i=less.length:=by omega
 subst hie
 rw[List.take_length] at hw
 by_cases hc0:c=[]
 . rw[ofO_wide hlong (.inr hc0)]
   have hc00:c.length=0:=by rw[hc0];rfl
   (try (conv=>whnf));repeat' (first|refine Ok.seq ?_|refine OkL.cons ?_|((first|refine Ok.region tok ?_|refine Ok.cond ?_|refine Ok.exit ?_|refine Ok.ret ?_);conv=>whnf)|(refine bI ?_ ?_<;>intro<;>(conv=>whnf)<;>(try (exfalso;omega)))|fail)
   all_goals first
    | (exfalso;omega)
    | (refine Or.inl ?_;(conv=>whnf)
       exact⟨rfl,_,rfl,PSp.nil 0⟩)
 have hpos:0<c.length:=List.length_pos_iff.2 hc0
 have h2:¬ ((∃ m ∈ less,m.length ≠ c.length)\/c=[]):=fun h=>h.elim (fun⟨m,hm,hne⟩=>hne (hw m hm)) hc0
 have hcn:CN c:=⟨hc,hc0⟩
 have hnew:∀ rl room,rl=List.map lrow [⟨less,room⟩]->∀ room2,FSpec Tryz.prog T 72 [.agg (crow c),.lst 58 rl room2] (NewT c less):=fun rl room h room2=>by
  have:=newTerm_at c [⟨less,room⟩] (room:=room2) hcn (by
   intro x hx m hm
   simp at hx
   subst hx
   exact hl m hm) (by simp[allL];omega) (by simp) h
  rwa [show allL [⟨less,room⟩]=less by simp[allL]] at this
 (try (conv=>whnf));repeat' (first|refine Ok.seq ?_|refine OkL.cons ?_|((first|refine Ok.region tok ?_|refine Ok.cond ?_|refine Ok.skip ?_|refine Ok.exit ?_);conv=>whnf)|(refine bI ?_ ?_<;>intro<;>(conv=>whnf)<;>(try (exfalso;omega)))|fail)
 all_goals first
  | (exfalso;omega)
  | skip
 refine OkL.nil ?_
 (conv=>whnf)
 refine⟨1,2,rfl,rfl,by decide,by decide,by decide,rfl,?_⟩
 have hnb:noneB (c.length:Int)=c.length:=by unfold noneB;rw[if_neg (by omega)]
 cases ht0:termT c less with
 | none=>
  rw[ofO_none hlong h2 ht0]
  (try (conv=>whnf));repeat' (first|refine Ok.seq ?_|refine OkL.cons ?_|((first|refine Ok.region tok ?_|refine Ok.cond ?_|refine Ok.skip ?_|refine Ok.ret ?_);conv=>whnf)|(refine Or.inr (Or.inl ?_);(conv=>whnf);(repeat (refine aI ?_;conv=>whnf));refine⟨_,hnew _ room (by simp[lrow,List.take_of_length_le,List.drop_of_length_le]) _ , ?_⟩;rintro _ _ ⟨rfl,(⟨ht,rfl⟩|⟨t,rm4,ht,rfl⟩)⟩<;>(conv=>whnf))|(refine Or.inr (Or.inl ?_);(conv=>whnf);(repeat (refine aI ?_;conv=>whnf));refine⟨_,none_at (c.length:Int),?_⟩;rintro _ _ ⟨rfl,rfl⟩<;>(conv=>whnf))|(refine bI ?_ ?_<;>intro<;>(conv=>whnf)<;>(try (exfalso;omega)))|fail)
  all_goals first
   | (rename_i h;exact absurd trivial h)
   | (rename_i h;cases h;done)
   | (exfalso;rw[ht0] at ht;cases ht;done)
   | (refine Or.inl ?_;(conv=>whnf)
      rw[hnb]
      exact⟨rfl,_,rfl,PSp.nil _⟩)
 | some t0=>
  rw[ofO_some hlong h2 ht0]
  obtain⟨hg0,_⟩:=termT_good (n:=c.length) hcn rfl hl ht0
  have hle0:t0.less.length<=1048576:=by have:=termT_sz ht0;omega
  by_cases hsz:szT (formT [t0])<=128
  . rw[bndO_le hsz]
    have hform:∀ t rm4,termT c less=some t->FSpec Tryz.prog T 65 [.i .i64 (c.length:Int),.lst 112 [trow ⟨t,rm4⟩] []] (fun d rows=>∃ (ks:List TR) (rm:List (List D)),d = .agg [.i .i64 (c.length:Int),.lst 112 (ks.map trow) rm]/\rows=[]/\ks.map TR.t=formT [t0]):=fun t rm4 ht=>by
     rw[ht0] at ht
     cases ht
     refine FSpec.mono (form_at (room:=[]) (c.length:Int) c.length [⟨t0,rm4⟩] (by simp) (by
      intro x hx
      simp at hx
      subst hx
      exact hg0.to hle0) rfl (by simpa using hsz)) ?_
     rintro d rows ⟨ks,rm,h1,h2,h3,_⟩
     exact⟨ks,rm,h1,h2,by simpa using h3⟩
    (try (conv=>whnf));repeat' (first|refine Ok.seq ?_|refine OkL.cons ?_|((first|refine Ok.region tok ?_|refine Ok.cond ?_|refine Ok.skip ?_|refine Ok.ret ?_);conv=>whnf)|(refine Or.inr (Or.inl ?_);(conv=>whnf);(repeat (refine aI ?_;conv=>whnf));refine⟨_,hnew _ room (by simp[lrow,List.take_of_length_le,List.drop_of_length_le]) _ , ?_⟩;rintro _ _ ⟨rfl,(⟨ht,rfl⟩|⟨t,rm4,ht,rfl⟩)⟩<;>(conv=>whnf))|(refine Or.inr (Or.inl ?_);(conv=>whnf);(repeat (refine aI ?_;conv=>whnf));refine⟨_,hform t rm4 ht , ?_⟩;rintro _ _ ⟨ks3,rm3,rfl,rfl,hks3⟩<;>(conv=>whnf))|(refine bI ?_ ?_<;>intro<;>(conv=>whnf)<;>(try (exfalso;omega)))|fail)
    all_goals first
     | (rename_i h;exact absurd trivial h)
     | (rename_i h;cases h;done)
     | (exfalso;rw[ht0] at ht;cases ht;done)
     | (refine Or.inl ?_;(conv=>whnf)
        exact⟨rfl,_,rfl,ks3,rm3,rfl,hks3⟩)
  . rw[bndO_gt (by omega)]
    (try (conv=>whnf));repeat' (first|(refine Ok.region_pan (id:=15) tok 3 ?_;conv=>whnf)|refine Ok.seq ?_|refine OkL.cons ?_|((first|refine Ok.region tok ?_|refine Ok.cond ?_|refine Ok.skip ?_);conv=>whnf)|(refine Or.inr (Or.inl ?_);(conv=>whnf);(repeat (refine aI ?_;conv=>whnf));refine⟨_,hnew _ room (by simp[lrow,List.take_of_length_le,List.drop_of_length_le]) _ , ?_⟩;rintro _ _ ⟨rfl,(⟨ht,rfl⟩|⟨t,rm4,ht,rfl⟩)⟩<;>(conv=>whnf))|(refine bI ?_ ?_<;>intro<;>(conv=>whnf)<;>(try (exfalso;omega)))|(refine aJ ?_;conv=>whnf)|fail)
    all_goals first
     | (rename_i h;exact absurd trivial h)
     | (rename_i h;cases h;done)
     | (exfalso;rw[ht0] at ht;cases ht;done)
     | skip
    rw[ht0] at ht
    cases ht
    refine⟨_,form_pan (c.length:Int) c.length [⟨t0,rm4⟩] (by simp) (by
     intro x hx
     simp at hx
     subst hx
     exact hg0.to hle0) rfl (by simp;omega),?_⟩
    (conv=>whnf)
    refine⟨rfl,1,2,_,_,rfl,rfl,rfl,rfl,rfl,rfl,by decide,rfl,?_⟩
    (conv=>whnf)
    refine Or.inl ?_;(conv=>whnf)
    exact⟨rfl,_,rfl,PSp.nil 0⟩
end Go.Proofs.YtaiondckookpiaaGreatDoor
namespace Go.Proofs.YtaiondckookpiaaGreatDoor
open Go Go.Vx
def NewTO(p:Str)(less:List Str)(d:D)(rows:Vx.Rows):Prop:=
 (termT p less=none/\d = .tup [.agg [.i .i64 0,.i .u64 0,.i .u64 0,.i .u64 0,.i .u64 0,.i .u64 0,.i .u64 0,.i .u64 0,.i .u64 0,.lst 46 [] [],.s []],.b False]/\rows=[]) \/
 ∃ t rm,termT p less=some t/\d = .tup [.agg (crow t.p++[.own 0 t.less.length,.s t.key]),.b True]/\rows=[some (46,t.less.map crow++List.map crow rm)]
set_option maxRecDepth 100000 in
set_option maxHeartbeats 8000000 in
theorem newTermO_at(p:Str)(lss:List LR){rl room:List (List D)}(hp:CN p)(hok:∀ x ∈ lss,∀ m ∈ x.l,CT m)(hn:(allL lss).length<=100000)(h1:lss.length<=100000)(h:rl=lss.map lrow) :
    FSpec Tryz.prog T 72 [.agg (crow p),.lst 58 rl room] (NewTO p (allL lss)):=by
 subst h
 have hll:(lss.map lrow).length=lss.length:=by simp
 refine FSpec.of_ok tok Tryz.func72 rfl Tryz.call72 (by simp) ?_
 (try (conv=>whnf));repeat' (first|refine Ok.seq ?_|(refine Ok.region tok ?_;conv=>whnf)|refine Ok.block ?_|fail)
 refine Ok.ghost 6 46 rfl ?_
 (conv=>whnf)
 refine Ok.loopU [2,4,21,22] [6,23] 1 2 (fun (i:Nat)=>[.own 0 (metL p (allL (lss.take i))).length,.i .i64 (i:Nat)]) (fun _ b=>b) (fun (i:Nat) (_:Vx.Rows)=>[some (46,(metL p (allL (lss.take i))).map crow)]) (fun (i:Nat)=>i<=lss.length) (fun (i:Nat)=>lss.length - i) (0) (Nat.zero_le _) ?_;(conv=>whnf);refine⟨by ((conv=>whnf);first|rfl|(simp[envCat,List.take_of_length_le,cells9,crow,trow2,kf_zero];done)|(simp[envCat,List.take_of_length_le,cells9,crow,trow2,kf_zero];rw[IntKind.wrap_i64];omega)),?_⟩
 rintro i hi
 (conv=>whnf)
 by_cases hil:i<lss.length
 . obtain⟨x,hx⟩:∃ x,lss[i]? = some x:=⟨_,List.getElem?_eq_getElem hil⟩
   have hxo:=hok x (List.mem_of_getElem? hx)
   have hxl:(x.l.map crow).length=x.l.length:=by simp
   have hat:=allL_take hx
   have hxl2:x.l.length<=100000:=by have:=allL_le2 hx x.l.length;rw[List.take_length,List.length_append] at this;omega
   (try (conv=>whnf));repeat' (first|refine Ok.seq ?_|((first|refine Ok.region tok ?_|refine Ok.cond ?_);conv=>whnf)|refine Ok.block ?_|((first|refine Ok.skip ?_|refine ix _ (by assumption) ?_);conv=>whnf)|(refine bI ?_ ?_<;>intro<;>(conv=>whnf)<;>(try (exfalso;omega)))|fail)
   refine Ok.loopU [2,4,21,22,23,27,28] [6,29] 1 2 (fun (j:Nat)=>[.own 0 (metL p (allL (lss.take i)++x.l.take j)).length,.i .i64 (j:Nat)]) (fun _ b=>b) (fun (j:Nat) (_:Vx.Rows)=>[some (46,(metL p (allL (lss.take i)++x.l.take j)).map crow)]) (fun (j:Nat)=>j<=x.l.length) (fun (j:Nat)=>x.l.length - j) (0) (Nat.zero_le _) ?_;(conv=>whnf);refine⟨by ((conv=>whnf);first|rfl|(simp[envCat,List.take_of_length_le,cells9,crow,trow2,kf_zero];done)|(simp[envCat,List.take_of_length_le,cells9,crow,trow2,kf_zero];rw[IntKind.wrap_i64];omega)),?_⟩
   rintro j hj
   have hle:=allL_le2 hx j
   have hle2:=metL_le p (allL (lss.take i)++x.l.take j)
   generalize hM:metL p (allL (lss.take i)++x.l.take j)=M at *
   have hMl:(M.map crow).length=M.length:=by simp
   (conv=>whnf)
   by_cases hjl:j<x.l.length
   . obtain⟨m,hm⟩:∃ m,x.l[j]? = some m:=⟨_,List.getElem?_eq_getElem hjl⟩
     have hmo:=hxo m (List.mem_of_getElem? hm)
     have hsp:=meet_at m p hmo hp.1
     have hnext:metL p (allL (lss.take i)++x.l.take (j+1))=M++metL p [m]:=by rw[take_snoc hm,<- List.append_assoc,metL_app,hM]
     cases hmt:meetT m p with
     | none=>
      rw[hmt] at hsp
      (try (conv=>whnf));repeat' (first|refine Ok.seq ?_|((first|refine Ok.region tok ?_|refine Ok.cond ?_);conv=>whnf)|refine Ok.block ?_|((first|refine Ok.skip ?_|refine nI ?_|refine ix _ (by assumption) ?_);conv=>whnf)|(refine Or.inr (Or.inl ?_);(conv=>whnf);(repeat (refine aI ?_;conv=>whnf));refine⟨_,hsp,?_⟩;rintro _ _ ⟨rfl,rfl⟩;conv=>whnf)|((first|refine Alt2.l (aI ?_)|refine⟨_,.inl ⟨rfl,rfl⟩,?_⟩|refine⟨_,_,rfl,rfl,?_⟩);conv=>whnf)|(refine bI ?_ ?_<;>intro<;>(conv=>whnf)<;>(try (exfalso;omega)))|(refine aJ ?_;conv=>whnf)|fail)
      . rename_i h2
        exact absurd h2 (by simp)
      . refine⟨j+1,by omega,by omega,?_⟩
        rw[hnext,metL_none hmt,List.append_nil]
        (conv=>whnf)
        rfl
     | some c=>
      rw[hmt] at hsp
      (try (conv=>whnf));repeat' (first|refine Ok.seq ?_|((first|refine Ok.region tok ?_|refine Ok.cond ?_);conv=>whnf)|refine Ok.block ?_|((first|refine Ok.skip ?_|refine nI ?_|refine ix _ (by assumption) ?_);conv=>whnf)|(refine Or.inr (Or.inl ?_);(conv=>whnf);(repeat (refine aI ?_;conv=>whnf));refine⟨_,hsp,?_⟩;rintro _ _ ⟨rfl,rfl⟩;conv=>whnf)|((first|refine Alt2.l (aI ?_)|refine⟨_,.inl ⟨rfl,rfl⟩,?_⟩|refine⟨_,_,rfl,rfl,?_⟩);conv=>whnf)|(refine bI ?_ ?_<;>intro<;>(conv=>whnf)<;>(try (exfalso;omega)))|(refine aJ ?_;conv=>whnf)|fail)
      . refine⟨j+1,by omega,by omega,?_⟩
        rw[hnext,metL_some hmt]
        (conv=>whnf)
        simp[envCat]
      . rename_i h2
        exact absurd rfl h2
   . have hje:j=x.l.length:=by omega
     subst hje
     (try (conv=>whnf));repeat' (first|refine Ok.seq ?_|((first|refine Ok.region tok ?_|refine Ok.cond ?_|refine Ok.exit ?_|refine nI ?_);conv=>whnf)|(refine bI ?_ ?_<;>intro<;>(conv=>whnf)<;>(try (exfalso;omega)))|fail)
     refine⟨i+1,by omega,by omega,?_⟩
     rw[hat]
     rw[List.take_length] at hM
     rw[hM]
     (conv=>whnf)
     rfl
 . have hie:i=lss.length:=by omega
   subst hie
   rw[List.take_length]
   generalize hM:metL p (allL lss)=M
   have hML:M.length<=100000:=by have:=metL_le p (allL lss);rw[hM] at this;omega
   have hMl:(M.map crow).length=M.length:=by simp
   have hMok:∀ c ∈ M,CN c/\c.length=p.length:=by
    intro c hc
    rw[<- hM] at hc
    obtain⟨m,hm1,hm2⟩:=List.mem_filterMap.1 hc
    have hmc:CT m:=by
     unfold allL at hm1
     obtain⟨y,hy1,hy2⟩:=List.mem_flatten.1 hm1
     obtain⟨z,hz1,rfl⟩:=List.mem_map.1 hy1
     exact hok z hz1 m hy2
    have h3:=meetT_ct hm2 hmc hp.1
    have h4:=meetL_len ((meetT_eq h3.2.2).symm.trans hm2)
    exact⟨⟨h3.1,fun e=>hp.2 (by rw[e] at h4;exact List.eq_nil_of_length_eq_zero (by simpa using h4.2))⟩,h4.2.symm⟩
   (try (conv=>whnf));repeat' (first|refine Ok.seq ?_|((first|refine Ok.region tok ?_|refine Ok.cond ?_);conv=>whnf)|refine Ok.block ?_|(refine Ok.exit ?_;conv=>whnf)|(refine Or.inr (Or.inr (Or.inr (Or.inl ?_)));(conv=>whnf);(repeat (refine aI ?_;conv=>whnf));refine⟨_,greatestC_at M (by omega) (fun c hc=>(hMok c hc).1) (take_all crow M) , ?_⟩;rintro _ _ ⟨W,hW,rfl,rfl⟩<;>(refine And.intro (by simp[gRowsP,grounds,D.ground,cells9,crow,trow2,kf_zero]) ?_;conv=>whnf))|(refine bI ?_ ?_<;>intro<;>(conv=>whnf)<;>(try (exfalso;omega)))|fail)
   have hWk:=hW.n
   have hWt:=hW.tk
   have hWw:=hW.w
   rw[List.take_length] at hWk hWt
   have hKM:∀ c ∈ grG inL M,c ∈ M:=grG_sub inL M
   have hvoid:p ∈ grG inL M->termT p (allL lss)=none:=fun h=>termT_void (by rw[hM];exact h)
   have hsome:∀ ks:List Str,p ∉ grG inL M->ks.Perm (grG inL M)->ks.Pairwise (fun t u=>Op.bytesLess u t ≠ true)->termT p (allL lss)=some ⟨p,ks⟩:=fun ks h1 h2 h3=>termT_some (by rw[hM];exact h1) (by rw[hM];exact h2) h3
   generalize hK:grG inL M=K at *
   have hKok:∀ c ∈ K,CN c/\c.length=p.length:=fun c hc=>hMok c (hKM c hc)
   have hKl:K.length<=100000:=by omega
   have hWl:(W.map crow).length=W.length:=by simp
   have hWg:∀ i,i<K.length->W[i]? = K[i]?:=fun i hi=>by
    have:=congrArg (fun z:List Str=>z[i]?) hWt
    simp only[List.getElem?_take,if_pos hi] at this
    exact this
   refine Ok.loopU [2,4,6,48,49] [50] 2 2 (fun (i:Nat)=>[.i .i64 (i:Nat)]) (fun _ b=>b) (fun _ r=>r) (fun (i:Nat)=>i<=K.length/\∀ m ∈ K.take i,m ≠ p) (fun (i:Nat)=>K.length - i) (0) (⟨Nat.zero_le _,by simp⟩) ?_;(conv=>whnf);refine⟨by ((conv=>whnf);first|rfl|(simp[envCat,List.take_of_length_le,cells9,crow,trow2,kf_zero];done)|(simp[envCat,List.take_of_length_le,cells9,crow,trow2,kf_zero];rw[IntKind.wrap_i64];omega)),?_⟩
   rintro i ⟨hi2,hne⟩
   (conv=>whnf)
   by_cases hil2:i<K.length
   . obtain⟨c,hc⟩:∃ c,K[i]? = some c:=⟨_,List.getElem?_eq_getElem hil2⟩
     have hWi:W[((i:Nat):Int).toNat]? = some c:=by rw[toNat_cast,hWg i hil2,hc]
     have hcK:=hKok c (List.mem_of_getElem? hc)
     (try (conv=>whnf));repeat' (first|refine Ok.seq ?_|((first|refine Ok.region tok ?_|refine Ok.cond ?_);conv=>whnf)|refine Ok.block ?_|((first|refine Ok.skip ?_|refine rd rfl (by assumption) ?_);conv=>whnf)|(refine bI ?_ ?_<;>intro<;>(conv=>whnf)<;>(try (exfalso;omega)))|(refine aJ ?_;conv=>whnf)|fail)
     refine⟨_,eqCube,by kernel_rfl,?_⟩
     (conv=>whnf)
     (try (conv=>whnf));repeat' (first|refine Ok.seq ?_|((first|refine Ok.region tok ?_|refine Ok.cond ?_|refine Ok.skip ?_|refine Ok.ret ?_|refine nI ?_);conv=>whnf)|(refine bI ?_ ?_<;>intro<;>(conv=>whnf)<;>(try (exfalso;omega)))|fail)
     . rename_i he
       refine Or.inr (Or.inl ?_);(conv=>whnf)
       refine .inl ⟨hvoid ?_,rfl,rfl⟩
       rw[<- crow_inj hcK.1.1 hp.1 he]
       exact List.mem_of_getElem? hc
     . rename_i he
       refine⟨i+1,by omega,⟨by omega,fun z hz=>?_⟩,?_⟩
       . rw[take_snoc hc] at hz
         rcases List.mem_append.1 hz with hz|hz
         . exact hne z hz
         . simp at hz
           rw[hz]
           intro e
           rw[e] at he
           exact he (eqDs_self p)
       . (conv=>whnf)
         rfl
   . have hie2:i=K.length:=by omega
     subst hie2
     rw[List.take_length] at hne
     have hpK:p ∉ K:=fun h=>hne p h rfl
     (try (conv=>whnf));repeat' (first|refine Ok.seq ?_|((first|refine Ok.region tok ?_|refine Ok.cond ?_);conv=>whnf)|refine Ok.block ?_|((first|refine Ok.exit ?_|refine⟨_,_,rfl,rfl,?_⟩);conv=>whnf)|(refine bI ?_ ?_<;>intro<;>(conv=>whnf)<;>(try (exfalso;omega)))|((first|refine aJ ?_|refine⟨_,rfl,?_⟩);conv=>whnf)|fail)
     refine Ok.loopU [2,4,6,15,62,63] [64] 3 3 (fun (i:Nat)=>[.i .i64 (i:Nat)]) (fun _ b=>b) (fun (i:Nat) (_:Vx.Rows)=>[some (46,M.map crow),some (46,W.map crow),some (164,((K.map dup).take i++List.replicate (K.length - i) ([],[])).map trow2)]) (fun (i:Nat)=>i<=K.length) (fun (i:Nat)=>K.length - i) (0) (Nat.zero_le _) ?_;(conv=>whnf);refine⟨by ((conv=>whnf);first|rfl|(simp[envCat,List.take_of_length_le,cells9,crow,trow2,kf_zero];done)|(simp[envCat,List.take_of_length_le,cells9,crow,trow2,kf_zero];rw[IntKind.wrap_i64];omega)),?_⟩
     rintro i hi3
     have hdl:(K.map dup).length=K.length:=by simp
     have hrl:((K.map dup).take i++List.replicate (K.length - i) (([],[]):Str × Str)).length=K.length:=by simp;omega
     have hrl2:(((K.map dup).take i++List.replicate (K.length - i) (([],[]):Str × Str)).map trow2).length=K.length:=by rw[List.length_map,hrl]
     (conv=>whnf)
     by_cases hil3:i<K.length
     . obtain⟨c,hc⟩:∃ c,K[i]? = some c:=⟨_,List.getElem?_eq_getElem hil3⟩
       have hWi:W[((i:Nat):Int).toNat]? = some c:=by rw[toNat_cast,hWg i hil3,hc]
       have hcK:=hKok c (List.mem_of_getElem? hc)
       have hdi:(K.map dup)[i]? = some (dup c):=by simp[hc]
       have hz:=room_at2 (ks:=K.map dup) (i:=i) (([],[]):Str × Str) hdl (by omega)
       have hst:=room_set2 (z:=(([],[]):Str × Str)) hdl hdi
       generalize hL:(K.map dup).take i++List.replicate (K.length - i) (([],[]):Str × Str)=L at *
       have hL2:∀ y:Str × Str,(L.set i y)[i]? = some y:=fun y=>List.getElem?_set_self (by omega)
       have hL3:∀ y:Str × Str,((L.set i y).map trow2).length=K.length:=fun y=>by simp[hrl]
       (try (conv=>whnf));repeat' (first|refine Ok.seq ?_|((first|refine Ok.region tok ?_|refine Ok.region_plan (id:=24) tok follows [(5,6,[]),(0,9,[]),(4,9,[]),(5,9,[6]),(6,9,[]),(0,12,[]),(2,12,[]),(4,12,[]),(5,12,[]),(6,12,[]),(9,12,[])] [.q 0,.q 1,.q 2,.q 3,.q 4,.q 5,.l 6,.q 7,.q 8,.l 9,.q 10,.q 11,.l 12] (by kernel_rfl) ?_|refine Ok.cond ?_);conv=>whnf)|refine Ok.block ?_|(refine Ok.skip ?_;conv=>whnf)|(refine Or.inl ?_;(conv=>whnf);(repeat (refine aI ?_;conv=>whnf));refine⟨_,text_at c hcK.1.1,rfl,?_⟩;conv=>whnf)|(refine rd rfl (by assumption) ?_;conv=>whnf)|(refine bI ?_ ?_<;>intro<;>(conv=>whnf)<;>(try (exfalso;omega)))|(refine aJ ?_;conv=>whnf)|fail)
       refine st (c,[]) hz (by simp) (by simp[setCells]) ?_
       rw[toNat_cast]
       (try (conv=>whnf));repeat' (first|(refine aJ ?_;conv=>whnf)|fail)
       refine st (c,c) (hL2 (c,[])) (by simp) (by simp[setCells]) ?_
       rw[toNat_cast,set_set_same,show ((c,c):Str × Str)=dup c from rfl,hst]
       (try (conv=>whnf));repeat' (first|((first|refine Ok.region tok ?_|refine nI ?_);conv=>whnf)|fail)
       refine⟨i+1,by omega,by omega,?_⟩
       (conv=>whnf)
       rfl
     . have hie3:i=K.length:=by omega
       subst hie3
       rw[Nat.sub_self,List.replicate_zero,List.append_nil,List.take_of_length_le (by simp)]
       have hkeys:∀ x ∈ ((K.map dup).map trow2).take K.length,∃ l,x[9]? = some (.s l):=by
        intro x hx
        obtain⟨y,_,rfl⟩:=List.mem_map.1 (List.mem_of_mem_take hx)
        exact⟨y.2,rfl⟩
       have hdl2:K.length<=((K.map dup).map trow2).length:=by simp
       (try (conv=>whnf));repeat' (first|(refine Ok.sortSlice tok sort_told (by (conv=>whnf);exact⟨rfl,rfl⟩) rfl rfl rfl hdl2 rfl (by decide) (by decide) hkeys (by omega) ?_)|refine Ok.seq ?_|((first|refine Ok.region tok ?_|refine Ok.cond ?_|refine Ok.exit ?_);conv=>whnf)|(refine bI ?_ ?_<;>intro<;>(conv=>whnf)<;>(try (exfalso;omega)))|fail)
       intro ys hperm hup
       rw[take_all2 (by simp:((K.map dup).map trow2).length=K.length)] at hperm
       rw[drop_all2 (by simp:((K.map dup).map trow2).length=K.length),List.append_nil]
       obtain⟨zs,hz1,rfl⟩:=perm_map_ex hperm _ rfl
       obtain⟨ks,hks,rfl⟩:=perm_map_ex hz1 _ rfl
       have hsort:ks.Pairwise fun t u=>Op.bytesLess u t ≠ true:=by
        unfold RowsUp at hup
        rw[List.pairwise_map,List.pairwise_map] at hup
        refine hup.imp fun {a b} h=>?_
        have h2:=h a b rfl rfl
        rw[h2]
        decide
       have hterm:=hsome ks hpK hks hsort
       have hkl:ks.length=K.length:=hks.length_eq
       have hkok:∀ c ∈ ks,CN c/\c.length=p.length:=fun c hc=>hKok c (hks.mem_iff.1 hc)
       clear hup hperm hz1 hsort hsome hvoid hkeys
       have hpl:=hp.1.len
       (conv=>whnf)
       refine Ok.seq ?_
       (refine Ok.region tok ?_;conv=>whnf)
       refine Ok.ghostB 3 1 5 rfl rfl ?_
       (conv=>whnf)
       (try (conv=>whnf));repeat' (first|refine Ok.seq ?_|(refine Ok.region tok ?_;conv=>whnf)|(refine Or.inl ?_;(conv=>whnf);(repeat (refine aI ?_;conv=>whnf));refine⟨_,text_at p hp.1,rfl,?_⟩;conv=>whnf)|fail)
       refine Or.inr (Or.inr (Or.inl ?_));(conv=>whnf);refine⟨_,_,Tryz.func110,rfl,Tryz.call110,?_⟩;(conv=>whnf)
       (try (conv=>whnf));repeat' (first|refine Ok.seq ?_|(refine Ok.region tok ?_;conv=>whnf)|fail)
       refine Or.inr (Or.inr (Or.inr (Or.inr ?_)))
       (conv=>whnf)
       refine effW_fresh copyAt rfl ?_
       (conv=>whnf)
       (try (conv=>whnf));repeat' (first|((refine And.intro byteT ?_);conv=>whnf)|refine Ok.seq ?_|(refine Ok.region tok ?_;conv=>whnf)|refine Ok.block ?_|((first|refine Ok.ret ?_|refine⟨_,_,rfl,rfl,?_⟩|refine aJ ?_);conv=>whnf)|fail)
       refine Ok.loopU [2,4,6,18,88,89] [90] 4 4 (fun (i:Nat)=>[.i .i64 (i:Nat)]) (fun (i:Nat) (_:List (List D))=>[crow p,tzero,[.own 2 K.length],[.bp 3 0,.own 3 (kf p ks i).length]]) (fun (i:Nat) (_:Vx.Rows)=>[some (46,M.map crow),some (46,(ks.take i++W.drop i).map crow),some (164,(ks.map dup).map trow2),some (5,(kf p ks i).map bcell)]) (fun (i:Nat)=>i<=K.length) (fun (i:Nat)=>K.length - i) (0) (Nat.zero_le _) ?_;(conv=>whnf);refine⟨by ((conv=>whnf);first|rfl|(simp[envCat,List.take_of_length_le,cells9,crow,trow2,kf_zero];done)|(simp[envCat,List.take_of_length_le,cells9,crow,trow2,kf_zero];rw[IntKind.wrap_i64];omega)),?_⟩
       rintro i hi4
       have hfl:(kf p ks i).length<=256+100000*256:=kf_len hpl (fun c hc=>(hkok c hc).1.1.len) (by omega)
       have hbl:((kf p ks i).map bcell).length=(kf p ks i).length:=List.length_map _
       have htl:((ks.map dup).map trow2).length=K.length:=by simp[hkl]
       have hml:((ks.take i++W.drop i).map crow).length=W.length:=by simp;omega
       have hml2:∀ y,(((ks.take i++W.drop i).set i y).map crow).length=W.length:=fun y=>by simp;omega
       (conv=>whnf)
       by_cases hil4:i<K.length
       . obtain⟨c,hc⟩:∃ c,ks[i]? = some c:=⟨_,List.getElem?_eq_getElem (by omega)⟩
         have hco:=hkok c (List.mem_of_getElem? hc)
         have hcl:=hco.1.1.len
         have hdi:(ks.map dup)[((i:Nat):Int).toNat]? = some (dup c):=by simp[hc]
         obtain⟨y,hy⟩:=over_at (ks:=ks) (W:=W) (i:=i) (by omega) (by omega)
         have hst:=over_set (W:=W) hc (by omega)
         have hnx:=kf_step (p:=p) hc
         (try (conv=>whnf));repeat' (first|refine Ok.seq ?_|((first|refine Ok.region tok ?_|refine Ok.cond ?_);conv=>whnf)|refine Ok.block ?_|((first|refine Ok.skip ?_|refine rd rfl (by assumption) ?_);conv=>whnf)|(refine bI ?_ ?_<;>intro<;>(conv=>whnf)<;>(try (exfalso;omega)))|(refine aJ ?_;conv=>whnf)|fail)
         refine st c hy (by simp) (by simp[setCells,dup]) ?_
         rw[toNat_cast]
         (try (conv=>whnf));repeat' (first|(refine Ok.region tok ?_;conv=>whnf)|fail)
         refine Or.inr (Or.inr (Or.inl ?_));(conv=>whnf);refine⟨_,_,Tryz.func110,rfl,Tryz.call110,?_⟩;(conv=>whnf)
         (try (conv=>whnf));repeat' (first|refine Ok.seq ?_|(refine Ok.region tok ?_;conv=>whnf)|fail)
         refine Or.inr (Or.inr (Or.inr (Or.inr ?_)))
         (conv=>whnf)
         refine effW_used copyAt rfl ?_
         (conv=>whnf)
         have hdc:(dup c).2.length<=256:=hcl
         (try (conv=>whnf));repeat' (first|((refine And.intro byteT ?_);conv=>whnf)|refine Ok.seq ?_|((first|refine Ok.region tok ?_|refine Ok.ret ?_|refine nI ?_|refine⟨_,_,rfl,rfl,?_⟩|refine aJ ?_);conv=>whnf)|fail)
         refine⟨i+1,by omega,by omega,?_⟩
         rw[<- hst,hnx]
         (conv=>whnf)
         simp[envCat,dup]
       . have hie4:i=K.length:=by omega
         subst hie4
         (try (conv=>whnf));repeat' (first|refine Ok.seq ?_|((first|refine Ok.region tok ?_|refine Ok.region_plan (id:=35) tok follows [(0,4,[]),(2,4,[])] [.q 0,.q 1,.l 2,.q 3,.l 4,.q 5] (by kernel_rfl) ?_|refine Ok.cond ?_|refine Ok.exit ?_);conv=>whnf)|(refine bI ?_ ?_<;>intro<;>(conv=>whnf)<;>(try (exfalso;omega)))|fail)
         have hkey:=kf_key (p:=p) hkl
         have hne0:kf p ks K.length ≠ []:=kf_ne hp.2
         have htk:((ks.take K.length++W.drop K.length).map crow).take K.length=ks.map crow:=by
          rw[<- hkl,List.take_length,List.map_append]
          exact List.take_left' (by simp)
         refine Or.inr (Or.inr (Or.inr ?_))
         (conv=>whnf)
         refine effK_string strAt rfl rfl rfl (by rw[hbl];exact Nat.le_refl _) (take_all bcell _) hne0 ?_
         (conv=>whnf)
         (try (conv=>whnf));repeat' (first|(refine Ok.ret ?_;conv=>whnf)|fail)
         refine Or.inr (Or.inl ?_);(conv=>whnf)
         refine .inr ⟨⟨p,ks⟩,W.drop K.length,hterm,?_,?_⟩
         . rw[hkey,<- hkl]
           rfl
         . rw[<- List.map_append,<- hkl,List.take_length]
end Go.Proofs.YtaiondckookpiaaGreatDoor
namespace Go.Proofs.YtaiondckookpiaaGreatDoor
open Go Go.Vx Go.RowKit
@[reducible] def trowX(t:Term)(xs zs:List (List D)):List D:=[.i .i64 (t.p.length:Int),.i .u64 ((wof (car t.p) 0).toNat:Int),.i .u64 ((wof (car t.p) 1).toNat:Int),.i .u64 ((wof (car t.p) 2).toNat:Int),.i .u64 ((wof (car t.p) 3).toNat:Int),.i .u64 ((wof (one t.p) 0).toNat:Int),.i .u64 ((wof (one t.p) 1).toNat:Int),.i .u64 ((wof (one t.p) 2).toNat:Int),.i .u64 ((wof (one t.p) 3).toNat:Int),.lst 46 xs zs,.s t.key]
theorem Ok.pubN{P:Program}{T:Tab}{s:St}{Q:Exit->St->Prop}{id:Nat}{ops:Array Oper}{dr:Bool}(r:Nat)(h:pubK r s [] fun _ s'=>Ok P T (.region id ops dr) Q s'):Ok P T (.region id ops dr) Q s:=Ok.pub r h
theorem gro_crow(l:List Str):∀ x ∈ l.map crow,grounds x=true:=fun x hx=>by
 obtain⟨c,_,rfl⟩:=List.mem_map.1 hx
 rfl
set_option maxRecDepth 100000 in
set_option maxHeartbeats 8000000 in
theorem ofN_at(c:Str)(less:List Str)(room:List (List D))(hc:CT c)(hl:∀ m ∈ less,CT m) :
    FSpecN Tryz.prog T 52 [.agg (crow c),.lst 46 (less.map crow) room] (POut (ofO c less)):=by
 have htx:=text_at c hc
 have hlm:(less.map crow).length=less.length:=by simp
 have hcl:=hc.len
 refine FSpecN.of_deferK 8 1 tok Tryz.func52 rfl Tryz.call52 (by simp) def_of (zd1:=[.i .i64 0,.nilS]) (zd2:=[.i .i64 3]) rfl rfl (by simp[Value.oneCell']) (by simp[Value.oneCell']) rfl ?_
 by_cases hlong:2048<less.length
 . rw[ofO_long hlong]
   (try (conv=>whnf));repeat' (first|refine Ok.seq ?_|refine OkL.cons ?_|((first|refine Ok.region tok ?_|refine Ok.cond ?_|refine Ok.ret ?_);conv=>whnf)|(refine bI ?_ ?_<;>intro<;>(conv=>whnf)<;>(try (exfalso;omega)))|fail)
   all_goals first
    | (exfalso;omega)
    | ((refine⟨_,Fg.keep [(4,.bp 1 0),(5,.bp 2 0)] (by intro x hx;simp at hx;rcases hx with rfl|rfl<;>exact⟨rfl,rfl⟩) rfl (by trivial),?_⟩;(conv=>whnf));refine Or.inl ?_;(conv=>whnf)
       exact⟨rfl,_,rfl,PSp.nil 0⟩)
 (try (conv=>whnf));repeat' (first|refine OkL.cons ?_|((first|refine Ok.region tok ?_|refine Ok.cond ?_);conv=>whnf)|refine Ok.block ?_|(refine Ok.skip ?_;conv=>whnf)|(refine Or.inl ?_;(conv=>whnf);(repeat (refine aI ?_;conv=>whnf));refine⟨_,htx,rfl,?_⟩;conv=>whnf)|(refine bI ?_ ?_<;>intro<;>(conv=>whnf)<;>(try (exfalso;omega)))|fail)
 all_goals first
  | (exfalso;omega)
  | skip
 refine Ok.loopU [1,2,4,5,6,18,19] [20] 0 3 (fun (i:Nat)=>[.i .i64 (i:Nat)]) (fun (i:Nat) (_:List (List D))=>[crow c,[.i .i64 0,.nilS],[.i .i64 0]]) (fun _ r=>r) (fun (i:Nat)=>i<=less.length/\∀ m ∈ less.take i,m.length=c.length) (fun (i:Nat)=>less.length - i) (0) (⟨Nat.zero_le _,by simp⟩) ?_;(conv=>whnf);refine⟨by ((conv=>whnf);first|rfl|(simp[envCat,List.take_of_length_le,crow,trow,srow,drow,trowX];done)|(simp[envCat,List.take_of_length_le,crow,trow,srow,drow,trowX];rw[IntKind.wrap_i64];omega)),?_⟩
 rintro i ⟨hi,hw⟩
 (conv=>whnf)
 by_cases hil:i<less.length
 . obtain⟨m,hm⟩:∃ m,less[i]? = some m:=⟨_,List.getElem?_eq_getElem hil⟩
   have hmI:less[((i:Nat):Int).toNat]? = some m:=hm
   have hmc:=hl m (List.mem_of_getElem? hm)
   have hmx:=text_at m hmc
   by_cases hml:m.length=c.length
   . (try (conv=>whnf));repeat' (first|refine Ok.seq ?_|((first|refine Ok.region tok ?_|refine Ok.cond ?_);conv=>whnf)|refine Ok.block ?_|((first|refine Ok.skip ?_|refine nI ?_|refine ix _ (by assumption) ?_);conv=>whnf)|(refine Or.inl ?_;(conv=>whnf);(repeat (refine aI ?_;conv=>whnf));refine⟨_,hmx,rfl,?_⟩;conv=>whnf)|(refine bI ?_ ?_<;>intro<;>(conv=>whnf)<;>(try (exfalso;omega)))|fail)
     all_goals first
      | (exfalso;omega)
      | (refine⟨i+1,by omega,⟨by omega,fun x hx=>by
          rw[take_snoc hm] at hx
          rcases List.mem_append.1 hx with hx|hx
          . exact hw x hx
          . simp at hx;rw[hx];exact hml⟩,?_⟩
         (conv=>whnf)
         rfl)
   . rw[ofO_wide hlong (.inl ⟨m,List.mem_of_getElem? hm,hml⟩)]
     (try (conv=>whnf));repeat' (first|refine Ok.seq ?_|((first|refine Ok.region tok ?_|refine Ok.cond ?_);conv=>whnf)|refine Ok.block ?_|((first|refine Ok.skip ?_|refine Ok.ret ?_|refine ix _ (by assumption) ?_);conv=>whnf)|(refine Or.inl ?_;(conv=>whnf);(repeat (refine aI ?_;conv=>whnf));refine⟨_,hmx,rfl,?_⟩;conv=>whnf)|(refine bI ?_ ?_<;>intro<;>(conv=>whnf)<;>(try (exfalso;omega)))|fail)
     all_goals first
      | (exfalso;omega)
      | ((refine⟨_,Fg.keep [(4,.bp 1 0),(5,.bp 2 0)] (by intro x hx;simp at hx;rcases hx with rfl|rfl<;>exact⟨rfl,rfl⟩) rfl (by trivial),?_⟩;(conv=>whnf));refine Or.inl ?_;(conv=>whnf)
         exact⟨rfl,_,rfl,PSp.nil 0⟩)
 have hie:i=less.length:=by omega
 subst hie
 rw[List.take_length] at hw
 by_cases hc0:c=[]
 . rw[ofO_wide hlong (.inr hc0)]
   have hc00:c.length=0:=by rw[hc0];rfl
   (try (conv=>whnf));repeat' (first|refine Ok.seq ?_|refine OkL.cons ?_|((first|refine Ok.region tok ?_|refine Ok.cond ?_|refine Ok.exit ?_|refine Ok.ret ?_);conv=>whnf)|(refine bI ?_ ?_<;>intro<;>(conv=>whnf)<;>(try (exfalso;omega)))|fail)
   all_goals first
    | (exfalso;omega)
    | ((refine⟨_,Fg.keep [(4,.bp 1 0),(5,.bp 2 0)] (by intro x hx;simp at hx;rcases hx with rfl|rfl<;>exact⟨rfl,rfl⟩) rfl (by trivial),?_⟩;(conv=>whnf));refine Or.inl ?_;(conv=>whnf)
       exact⟨rfl,_,rfl,PSp.nil 0⟩)
 have hpos:0<c.length:=List.length_pos_iff.2 hc0
 have h2:¬ ((∃ m ∈ less,m.length ≠ c.length)\/c=[]):=fun h=>h.elim (fun⟨m,hm,hne⟩=>hne (hw m hm)) hc0
 have hcn:CN c:=⟨hc,hc0⟩
 have hnew:∀ rl room,rl=List.map lrow [⟨less,room⟩]->∀ room2,FSpec Tryz.prog T 72 [.agg (crow c),.lst 58 rl room2] (NewTO c less):=fun rl room h room2=>by
  have:=newTermO_at c [⟨less,room⟩] (room:=room2) hcn (by
   intro x hx m hm
   simp at hx
   subst hx
   exact hl m hm) (by simp[allL];omega) (by simp) h
  rwa [show allL [⟨less,room⟩]=less by simp[allL]] at this
 (try (conv=>whnf));repeat' (first|refine Ok.seq ?_|refine OkL.cons ?_|((first|refine Ok.region tok ?_|refine Ok.cond ?_|refine Ok.skip ?_|refine Ok.exit ?_);conv=>whnf)|(refine bI ?_ ?_<;>intro<;>(conv=>whnf)<;>(try (exfalso;omega)))|fail)
 all_goals first
  | (exfalso;omega)
  | skip
 refine OkL.nil ?_
 (conv=>whnf)
 refine⟨1,2,rfl,rfl,by decide,by decide,by decide,rfl,?_⟩
 have hnb:noneB (c.length:Int)=c.length:=by unfold noneB;rw[if_neg (by omega)]
 cases ht0:termT c less with
 | none=>
  rw[ofO_none hlong h2 ht0]
  (try (conv=>whnf));repeat' (first|refine OkL.cons ?_|(refine Ok.region tok ?_;conv=>whnf)|(refine Or.inr (Or.inl ?_);(conv=>whnf);(repeat (refine aI ?_;conv=>whnf));refine⟨_,hnew _ room (by simp[lrow,List.take_of_length_le,List.drop_of_length_le]) _ , ?_⟩;rintro _ _ (⟨ht,rfl,rfl⟩|⟨t,rm4,ht,rfl,rfl⟩)<;>(conv=>whnf))|fail)
  . (refine OkL.nil ?_;(conv=>whnf);refine⟨_,Fg.keep [(4,.bp 1 0),(5,.bp 2 0),(6,.i .i64 (c.length:Int)),(9,.bp 3 0),(10,.b False),(49,.bp 1 0),(50,.bp 2 0)] (by intro x hx;simp only[List.mem_cons,List.not_mem_nil,or_false] at hx;rcases hx with rfl|rfl|rfl|rfl|rfl|rfl|rfl<;>exact⟨rfl,rfl⟩) rfl ?_,?_⟩)
    . trivial
    (try (conv=>whnf));repeat' (first|refine OkL.cons ?_|((first|refine Ok.region tok ?_|refine Ok.cond ?_|refine Ok.skip ?_|refine Ok.ret ?_);conv=>whnf)|(refine Or.inr (Or.inl ?_);(conv=>whnf);(repeat (refine aI ?_;conv=>whnf));refine⟨_,none_at (c.length:Int),?_⟩;rintro _ _ ⟨rfl,rfl⟩<;>(conv=>whnf))|(refine bI ?_ ?_<;>intro<;>(conv=>whnf)<;>(try (exfalso;omega)))|fail)
    all_goals first
     | (rename_i h;exact absurd trivial h)
     | (rename_i h;cases h;done)
     | (refine Or.inl ?_;(conv=>whnf)
        rw[hnb]
        exact⟨rfl,_,rfl,PSp.nil _⟩)
  . exfalso;rw[ht0] at ht;cases ht
 | some t0=>
  rw[ofO_some hlong h2 ht0]
  obtain⟨hg0,_⟩:=termT_good (n:=c.length) hcn rfl hl ht0
  have hle0:t0.less.length<=1048576:=by have:=termT_sz ht0;omega
  (try (conv=>whnf));repeat' (first|refine OkL.cons ?_|(refine Ok.region tok ?_;conv=>whnf)|(refine Or.inr (Or.inl ?_);(conv=>whnf);(repeat (refine aI ?_;conv=>whnf));refine⟨_,hnew _ room (by simp[lrow,List.take_of_length_le,List.drop_of_length_le]) _ , ?_⟩;rintro _ _ (⟨ht,rfl,rfl⟩|⟨t,rm4,ht,rfl,rfl⟩)<;>(conv=>whnf))|fail)
  . exfalso;rw[ht0] at ht;cases ht
  rw[ht0] at ht
  cases ht
  (refine OkL.nil ?_;(conv=>whnf);refine⟨_,Fg.keep [(4,.bp 1 0),(5,.bp 2 0),(6,.i .i64 (c.length:Int)),(9,.bp 3 0),(10,.b True),(49,.bp 1 0),(50,.bp 2 0)] (by intro x hx;simp only[List.mem_cons,List.not_mem_nil,or_false] at hx;rcases hx with rfl|rfl|rfl|rfl|rfl|rfl|rfl<;>exact⟨rfl,rfl⟩) rfl ?_,?_⟩)
  . exact⟨fun x hx=>by rw[<- List.map_append] at hx;exact gro_crow _ x hx,trivial⟩
  have htk:∀ zs,List.take t0.less.length (List.map crow t0.less++List.map crow zs)=List.map crow t0.less:=fun zs=>List.take_left' (by simp)
  by_cases hsz:szT (formT [t0])<=128
  . rw[bndO_le hsz]
    have hform:∀ xs zs,xs=t0.less.map crow->FSpec Tryz.prog T 65 [.i .i64 (c.length:Int),.lst 112 [trowX t0 xs zs] []] (fun d rows=>∃ (ks:List TR) (rm:List (List D)),d = .agg [.i .i64 (c.length:Int),.lst 112 (ks.map trow) rm]/\rows=[]/\ks.map TR.t=formT [t0]):=fun xs zs hx=>by
     subst hx
     refine FSpec.mono (form_at (room:=[]) (c.length:Int) c.length [⟨t0,zs⟩] (by simp) (by
      intro x hx
      simp at hx
      subst hx
      exact hg0.to hle0) rfl (by simpa using hsz)) ?_
     rintro d rows ⟨ks,rm,h1,h2,h3,_⟩
     exact⟨ks,rm,h1,h2,by simpa using h3⟩
    (try (conv=>whnf));repeat' (first|(refine Ok.pubN (id:=15) 1 ?_;(conv=>whnf);refine Ok.region tok ?_;(conv=>whnf))|refine Ok.seq ?_|refine OkL.cons ?_|((first|refine Ok.region tok ?_|refine Ok.cond ?_|refine Ok.skip ?_|refine Ok.ret ?_);conv=>whnf)|(refine Or.inr (Or.inl ?_);(conv=>whnf);(repeat (refine aI ?_;conv=>whnf));refine⟨_,hform _ _ (htk _) , ?_⟩;rintro _ _ ⟨ks3,rm3,rfl,rfl,hks3⟩<;>(conv=>whnf))|(refine bI ?_ ?_<;>intro<;>(conv=>whnf)<;>(try (exfalso;omega)))|fail)
    all_goals first
     | (rename_i h;exact absurd trivial h)
     | (rename_i h;cases h;done)
     | (refine Or.inl ?_;(conv=>whnf)
        exact⟨rfl,_,rfl,ks3,rm3,rfl,hks3⟩)
  . rw[bndO_gt (by omega)]
    (try (conv=>whnf));repeat' (first|(refine Ok.pubN (id:=15) 1 ?_;(conv=>whnf);refine Ok.region_pan (id:=15) tok 3 ?_;(conv=>whnf))|refine Ok.seq ?_|refine OkL.cons ?_|((first|refine Ok.region tok ?_|refine Ok.cond ?_|refine Ok.skip ?_);conv=>whnf)|(refine bI ?_ ?_<;>intro<;>(conv=>whnf)<;>(try (exfalso;omega)))|(refine aJ ?_;conv=>whnf)|fail)
    all_goals first
     | (rename_i h;exact absurd trivial h)
     | (rename_i h;cases h;done)
     | skip
    rw[htk]
    refine⟨_,form_pan (c.length:Int) c.length [⟨t0,_⟩] (by simp) (by
     intro x hx
     simp at hx
     subst hx
     exact hg0.to hle0) rfl (by simp;omega),?_⟩
    (conv=>whnf)
    refine⟨rfl,1,2,_,_,rfl,rfl,rfl,rfl,rfl,rfl,by decide,rfl,?_⟩
    (conv=>whnf)
    refine Or.inl ?_;(conv=>whnf)
    exact⟨rfl,_,rfl,PSp.nil 0⟩
end Go.Proofs.YtaiondckookpiaaGreatDoor
namespace Go.Proofs.YtaiondckookpiaaGreatDoor
open Go Go.Vx Go.RowKit
theorem formO_one{t:Term}:formT [t]=[t]:=by rw[formT_b];rfl
set_option maxRecDepth 100000 in
set_option maxHeartbeats 8000000 in
theorem rofl_at(c:Str)(less:List Str){rl rm:List (List D)}(hc:CT c)(hl:∀ m ∈ less,CT m)(hn:less.length<=100000)(h:rl=less.map srow) :
    FSpec Tryz.prog T 143 [.s c,.lst 9 rl rm] (DOut (ofO c less)):=by
 subst h
 have hlm:(less.map srow).length=less.length:=by simp
 have hcl:=hc.len
 refine FSpec.of_ok tok Tryz.func143 rfl Tryz.call143 (by simp) ?_
 by_cases hlong:2048<less.length
 . rw[ofO_long hlong]
   (try (conv=>whnf));repeat' (first|refine Ok.seq ?_|((first|refine Ok.region tok ?_|refine Ok.cond ?_|refine Ok.ret ?_);conv=>whnf)|(refine bI ?_ ?_<;>intro<;>(conv=>whnf)<;>(try (exfalso;omega)))|fail)
   all_goals first
    | (exfalso;omega)
    | (refine Or.inl ?_;(conv=>whnf)
       exact⟨rfl,_,rfl,DSp.nil 0⟩)
 by_cases hc0:c=[]
 . rw[ofO_wide hlong (.inr hc0)]
   subst hc0
   (try (conv=>whnf));repeat' (first|refine Ok.seq ?_|((first|refine Ok.region tok ?_|refine Ok.cond ?_);conv=>whnf)|refine Ok.block ?_|((first|refine Ok.skip ?_|refine Ok.ret ?_);conv=>whnf)|(refine bI ?_ ?_<;>intro<;>(conv=>whnf)<;>(try (exfalso;omega)))|fail)
   all_goals first
    | (exfalso;omega)
    | (rename_i h;exact absurd rfl h)
    | (rename_i h;exact absurd trivial h)
    | (refine Or.inl ?_;(conv=>whnf)
       exact⟨rfl,_,rfl,DSp.nil 0⟩)
 have hpos:0<c.length:=List.length_pos_iff.2 hc0
 (try (conv=>whnf));repeat' (first|refine Ok.seq ?_|((first|refine Ok.region tok ?_|refine Ok.cond ?_);conv=>whnf)|refine Ok.block ?_|((first|refine Ok.skip ?_|refine Ok.ret ?_);conv=>whnf)|(refine bI ?_ ?_<;>intro<;>(conv=>whnf)<;>(try (exfalso;omega)))|fail)
 all_goals first
  | (exfalso;omega)
  | (rename_i h;simp at h;exact absurd h hc0)
  | skip
 refine Ok.loopU [0,1,4] [6] 0 1 (fun (i:Nat)=>[.i .i64 (i:Nat)]) (fun (i:Nat) (_:List (List D))=>[[.i .i64 0,.nilS]]) (fun _ r=>r) (fun (i:Nat)=>i<=less.length/\∀ m ∈ less.take i,m.length=c.length) (fun (i:Nat)=>less.length - i) (0) (⟨Nat.zero_le _,by simp⟩) ?_;(conv=>whnf);refine⟨by ((conv=>whnf);first|rfl|(simp[envCat,List.take_of_length_le,crow,srow,drow];done)|(simp[envCat,List.take_of_length_le,crow,srow,drow];rw[IntKind.wrap_i64];omega)),?_⟩
 rintro i ⟨hi,hw⟩
 (conv=>whnf)
 by_cases hil:i<less.length
 . obtain⟨m,hm⟩:∃ m,less[i]? = some m:=⟨_,List.getElem?_eq_getElem hil⟩
   have hmI:less[((i:Nat):Int).toNat]? = some m:=hm
   have hml:=(hl m (List.mem_of_getElem? hm)).len
   by_cases hmw:m.length=c.length
   . (try (conv=>whnf));repeat' (first|refine Ok.seq ?_|((first|refine Ok.region tok ?_|refine Ok.cond ?_);conv=>whnf)|refine Ok.block ?_|((first|refine Ok.skip ?_|refine nI ?_|refine ix _ (by assumption) ?_);conv=>whnf)|(refine bI ?_ ?_<;>intro<;>(conv=>whnf)<;>(try (exfalso;omega)))|fail)
     all_goals first
      | (exfalso;omega)
      | (refine⟨i+1,by omega,⟨by omega,fun x hx=>by
          rw[take_snoc hm] at hx
          rcases List.mem_append.1 hx with hx|hx
          . exact hw x hx
          . simp at hx;rw[hx];exact hmw⟩,?_⟩
         (conv=>whnf)
         rfl)
   . rw[ofO_wide hlong (.inl ⟨m,List.mem_of_getElem? hm,hmw⟩)]
     (try (conv=>whnf));repeat' (first|refine Ok.seq ?_|((first|refine Ok.region tok ?_|refine Ok.cond ?_);conv=>whnf)|refine Ok.block ?_|((first|refine Ok.skip ?_|refine Ok.ret ?_|refine ix _ (by assumption) ?_);conv=>whnf)|(refine bI ?_ ?_<;>intro<;>(conv=>whnf)<;>(try (exfalso;omega)))|fail)
     all_goals first
      | (exfalso;omega)
      | (refine Or.inl ?_;(conv=>whnf)
         exact⟨rfl,_,rfl,DSp.nil 0⟩)
 have hie:i=less.length:=by omega
 subst hie
 rw[List.take_length] at hw
 have h2:¬ ((∃ m ∈ less,m.length ≠ c.length)\/c=[]):=fun h=>h.elim (fun⟨m,hm,hne⟩=>hne (hw m hm)) hc0
 have hterm:=fun rm=>rterm_at c less (rm:=rm) hc0 hcl hn (fun m hm=>(hl m hm).len) rfl
 cases ht0:termT c less with
 | none=>
  rw[ofO_none hlong h2 ht0]
  (try (conv=>whnf));repeat' (first|refine Ok.seq ?_|((first|refine Ok.region tok ?_|refine Ok.cond ?_|refine Ok.skip ?_|refine Ok.exit ?_|refine Ok.ret ?_);conv=>whnf)|(refine Or.inr (Or.inl ?_);(conv=>whnf);(repeat (refine aI ?_;conv=>whnf));refine⟨_,hterm rm , ?_⟩;rintro _ _ ⟨rfl,(⟨ht,rfl⟩|⟨t,rm2,ht,rfl⟩)⟩<;>(conv=>whnf))|(refine Or.inr (Or.inl ?_);(conv=>whnf);(repeat (refine aI ?_;conv=>whnf));refine⟨_,rbound_at (c.length:Int) [] (by simp) (by simp) rfl , ?_⟩;rintro _ _ ⟨rfl,(⟨hb,rfl⟩|⟨hb,rfl⟩)⟩<;>(conv=>whnf))|((first|refine⟨_,.inl ⟨rfl,rfl⟩,?_⟩|refine⟨_,_,rfl,rfl,?_⟩);conv=>whnf)|(refine bI ?_ ?_<;>intro<;>(conv=>whnf)<;>(try (exfalso;omega)))|(refine aJ ?_;conv=>whnf)|fail)
  all_goals first
   | (exfalso;rw[ht0] at ht;cases ht;done)
   | (exfalso;simp[szT] at hb;done)
   | (rename_i h;exact absurd trivial h)
   | (rename_i h;exact absurd rfl h)
   | (refine Or.inl ?_;(conv=>whnf)
      exact⟨rfl,_,rfl,DSp.nil _⟩)
 | some t0=>
  rw[ofO_some hlong h2 ht0,formO_one]
  obtain⟨hg0,_⟩:=termT_good (n:=c.length) ⟨hc,hc0⟩ rfl hl ht0
  have hle0:t0.less.length<=1048576:=by have:=termT_sz ht0;omega
  have hbd:∀ (t:Term) (rm2:List (List D)),termT c less=some t->FSpec Tryz.prog T 67 [.agg [.i .i64 (c.length:Int),.lst 120 [drow ⟨t,rm2⟩] []]] (DOut (bndO c.length [t0])):=fun t rm2 ht=>by
   rw[ht0] at ht
   cases ht
   refine FSpec.mono (rbound_at (c.length:Int) [⟨t0,rm2⟩] (room:=[]) (by simp) (by simpa using hle0) rfl) ?_
   rintro d rows ⟨rfl,⟨hb,rfl⟩|⟨hb,rfl⟩⟩
   . rw[bndO_le (by simpa using hb)]
     exact⟨rfl,_,rfl,[⟨t0,rm2⟩],_,rfl,rfl⟩
   . rw[bndO_gt (by simpa using hb)]
     exact⟨rfl,_,rfl,DSp.nil 0⟩
  (try (conv=>whnf));repeat' (first|refine Ok.seq ?_|((first|refine Ok.region tok ?_|refine Ok.cond ?_|refine Ok.skip ?_|refine Ok.exit ?_|refine Ok.ret ?_);conv=>whnf)|(refine Or.inr (Or.inl ?_);(conv=>whnf);(repeat (refine aI ?_;conv=>whnf));refine⟨_,hterm rm , ?_⟩;rintro _ _ ⟨rfl,(⟨ht,rfl⟩|⟨t,rm2,ht,rfl⟩)⟩<;>(conv=>whnf))|(refine Or.inr (Or.inl ?_);(conv=>whnf);(repeat (refine aI ?_;conv=>whnf));refine⟨_,hbd t rm2 ht , ?_⟩;rintro _ _ ⟨rfl,_,rfl,kd3,rd3,rfl,h3d⟩<;>(conv=>whnf))|((first|refine⟨_,.inl ⟨rfl,rfl⟩,?_⟩|refine⟨_,_,rfl,rfl,?_⟩);conv=>whnf)|(refine bI ?_ ?_<;>intro<;>(conv=>whnf)<;>(try (exfalso;omega)))|(refine aJ ?_;conv=>whnf)|fail)
  all_goals first
   | (exfalso;rw[ht0] at ht;cases ht;done)
   | (rename_i h;exact absurd trivial h)
   | (rename_i h;exact absurd rfl h)
   | (refine Or.inl ?_;(conv=>whnf)
      exact⟨rfl,_,rfl,kd3,rd3,rfl,h3d⟩)
end Go.Proofs.YtaiondckookpiaaGreatDoor
namespace Go.Proofs.YtaiondckookpiaaGreatDoor
open Go Go.Vx Go.RowKit
theorem place_at(n:Int)(h:-9223372036854775808<=n/\n<=9223372036854775807):∃ k:Nat,k<8/\FSpec Tryz.prog T 106 [.i .i64 n] (fun d rows=>d = .i .i64 (k:Nat)/\rows=[]):=by
 refine⟨((if n<0 then 0 - (n+1) else n).tmod 8).toNat,?_,?_⟩
 . have:=Int.tmod_lt_of_pos (if n<0 then 0 - (n+1) else n) (b:=8) (by omega)
   have h2:0<=(if n<0 then 0 - (n+1) else n).tmod 8:=Int.tmod_nonneg _ (by split<;>omega)
   omega
 . have h2:0<=(if n<0 then 0 - (n+1) else n).tmod 8:=Int.tmod_nonneg _ (by split<;>omega)
   refine FSpec.of_ok tok Tryz.func106 rfl Tryz.call106 (by simp) ?_
   rw[Int.toNat_of_nonneg h2]
   by_cases h0:n<0
   . rw[if_pos h0]
     (try (conv=>whnf));repeat' (first|refine Ok.seq ?_|((first|refine Ok.region tok ?_|refine Ok.cond ?_|refine Ok.ret ?_|refine nI ?_);conv=>whnf)|(refine bI ?_ ?_<;>intro<;>(conv=>whnf)<;>(try (exfalso;omega)))|((first|refine aJ ?_|refine num_any ?_);conv=>whnf)|fail)
     all_goals first
      | (exfalso;omega)
      | (refine Or.inl ?_;(conv=>whnf)
         exact⟨rfl,rfl⟩)
   . rw[if_neg h0]
     (try (conv=>whnf));repeat' (first|refine Ok.seq ?_|((first|refine Ok.region tok ?_|refine Ok.cond ?_|refine Ok.skip ?_|refine Ok.ret ?_);conv=>whnf)|(refine bI ?_ ?_<;>intro<;>(conv=>whnf)<;>(try (exfalso;omega)))|((first|refine aJ ?_|refine num_any ?_);conv=>whnf)|fail)
     all_goals first
      | (exfalso;omega)
      | (refine Or.inl ?_;(conv=>whnf)
         exact⟨rfl,rfl⟩)
set_option maxHeartbeats 4000000 in
theorem listed2_at(l:List Str){rm1 rm2:List (List D)}(hl:∀ c ∈ l,CT c)(hll:l.length<=100000):FSpec Tryz.prog T 36 [.lst 46 (l.map crow) rm1,.lst 9 (l.map srow) rm2] (fun d rows=>d = .b True/\rows=[]):=by
 have h1:(l.map crow).length=l.length:=by simp
 have h2:(l.map srow).length=l.length:=by simp
 refine FSpec.of_ok tok Tryz.func36 rfl Tryz.call36 (by simp) ?_
 (try (conv=>whnf));repeat' (first|refine Ok.seq ?_|((first|refine Ok.region tok ?_|refine Ok.cond ?_);conv=>whnf)|refine Ok.block ?_|(refine Ok.skip ?_;conv=>whnf)|(refine bI ?_ ?_<;>intro<;>(conv=>whnf)<;>(try (exfalso;omega)))|fail)
 all_goals first
  | (exfalso;omega)
  | skip
 refine Ok.loopU [0,1] [5] 0 0 (fun (i:Nat)=>[.i .i64 (i:Nat)]) (fun _ b=>b) (fun _ r=>r) (fun (i:Nat)=>i<=l.length) (fun (i:Nat)=>l.length - i) (0) (Nat.zero_le _) ?_;(conv=>whnf);refine⟨by ((conv=>whnf);first|rfl|(simp[envCat,List.take_of_length_le,crow,srow,trow,drow,prow,qrow,strow];done)|(simp[envCat,List.take_of_length_le,crow,srow,trow,drow,prow,qrow,strow];rw[IntKind.wrap_i64];omega)),?_⟩
 intro i hi
 (conv=>whnf)
 by_cases hil:i<l.length
 . obtain⟨c,hc⟩:∃ c,l[i]? = some c:=⟨_,List.getElem?_eq_getElem hil⟩
   have hcI:l[((i:Nat):Int).toNat]? = some c:=hc
   have hct:=hl c (List.mem_of_getElem? hc)
   (try (conv=>whnf));repeat' (first|refine Ok.seq ?_|((first|refine Ok.region tok ?_|refine Ok.region_draw tok follows (by kernel_rfl) ?_|refine Ok.cond ?_);conv=>whnf)|refine Ok.block ?_|((first|refine Ok.skip ?_|refine Ok.ret ?_|refine nI ?_|refine ix _ (by assumption) ?_|refine⟨_,text_at c hct,rfl,?_⟩);conv=>whnf)|(refine bI ?_ ?_<;>intro<;>(conv=>whnf)<;>(try (exfalso;omega)))|fail)
   all_goals first
    | (rename_i h;exact absurd rfl h)
    | (refine⟨i+1,by omega,by omega,?_⟩
       (conv=>whnf)
       rfl)
 . have hie:i=l.length:=by omega
   subst hie
   (try (conv=>whnf));repeat' (first|refine Ok.seq ?_|((first|refine Ok.region tok ?_|refine Ok.cond ?_|refine Ok.exit ?_|refine Ok.ret ?_);conv=>whnf)|(refine bI ?_ ?_<;>intro<;>(conv=>whnf)<;>(try (exfalso;omega)))|fail)
   refine Or.inl ?_;(conv=>whnf)
   exact⟨rfl,rfl⟩
structure Pl where
 n:Int
 ts:List Term
 ks:List TR
 kd:List TR
 km:List (List D)
 kdm:List (List D)
structure Pl.Ok(x:Pl):Prop where
 f:Fine x.n x.ts
 a:x.ks.map TR.t=x.ts
 b:x.kd.map TR.t=x.ts
@[reducible] def prow(x:Pl):List D:=[.i .i64 x.n,.lst 112 (x.ks.map trow) x.km]
@[reducible] def qrow(x:Pl):List D:=[.i .i64 x.n,.lst 120 (x.kd.map drow) x.kdm]
structure Stp where
 kind:Int
 i:Int
 j:Int
 to:Int
 bits:Int
 text:Str
 n:Int
@[reducible] def strow(x:Stp):List D:=[.i .i64 x.kind,.i .i64 x.i,.i .i64 x.j,.i .i64 x.to,.i .i64 x.bits,.s x.text,.i .i64 x.n]
def I64(n:Int):Prop:=-9223372036854775808<=n/\n<=9223372036854775807
structure Stp.Ok(x:Stp):Prop where
 i:I64 x.i
 j:I64 x.j
 to:I64 x.to
theorem RS.bT{sz:TypeId->Nat}{V V':Vw}{ω:List Value}{v:Value}(h:RS sz V [] ω v (.b True)):RS sz V' [] [] v (.b True):=.imm _ _ ((immD_ri h rfl).ground rfl)
theorem RS.tupI{sz:TypeId->Nat}{V:Vw}{ω:List Value}{v:Value}{cs:List D}(hc:∀ c ∈ cs,immD c=true)(h:RS sz V [] ω v (.tup cs)):RS sz V [] [] v (.tup cs):=by
 obtain⟨vs,rfl,hs,hR⟩:=h.tup_
 exact .tup _ vs hs fun j v d h1 h2=>.imm _ _ (immD_ri (hR j v d h1 h2) (hc d (List.mem_of_getElem? h2)))
def Tru(d:D):Prop:=d = .tt\/∃ p:Prop,p/\d = .b p
theorem noneB_in(b:Int):0<=noneB b/\noneB b<=256:=by unfold noneB;split<;>omega
end Go.Proofs.YtaiondckookpiaaGreatDoor
namespace Go.Proofs.YtaiondckookpiaaGreatDoor
open Go Go.Vx Go.RowKit
end Go.Proofs.YtaiondckookpiaaGreatDoor
