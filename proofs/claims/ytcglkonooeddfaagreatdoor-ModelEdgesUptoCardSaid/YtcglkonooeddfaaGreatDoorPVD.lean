/- The walks and the plain laws that a law of networks needs, part 4 of 6. -/
import Derived.Test.YtcglkonooeddfaaGreatDoorPVC
set_option linter.unusedVariables false
set_option linter.unusedSimpArgs false
namespace Go.Proofs.YtcglkonooeddfaaGreatDoor
open Go Go.Vx Go.Shelf
set_option maxHeartbeats 16000000 in
theorem build_at(e:List Nd)(r1:List (List D))(hl:e.length<=2000000):FSpec Tryz.prog T 119 [.lst 219 (e.map nrow) r1] (fun d _=>d=bldD (bldO e)):=by
 have h1:(e.map nrow).length=e.length:=by simp
 refine FSpec.of_ok tok Tryz.func119 rfl Tryz.call119 (by simp) ?_
 (try (conv=>whnf));repeat' (first|refine Ok.seq ?_|(refine Ok.region tok ?_;conv=>whnf)|refine Ok.block ?_|fail)
 refine Ok.ghost 4 147 rfl ?_
 (conv=>whnf)
 refine Ok.loopU [9,10] [4,11] 1 0 (fun (x:Nat × Nat × List Tr × List Tr)=>[.own 0 x.2.1,.i .i64 (x.1:Nat)]) (fun _ b=>b) (fun (x:Nat × Nat × List Tr × List Tr) (_:Vx.Rows)=>[some (147,(x.2.2.1.reverse++x.2.2.2).map qrow)]) (fun (x:Nat × Nat × List Tr × List Tr)=>x.1<=e.length/\x.2.2.1.length=x.2.1/\x.2.1+x.2.2.2.length<=x.1/\buildR e []=buildR (e.drop x.1) x.2.2.1) (fun (x:Nat × Nat × List Tr × List Tr)=>e.length - x.1) ((0,0,[],[])) (⟨Nat.zero_le _,rfl,Nat.le_refl _,rfl⟩) ?_;(conv=>whnf);refine⟨by ((conv=>whnf);first|rfl|(simp[envCat,List.take_of_length_le,nrow,frow,tcells,qrow];done)|(simp[envCat,List.take_of_length_le,nrow,frow,tcells,qrow];rw[IntKind.wrap_i64];omega)),?_⟩
 rintro⟨i,n,rs,j⟩ ⟨hi,hn,hj,hb⟩
 dsimp only at hi hn hj hb ⊢
 have hlm:((rs.reverse++j).map qrow).length=n+j.length:=by simp[hn]
 (conv=>whnf)
 by_cases hil:i<e.length
 . obtain⟨c,hc⟩:∃ c,e[i]? = some c:=⟨_,List.getElem?_eq_getElem hil⟩
   have hcI:e[((i:Nat):Int).toNat]? = some c:=hc
   rw[edrop_at hc] at hb
   by_cases hz:c.kind ≠ 3/\¬ zT c.t
   . rw[bld_none hb (bad_z hz.1 hz.2)]
     have hz1:=hz.1
     have hz2:=hz.2
     (try (conv=>whnf));repeat' (first|((first|refine⟨_,eqTest,by kernel_rfl,?_⟩|refine⟨fun _=>?_,fun h=>absurd (Classical.not_not.1 h) hz2⟩);conv=>whnf)|refine Ok.seq ?_|((first|refine Ok.region tok ?_|refine Ok.cond ?_);conv=>whnf)|refine Ok.block ?_|((first|refine Ok.skip ?_|refine Ok.ret ?_|refine ix _ (by assumption) ?_);conv=>whnf)|(refine bI ?_ ?_<;>intro<;>(conv=>whnf)<;>(try (exfalso;omega)))|fail)
     all_goals first
      | (exfalso;omega)
      | (refine Or.inl ?_;(conv=>whnf)
         rfl)
   . have hst:=stepT_ok (rs:=rs) hz
     have hz3:c.kind=3\/zT c.t:=by
      by_cases h:c.kind=3
      . exact .inl h
      . exact .inr (Classical.byContradiction fun h2=>hz ⟨h,h2⟩)
     by_cases hk3:c.kind=3
     . have hb2:=bld_step hb (hst.trans (sh3 hk3))
       cases j with
       | nil=>
        simp only[List.length_nil,Nat.add_zero] at hj hlm
        (try (conv=>whnf));repeat' (first|(refine And.intro ⟨by kernel_rfl⟩ ?_;conv=>whnf)|refine Ok.seq ?_|((first|refine Ok.region tok ?_|refine Ok.cond ?_);conv=>whnf)|refine Ok.block ?_|((first|refine Ok.skip ?_|refine nI ?_|refine ix _ (by assumption) ?_|refine Alt2.l (aI ?_)|refine⟨_,.inl ⟨rfl,rfl⟩,?_⟩|refine⟨_,_,rfl,rfl,?_⟩);conv=>whnf)|(refine bI ?_ ?_<;>intro<;>(conv=>whnf)<;>(try (exfalso;omega)))|(refine aJ ?_;conv=>whnf)|fail)
        all_goals first
         | (exfalso;omega)
         | skip
        all_goals
         refine⟨(i+1,n+1,Tr.test c.t :: rs,[]),by dsimp only;omega,⟨by dsimp only;omega,by simp[hn],by simp;omega,hb2⟩,?_⟩
         rw[<- push_nil]
         (conv=>whnf)
         simp[envCat,hn]
         try exact⟨rfl,rfl⟩
       | cons y j=>
        simp only[List.length_cons] at hj hlm
        (try (conv=>whnf));repeat' (first|(refine And.intro ⟨by kernel_rfl⟩ ?_;conv=>whnf)|refine Ok.seq ?_|((first|refine Ok.region tok ?_|refine Ok.cond ?_);conv=>whnf)|refine Ok.block ?_|((first|refine Ok.skip ?_|refine nI ?_|refine ix _ (by assumption) ?_|refine Alt2.r (aI ?_)|refine⟨_,.inl ⟨rfl,rfl⟩,?_⟩|refine⟨_,_,rfl,rfl,?_⟩);conv=>whnf)|(refine bI ?_ ?_<;>intro<;>(conv=>whnf)<;>(try (exfalso;omega)))|((first|refine aJ ?_|refine⟨_,rfl,?_⟩);conv=>whnf)|fail)
        all_goals first
         | (exfalso;omega)
         | skip
        all_goals
         refine⟨(i+1,n+1,Tr.test c.t :: rs,j),by dsimp only;omega,⟨by dsimp only;omega,by simp[hn],by simp;omega,hb2⟩,?_⟩
         rw[<- push_cons rs _ y j,hn]
         (conv=>whnf)
         simp[envCat]
         try rfl
     have hz4:zT c.t:=hz3.resolve_left hk3
     by_cases hk1:c.kind=1\/c.kind=2
     . have hb2:=bld_step hb (hst.trans (sh12 hk1))
       cases j with
       | nil=>
        simp only[List.length_nil,Nat.add_zero] at hj hlm
        (try (conv=>whnf));repeat' (first|((first|refine⟨_,eqTest,by kernel_rfl,?_⟩|refine⟨fun h=>absurd hz4 h,fun _=>?_⟩|refine And.intro ⟨by kernel_rfl⟩ ?_);conv=>whnf)|refine Ok.seq ?_|((first|refine Ok.region tok ?_|refine Ok.cond ?_);conv=>whnf)|refine Ok.block ?_|((first|refine Ok.skip ?_|refine nI ?_|refine ix _ (by assumption) ?_|refine Alt2.l (aI ?_)|refine⟨_,.inl ⟨rfl,rfl⟩,?_⟩|refine⟨_,_,rfl,rfl,?_⟩);conv=>whnf)|(refine bI ?_ ?_<;>intro<;>(conv=>whnf)<;>(try (exfalso;omega)))|(refine aJ ?_;conv=>whnf)|fail)
        all_goals first
         | (exfalso;omega)
         | skip
        all_goals
         refine⟨(i+1,n+1,Tr.leaf (c.kind=1) :: rs,[]),by dsimp only;omega,⟨by dsimp only;omega,by simp[hn],by simp;omega,hb2⟩,?_⟩
         rw[<- push_nil]
         (conv=>whnf)
         simp[envCat,hn]
         try exact⟨rfl,rfl⟩
       | cons y j=>
        simp only[List.length_cons] at hj hlm
        (try (conv=>whnf));repeat' (first|((first|refine⟨_,eqTest,by kernel_rfl,?_⟩|refine⟨fun h=>absurd hz4 h,fun _=>?_⟩|refine And.intro ⟨by kernel_rfl⟩ ?_);conv=>whnf)|refine Ok.seq ?_|((first|refine Ok.region tok ?_|refine Ok.cond ?_);conv=>whnf)|refine Ok.block ?_|((first|refine Ok.skip ?_|refine nI ?_|refine ix _ (by assumption) ?_|refine Alt2.r (aI ?_)|refine⟨_,.inl ⟨rfl,rfl⟩,?_⟩|refine⟨_,_,rfl,rfl,?_⟩);conv=>whnf)|(refine bI ?_ ?_<;>intro<;>(conv=>whnf)<;>(try (exfalso;omega)))|((first|refine aJ ?_|refine⟨_,rfl,?_⟩);conv=>whnf)|fail)
        all_goals first
         | (exfalso;omega)
         | skip
        all_goals
         refine⟨(i+1,n+1,Tr.leaf (c.kind=1) :: rs,j),by dsimp only;omega,⟨by dsimp only;omega,by simp[hn],by simp;omega,hb2⟩,?_⟩
         rw[<- push_cons rs _ y j,hn]
         (conv=>whnf)
         simp[envCat]
         try rfl
     by_cases hk4:c.kind=4
     . match rs,hn with
       | [],hn=>
        simp only[List.length_nil] at hn
        subst hn
        rw[bld_none hb (hst.trans (sh4 hk4))]
        (try (conv=>whnf));repeat' (first|((first|refine⟨_,eqTest,by kernel_rfl,?_⟩|refine⟨fun h=>absurd hz4 h,fun _=>?_⟩);conv=>whnf)|refine Ok.seq ?_|((first|refine Ok.region tok ?_|refine Ok.cond ?_);conv=>whnf)|refine Ok.block ?_|((first|refine Ok.skip ?_|refine Ok.ret ?_|refine nI ?_|refine ix _ (by assumption) ?_);conv=>whnf)|(refine bI ?_ ?_<;>intro<;>(conv=>whnf)<;>(try (exfalso;omega)))|fail)
        all_goals first
         | (exfalso;omega)
         | (refine Or.inl ?_;(conv=>whnf)
            rfl)
       | x :: r,hn=>
        simp only[List.length_cons] at hn
        obtain⟨m,rfl⟩:∃ m,n=m+1:=⟨n - 1,by omega⟩
        have hm:r.length=m:=by omega
        have hb2:=bld_step hb (hst.trans (sh4 hk4))
        have hmI:(((m+1:Nat):Int) - 1).toNat=m:=by omega
        have hg1:((x :: r).reverse++j)[(((m+1:Nat):Int) - 1).toNat]? = some x:=by rw[hmI,<- hm];exact pile_top x r j
        (try (conv=>whnf));repeat' (first|((first|refine⟨_,eqTest,by kernel_rfl,?_⟩|refine⟨fun h=>absurd hz4 h,fun _=>?_⟩|refine And.intro ⟨by kernel_rfl⟩ ?_|refine rd rfl hg1 ?_|refine st (Tr.neg x) hg1 (by simp) rfl ?_);conv=>whnf)|refine Ok.seq ?_|((first|refine Ok.region tok ?_|refine Ok.cond ?_);conv=>whnf)|refine Ok.block ?_|((first|refine Ok.skip ?_|refine nI ?_|refine ix _ (by assumption) ?_);conv=>whnf)|(refine bI ?_ ?_<;>intro<;>(conv=>whnf)<;>(try (exfalso;omega)))|(refine aJ ?_;conv=>whnf)|fail)
        all_goals first
         | (exfalso;omega)
         | skip
        all_goals
         refine⟨(i+1,m+1,Tr.neg x :: r,j),by dsimp only;omega,⟨by dsimp only;omega,by simp[hm],by dsimp only;omega,hb2⟩,?_⟩
         rw[hmI,<- hm,set_top]
         (conv=>whnf)
         rfl
     by_cases hk5:c.kind=5
     . match rs,hn with
       | [],hn=>
        simp only[List.length_nil] at hn
        subst hn
        rw[bld_none hb (hst.trans (sh5 hk5))]
        (try (conv=>whnf));repeat' (first|((first|refine⟨_,eqTest,by kernel_rfl,?_⟩|refine⟨fun h=>absurd hz4 h,fun _=>?_⟩);conv=>whnf)|refine Ok.seq ?_|((first|refine Ok.region tok ?_|refine Ok.cond ?_);conv=>whnf)|refine Ok.block ?_|((first|refine Ok.skip ?_|refine Ok.ret ?_|refine nI ?_|refine ix _ (by assumption) ?_);conv=>whnf)|(refine bI ?_ ?_<;>intro<;>(conv=>whnf)<;>(try (exfalso;omega)))|fail)
        all_goals first
         | (exfalso;omega)
         | (refine Or.inl ?_;(conv=>whnf)
            rfl)
       | [y],hn=>
        simp only[List.length_cons,List.length_nil] at hn
        subst hn
        rw[bld_none hb (hst.trans (sh5 hk5))]
        (try (conv=>whnf));repeat' (first|((first|refine⟨_,eqTest,by kernel_rfl,?_⟩|refine⟨fun h=>absurd hz4 h,fun _=>?_⟩);conv=>whnf)|refine Ok.seq ?_|((first|refine Ok.region tok ?_|refine Ok.cond ?_);conv=>whnf)|refine Ok.block ?_|((first|refine Ok.skip ?_|refine Ok.ret ?_|refine nI ?_|refine ix _ (by assumption) ?_);conv=>whnf)|(refine bI ?_ ?_<;>intro<;>(conv=>whnf)<;>(try (exfalso;omega)))|fail)
        all_goals first
         | (exfalso;omega)
         | (refine Or.inl ?_;(conv=>whnf)
            rfl)
       | y :: x :: r,hn=>
        simp only[List.length_cons] at hn
        obtain⟨m,rfl⟩:∃ m,n=m+2:=⟨n - 2,by omega⟩
        have hm:r.length=m:=by omega
        have hb2:=bld_step hb (hst.trans (sh5 hk5))
        have hmI:(((m+2:Nat):Int) - 1).toNat=m+1:=by omega
        have hmJ:(((m+2:Nat):Int) - 1 - 1).toNat=m:=by omega
        have hg1:((y :: x :: r).reverse++j)[(((m+2:Nat):Int) - 1).toNat]? = some y:=by rw[hmI,<- hm];exact pile_top y (x :: r) j
        have hg2:((y :: x :: r).reverse++j)[(((m+2:Nat):Int) - 1 - 1).toNat]? = some x:=by rw[hmJ,<- hm];exact pile_top2 x y r j
        (try (conv=>whnf));repeat' (first|((first|refine⟨_,eqTest,by kernel_rfl,?_⟩|refine⟨fun h=>absurd hz4 h,fun _=>?_⟩|refine And.intro ⟨by kernel_rfl⟩ ?_|refine rd rfl hg1 ?_|refine rd rfl hg2 ?_|refine st (Tr.and x y) hg2 (by simp) rfl ?_);conv=>whnf)|(refine⟨m+1,rfl,(by show ((m+2:Nat):Int) - 1=((m+1:Nat):Int);omega),(by omega),?_⟩;conv=>whnf)|refine Ok.seq ?_|((first|refine Ok.region tok ?_|refine Ok.region_plan (id:=23) tok follows [(4,11,[]),(8,11,[]),(10,11,[])] [.q 0,.q 1,.q 2,.q 3,.q 4,.q 5,.q 6,.q 7,.q 8,.q 9,.l 10,.l 11] (by kernel_rfl) ?_|refine Ok.cond ?_);conv=>whnf)|refine Ok.block ?_|((first|refine Ok.skip ?_|refine nI ?_|refine ix _ (by assumption) ?_);conv=>whnf)|(refine bI ?_ ?_<;>intro<;>(conv=>whnf)<;>(try (exfalso;omega)))|(refine aJ ?_;conv=>whnf)|fail)
        all_goals first
         | (exfalso;omega)
         | skip
        all_goals
         refine⟨(i+1,m+1,Tr.and x y :: r,y :: j),by dsimp only;omega,⟨by dsimp only;omega,by simp[hm],by simp;omega,hb2⟩,?_⟩
         rw[hmJ,<- hm,set_top2]
         (conv=>whnf)
         rfl
     by_cases hk6:c.kind=6
     . match rs,hn with
       | [],hn=>
        simp only[List.length_nil] at hn
        subst hn
        rw[bld_none hb (hst.trans (sh6 hk6))]
        (try (conv=>whnf));repeat' (first|((first|refine⟨_,eqTest,by kernel_rfl,?_⟩|refine⟨fun h=>absurd hz4 h,fun _=>?_⟩);conv=>whnf)|refine Ok.seq ?_|((first|refine Ok.region tok ?_|refine Ok.cond ?_);conv=>whnf)|refine Ok.block ?_|((first|refine Ok.skip ?_|refine Ok.ret ?_|refine nI ?_|refine ix _ (by assumption) ?_);conv=>whnf)|(refine bI ?_ ?_<;>intro<;>(conv=>whnf)<;>(try (exfalso;omega)))|fail)
        all_goals first
         | (exfalso;omega)
         | (refine Or.inl ?_;(conv=>whnf)
            rfl)
       | [y],hn=>
        simp only[List.length_cons,List.length_nil] at hn
        subst hn
        rw[bld_none hb (hst.trans (sh6 hk6))]
        (try (conv=>whnf));repeat' (first|((first|refine⟨_,eqTest,by kernel_rfl,?_⟩|refine⟨fun h=>absurd hz4 h,fun _=>?_⟩);conv=>whnf)|refine Ok.seq ?_|((first|refine Ok.region tok ?_|refine Ok.cond ?_);conv=>whnf)|refine Ok.block ?_|((first|refine Ok.skip ?_|refine Ok.ret ?_|refine nI ?_|refine ix _ (by assumption) ?_);conv=>whnf)|(refine bI ?_ ?_<;>intro<;>(conv=>whnf)<;>(try (exfalso;omega)))|fail)
        all_goals first
         | (exfalso;omega)
         | (refine Or.inl ?_;(conv=>whnf)
            rfl)
       | y :: x :: r,hn=>
        simp only[List.length_cons] at hn
        obtain⟨m,rfl⟩:∃ m,n=m+2:=⟨n - 2,by omega⟩
        have hm:r.length=m:=by omega
        have hb2:=bld_step hb (hst.trans (sh6 hk6))
        have hmI:(((m+2:Nat):Int) - 1).toNat=m+1:=by omega
        have hmJ:(((m+2:Nat):Int) - 1 - 1).toNat=m:=by omega
        have hg1:((y :: x :: r).reverse++j)[(((m+2:Nat):Int) - 1).toNat]? = some y:=by rw[hmI,<- hm];exact pile_top y (x :: r) j
        have hg2:((y :: x :: r).reverse++j)[(((m+2:Nat):Int) - 1 - 1).toNat]? = some x:=by rw[hmJ,<- hm];exact pile_top2 x y r j
        (try (conv=>whnf));repeat' (first|((first|refine⟨_,eqTest,by kernel_rfl,?_⟩|refine⟨fun h=>absurd hz4 h,fun _=>?_⟩|refine And.intro ⟨by kernel_rfl⟩ ?_|refine rd rfl hg1 ?_|refine rd rfl hg2 ?_|refine st (Tr.or x y) hg2 (by simp) rfl ?_);conv=>whnf)|(refine⟨m+1,rfl,(by show ((m+2:Nat):Int) - 1=((m+1:Nat):Int);omega),(by omega),?_⟩;conv=>whnf)|refine Ok.seq ?_|((first|refine Ok.region tok ?_|refine Ok.region_plan (id:=23) tok follows [(4,11,[]),(8,11,[]),(10,11,[])] [.q 0,.q 1,.q 2,.q 3,.q 4,.q 5,.q 6,.q 7,.q 8,.q 9,.l 10,.l 11] (by kernel_rfl) ?_|refine Ok.cond ?_);conv=>whnf)|refine Ok.block ?_|((first|refine Ok.skip ?_|refine nI ?_|refine ix _ (by assumption) ?_);conv=>whnf)|(refine bI ?_ ?_<;>intro<;>(conv=>whnf)<;>(try (exfalso;omega)))|(refine aJ ?_;conv=>whnf)|fail)
        all_goals first
         | (exfalso;omega)
         | skip
        all_goals
         refine⟨(i+1,m+1,Tr.or x y :: r,y :: j),by dsimp only;omega,⟨by dsimp only;omega,by simp[hm],by simp;omega,hb2⟩,?_⟩
         rw[hmJ,<- hm,set_top2]
         (conv=>whnf)
         rfl
     rw[bld_none hb (hst.trans (sh0 (by omega)))]
     (try (conv=>whnf));repeat' (first|((first|refine⟨_,eqTest,by kernel_rfl,?_⟩|refine⟨fun h=>absurd hz4 h,fun _=>?_⟩);conv=>whnf)|refine Ok.seq ?_|((first|refine Ok.region tok ?_|refine Ok.cond ?_);conv=>whnf)|refine Ok.block ?_|((first|refine Ok.skip ?_|refine Ok.ret ?_|refine nI ?_|refine ix _ (by assumption) ?_);conv=>whnf)|(refine bI ?_ ?_<;>intro<;>(conv=>whnf)<;>(try (exfalso;omega)))|fail)
     all_goals first
      | (exfalso;omega)
      | (refine Or.inl ?_;(conv=>whnf)
         rfl)
 . have hie:i=e.length:=by omega
   subst hie
   rw[List.drop_length] at hb
   have hbe:=bld_end hb
   match rs,hn with
   | [],hn=>
    simp only[List.length_nil] at hn
    subst hn
    rw[hbe]
    (try (conv=>whnf));repeat' (first|refine Ok.seq ?_|((first|refine Ok.region tok ?_|refine Ok.cond ?_|refine Ok.exit ?_|refine Ok.ret ?_);conv=>whnf)|(refine bI ?_ ?_<;>intro<;>(conv=>whnf)<;>(try (exfalso;omega)))|fail)
    all_goals first
     | (exfalso;omega)
     | (refine Or.inl ?_;(conv=>whnf)
        rfl)
   | [x],hn=>
    simp only[List.length_cons,List.length_nil] at hn
    subst hn
    rw[hbe]
    have hg0:([x].reverse++j)[(0:Int).toNat]? = some x:=by simp
    (try (conv=>whnf));repeat' (first|(refine rd rfl hg0 ?_;conv=>whnf)|refine Ok.seq ?_|((first|refine Ok.region tok ?_|refine Ok.cond ?_|refine Ok.skip ?_|refine Ok.exit ?_|refine Ok.ret ?_);conv=>whnf)|(refine bI ?_ ?_<;>intro<;>(conv=>whnf)<;>(try (exfalso;omega)))|(refine aJ ?_;conv=>whnf)|fail)
    all_goals first
     | (exfalso;omega)
     | (refine Or.inl ?_;(conv=>whnf)
        rfl)
   | x :: y :: r,hn=>
    simp only[List.length_cons] at hn
    rw[hbe]
    (try (conv=>whnf));repeat' (first|refine Ok.seq ?_|((first|refine Ok.region tok ?_|refine Ok.cond ?_|refine Ok.exit ?_|refine Ok.ret ?_);conv=>whnf)|(refine bI ?_ ?_<;>intro<;>(conv=>whnf)<;>(try (exfalso;omega)))|fail)
    all_goals first
     | (exfalso;omega)
     | (refine Or.inl ?_;(conv=>whnf)
        rfl)
end Go.Proofs.YtcglkonooeddfaaGreatDoor
namespace Go.Proofs.YtcglkonooeddfaaGreatDoor
open Go Go.Vx Go.Shelf
def SM:Str:=[48,49,50,51,52,53,54,55,56,57,97,98,99,100,101,102]
theorem tmodN(n k:Nat):((n % k:Nat):Int)=(n:Int).tmod (k:Int):=by rw[Int.tmod_eq_emod_of_nonneg (by omega)];rfl
theorem tdivN(n k:Nat)(h:n<9223372036854775808):((n / k:Nat):Int)=IntKind.i64.wrap ((n:Int).tdiv (k:Int)):=by
 rw[Int.tdiv_eq_ediv_of_nonneg (by omega),IntKind.wrap_i64]
 have h1:((n / k:Nat):Int)=(n:Int) / (k:Int):=rfl
 have h2:=Nat.div_le_self n k
 have h3:(0:Int)<=(n:Int) / (k:Int):=Int.natCast_nonneg (n / k)
 omega
theorem sm_len(a b:Nat)(h:b<=a+1):((SM.take b).drop a).length<=1:=by simp;omega
set_option maxHeartbeats 4000000 in
theorem plain_ex:∀ (k n:Nat),n<10 ^ (k+1)->k<=9->∃ s:Str,s.length<=k+1/\FSpec Tryz.prog T 317 [.i .i64 (n:Nat)] (fun d _=>d = .s s):=by
 have base:∀ n:Nat,n<10->FSpec Tryz.prog T 317 [.i .i64 (n:Nat)] (fun d _=>d = .s ((SM.take (n+1)).drop n)):=by
  intro n hn
  refine FSpec.of_ok tok Tryz.func317 rfl Tryz.call317 (by simp) ?_
  (try (conv=>whnf));repeat' (first|(refine⟨n,n+1,rfl,rfl,(by omega),(by show n+1<=16;omega),_,rfl,?_⟩;conv=>whnf)|refine Ok.seq ?_|((first|refine Ok.region tok ?_|refine Ok.cond ?_|refine Ok.ret ?_|refine nI ?_);conv=>whnf)|(refine bI ?_ ?_<;>intro<;>(conv=>whnf)<;>(try (exfalso;omega)))|fail)
  all_goals first
   | (exfalso;omega)
   | (refine Or.inl ?_;(conv=>whnf)
      rfl)
 intro k
 induction k with
 | zero=>exact fun n hn _=>⟨_,by have:=sm_len n (n+1) (by omega);omega,base n (by omega)⟩
 | succ k ih=>
  intro n hn hk
  by_cases h10:n<10
  . exact⟨_,by have:=sm_len n (n+1) (by omega);omega,base n h10⟩
  . have hp:10 ^ (k+1+1)=10*10 ^ (k+1):=by rw[Nat.pow_succ,Nat.mul_comm]
    have hp9:10 ^ (k+1+1)<=10 ^ 11:=Nat.pow_le_pow_right (by decide) (by omega)
    have hp11:(10:Nat) ^ 11=100000000000:=by decide
    obtain⟨s,hs,hf⟩:=ih (n / 10) (by omega) (by omega)
    have hq:=tdivN n 10 (by omega)
    have hr:=tmodN n 10
    have hr2:n % 10<10:=Nat.mod_lt _ (by decide)
    have hl:=sm_len (n % 10) (n % 10+1) (by omega)
    refine⟨s++(SM.take (n % 10+1)).drop (n % 10),by rw[List.length_append];omega,?_⟩
    refine FSpec.of_ok tok Tryz.func317 rfl Tryz.call317 (by simp) ?_
    (try (conv=>whnf));repeat' (first|(refine⟨n % 10,n % 10+1,rfl,rfl,(by omega),(by show n % 10+1<=16;omega),_,rfl,?_⟩;conv=>whnf)|refine Ok.seq ?_|((first|refine Ok.region tok ?_|refine⟨_,(hq.symm).symm,?_⟩|refine⟨_,(hr.symm).symm,?_⟩|refine Ok.region_draw tok follows (by kernel_rfl) ?_|refine Ok.cond ?_|refine Ok.skip ?_|refine Ok.ret ?_|refine nI ?_|refine⟨_,by assumption,?_⟩);conv=>whnf)|(refine bI ?_ ?_<;>intro<;>(conv=>whnf)<;>(try (exfalso;omega)))|(refine aJ ?_;conv=>whnf)|fail)
    all_goals first
     | (exfalso;omega)
     | (refine Or.inl ?_;(conv=>whnf)
        rfl)
theorem plain9(n:Nat)(h:n<=4294967295):∃ s:Str,s.length<=10/\FSpec Tryz.prog T 317 [.i .i64 (n:Nat)] (fun d _=>d = .s s):=
 plain_ex 9 n (by have:(10:Nat) ^ (9+1)=10000000000:=by decide
                  omega) (by decide)
set_option maxHeartbeats 4000000 in
theorem num3_ex(v:Int)(p:Prop):∃ (s:Str) (c:Int),s.length<=43/\FSpec Tryz.prog T 312 [.i .i64 v,.b p] (fun d _=>d = .tup [.s s,.i .i64 c]):=by
 by_cases hv:v<0\/4294967295<v
 . refine⟨[],31,by simp,?_⟩
   refine FSpec.of_ok tok Tryz.func312 rfl Tryz.call312 (by simp) ?_
   (try (conv=>whnf));repeat' (first|refine Ok.seq ?_|((first|refine Ok.region tok ?_|refine Ok.cond ?_|refine Ok.ret ?_);conv=>whnf)|(refine bI ?_ ?_<;>intro<;>(conv=>whnf)<;>(try (exfalso;omega)))|fail)
   all_goals first
    | (exfalso;omega)
    | (refine Or.inl ?_;(conv=>whnf)
       rfl)
 . obtain⟨n,rfl⟩:∃ n:Nat,v=n:=⟨v.toNat,by omega⟩
   by_cases hp:p
   . obtain⟨s1,l1,f1⟩:=plain9 (n / 16777216) (by omega)
     obtain⟨s2,l2,f2⟩:=plain9 (n / 65536 % 256) (by omega)
     obtain⟨s3,l3,f3⟩:=plain9 (n / 256 % 256) (by omega)
     obtain⟨s4,l4,f4⟩:=plain9 (n % 256) (by omega)
     have q1:=tdivN n 16777216 (by omega)
     have q2:=tdivN n 65536 (by omega)
     have q3:=tdivN n 256 (by omega)
     have m2:=tmodN (n / 65536) 256
     have m3:=tmodN (n / 256) 256
     have m4:=tmodN n 256
     refine⟨s1++[46]++s2++[46]++s3++[46]++s4,0,by simp;omega,?_⟩
     refine FSpec.of_ok tok Tryz.func312 rfl Tryz.call312 (by simp) ?_
     (try (conv=>whnf));repeat' (first|refine Ok.seq ?_|((first|refine Ok.region tok ?_|refine⟨_,(q1.symm).symm,?_⟩|refine⟨_,(q2.symm).symm,?_⟩|refine⟨_,(q3.symm).symm,?_⟩|refine⟨_,(m2.symm).symm,?_⟩|refine⟨_,(m3.symm).symm,?_⟩|refine⟨_,(m4.symm).symm,?_⟩|refine Ok.cond ?_|refine Ok.skip ?_|refine Ok.ret ?_);conv=>whnf)|(refine Or.inl ?_;(conv=>whnf);(repeat (refine aI ?_;conv=>whnf));refine⟨_,f1,rfl,?_⟩;conv=>whnf)|(refine Or.inl ?_;(conv=>whnf);(repeat (refine aI ?_;conv=>whnf));refine⟨_,f2,rfl,?_⟩;conv=>whnf)|(refine Or.inl ?_;(conv=>whnf);(repeat (refine aI ?_;conv=>whnf));refine⟨_,f3,rfl,?_⟩;conv=>whnf)|(refine Or.inl ?_;(conv=>whnf);(repeat (refine aI ?_;conv=>whnf));refine⟨_,f4,rfl,?_⟩;conv=>whnf)|(refine bI ?_ ?_<;>intro<;>(conv=>whnf)<;>(try (exfalso;omega)))|(refine aJ ?_;conv=>whnf)|fail)
     all_goals first
      | (exfalso;omega)
      | (rename_i h;exact absurd hp h)
      | (refine Or.inl ?_;(conv=>whnf)
         rfl)
   . obtain⟨s1,l1,f1⟩:=plain9 n (by omega)
     refine⟨s1,0,by omega,?_⟩
     refine FSpec.of_ok tok Tryz.func312 rfl Tryz.call312 (by simp) ?_
     (try (conv=>whnf));repeat' (first|refine Ok.seq ?_|((first|refine Ok.region tok ?_|refine Ok.cond ?_|refine Ok.skip ?_|refine Ok.ret ?_);conv=>whnf)|(refine Or.inl ?_;(conv=>whnf);(repeat (refine aI ?_;conv=>whnf));refine⟨_,f1,rfl,?_⟩;conv=>whnf)|(refine bI ?_ ?_<;>intro<;>(conv=>whnf)<;>(try (exfalso;omega)))|((first|refine aJ ?_|refine num_any ?_);conv=>whnf)|fail)
     all_goals first
      | (exfalso;omega)
      | (rename_i h;exact absurd h hp)
      | (refine Or.inl ?_;(conv=>whnf)
         rfl)
theorem number_ex(v:Int)(p:Prop):∃ s:Str,s.length<=43/\FSpec Tryz.prog T 305 [.i .i64 v,.b p] (fun d _=>d = .s s):=by
 by_cases hp:p
 . obtain⟨s,c,hl,hf⟩:=num3_ex v True
   refine⟨s,hl,?_⟩
   refine FSpec.of_ok tok Tryz.func305 rfl Tryz.call305 (by simp) ?_
   (try (conv=>whnf));repeat' (first|refine Ok.seq ?_|((first|refine Ok.region tok ?_|refine Ok.ret ?_);conv=>whnf)|(refine Or.inl ?_;(conv=>whnf);(repeat (refine aI ?_;conv=>whnf));refine⟨_,hf,rfl,?_⟩;conv=>whnf)|(refine bI ?_ ?_<;>intro<;>(conv=>whnf)<;>(try (exfalso;omega)))|fail)
   all_goals first
    | (exfalso;omega)
    | (rename_i h;exact absurd hp h)
    | (refine Or.inl ?_;(conv=>whnf)
       rfl)
 . obtain⟨s,c,hl,hf⟩:=num3_ex v (65536<=v)
   refine⟨s,hl,?_⟩
   refine FSpec.of_ok tok Tryz.func305 rfl Tryz.call305 (by simp) ?_
   (try (conv=>whnf));repeat' (first|refine Ok.seq ?_|((first|refine Ok.region tok ?_|refine Ok.ret ?_);conv=>whnf)|(refine Or.inl ?_;(conv=>whnf);(repeat (refine aI ?_;conv=>whnf));refine⟨_,hf,rfl,?_⟩;conv=>whnf)|(refine bI ?_ ?_<;>intro<;>(conv=>whnf)<;>(try (exfalso;omega)))|fail)
   all_goals first
    | (exfalso;omega)
    | (rename_i h;exact absurd h hp)
    | (refine Or.inl ?_;(conv=>whnf)
       rfl)
theorem sign_ex(op:Int):∃ s:Str,s.length<=2/\FSpec Tryz.prog T 304 [.i .i64 op] (fun d _=>d = .s s):=by
 have go:∀ s:Str,(s=if op=1 then [61] else if op=2 then [33,61] else if op=3 then [60] else if op=4 then [60,61] else if op=5 then [62] else if op=6 then [62,61] else [])->FSpec Tryz.prog T 304 [.i .i64 op] (fun d _=>d = .s s):=by
  intro s hs
  refine FSpec.of_ok tok Tryz.func304 rfl Tryz.call304 (by simp) ?_
  (try (conv=>whnf));repeat' (first|refine Ok.seq ?_|((first|refine Ok.region tok ?_|refine Ok.cond ?_);conv=>whnf)|refine Ok.block ?_|((first|refine Ok.skip ?_|refine Ok.ret ?_);conv=>whnf)|(refine bI ?_ ?_<;>intro<;>(conv=>whnf)<;>(try (exfalso;omega)))|fail)
  all_goals
   refine Or.inl ?_;(conv=>whnf)
   rw[hs]
   first
    | (rename_i h;subst h;rfl)
    | (simp[*];rfl)
 refine⟨_,?_,go _ rfl⟩
 repeat' split
 all_goals decide
set_option maxHeartbeats 8000000 in
theorem testText_ex(f:Str)(op form lo hi len:Int)(pat:Str)(hf:f.length<=1000000000000)(hp:pat.length<=1000000000000) :
    ∃ s:Str,s.length<=f.length+pat.length+100/\FSpec Tryz.prog T 288 [.agg [.s f,.i .i64 op,.i .i64 form,.i .i64 lo,.i .i64 hi,.i .i64 len,.s pat]] (fun d _=>d = .s s):=by
 obtain⟨sg,lg,fg⟩:=sign_ex op
 obtain⟨a1,k1,f1⟩:=number_ex lo True
 obtain⟨a2,k2,f2⟩:=number_ex len False
 obtain⟨a3,k3,f3⟩:=number_ex lo False
 obtain⟨a4,k4,f4⟩:=number_ex hi False
 have h6:6=6:=rfl
 by_cases c2:form=2
 . refine⟨f++[32]++sg++[32]++a1++[47]++a2,by simp;omega,?_⟩
   refine FSpec.of_ok tok Tryz.func288 rfl Tryz.call288 (by simp) ?_
   (try (conv=>whnf));repeat' (first|refine Ok.seq ?_|((first|refine Ok.region tok ?_|refine Ok.region_draw tok follows (by kernel_rfl) ?_|refine Ok.cond ?_);conv=>whnf)|refine Ok.block ?_|((first|refine Ok.ret ?_|refine⟨_,by assumption,?_⟩);conv=>whnf)|(refine bI ?_ ?_<;>intro<;>(conv=>whnf)<;>(try (exfalso;omega)))|(refine aJ ?_;conv=>whnf)|fail)
   all_goals first
    | (exfalso;omega)
    | (refine Or.inl ?_;(conv=>whnf)
       rfl)
 by_cases c3:form=3
 . refine⟨f++[32]++sg++[32]++a3++[46,46]++a4,by simp;omega,?_⟩
   refine FSpec.of_ok tok Tryz.func288 rfl Tryz.call288 (by simp) ?_
   (try (conv=>whnf));repeat' (first|refine Ok.seq ?_|((first|refine Ok.region tok ?_|refine Ok.region_draw tok follows (by kernel_rfl) ?_|refine Ok.cond ?_);conv=>whnf)|refine Ok.block ?_|((first|refine Ok.ret ?_|refine⟨_,by assumption,?_⟩);conv=>whnf)|(refine bI ?_ ?_<;>intro<;>(conv=>whnf)<;>(try (exfalso;omega)))|(refine aJ ?_;conv=>whnf)|fail)
   all_goals first
    | (exfalso;omega)
    | (refine Or.inl ?_;(conv=>whnf)
       rfl)
 by_cases c4:form=4
 . refine⟨f++[32]++sg++[32]++[37]++pat,by simp;omega,?_⟩
   refine FSpec.of_ok tok Tryz.func288 rfl Tryz.call288 (by simp) ?_
   (try (conv=>whnf));repeat' (first|refine Ok.seq ?_|((first|refine Ok.region tok ?_|refine Ok.region_draw tok follows (by kernel_rfl) ?_|refine Ok.cond ?_);conv=>whnf)|refine Ok.block ?_|((first|refine Ok.ret ?_|refine⟨_,by assumption,?_⟩);conv=>whnf)|(refine bI ?_ ?_<;>intro<;>(conv=>whnf)<;>(try (exfalso;omega)))|(refine aJ ?_;conv=>whnf)|fail)
   all_goals first
    | (exfalso;omega)
    | (refine Or.inl ?_;(conv=>whnf)
       rfl)
 . refine⟨f++[32]++sg++[32]++a3,by simp;omega,?_⟩
   refine FSpec.of_ok tok Tryz.func288 rfl Tryz.call288 (by simp) ?_
   (try (conv=>whnf));repeat' (first|refine Ok.seq ?_|((first|refine Ok.region tok ?_|refine Ok.region_draw tok follows (by kernel_rfl) ?_|refine Ok.cond ?_);conv=>whnf)|refine Ok.block ?_|((first|refine Ok.skip ?_|refine Ok.ret ?_|refine⟨_,by assumption,?_⟩);conv=>whnf)|(refine Or.inl ?_;(conv=>whnf);(repeat (refine aI ?_;conv=>whnf));refine⟨_,f3,rfl,?_⟩;conv=>whnf)|(refine bI ?_ ?_<;>intro<;>(conv=>whnf)<;>(try (exfalso;omega)))|(refine aJ ?_;conv=>whnf)|fail)
   all_goals first
    | (exfalso;omega)
    | (refine Or.inl ?_;(conv=>whnf)
       rfl)
theorem leaf_ex(c:Nd)(hf:c.t.f.length<=1000000000000)(hp:c.t.pat.length<=1000000000000) :
    ∃ s:Str,s.length<=c.t.f.length+c.t.pat.length+100/\FSpec Tryz.prog T 246 [.agg (nrow c)] (fun d _=>d = .s s):=by
 obtain⟨st,lt,ft⟩:=testText_ex c.t.f c.t.op c.t.form c.t.lo c.t.hi c.t.len c.t.pat hf hp
 by_cases c1:c.kind=1
 . refine⟨[97,110,121],by simp,?_⟩
   refine FSpec.of_ok tok Tryz.func246 rfl Tryz.call246 (by simp) ?_
   (try (conv=>whnf));repeat' (first|refine Ok.seq ?_|((first|refine Ok.region tok ?_|refine Ok.cond ?_);conv=>whnf)|refine Ok.block ?_|(refine Ok.ret ?_;conv=>whnf)|(refine bI ?_ ?_<;>intro<;>(conv=>whnf)<;>(try (exfalso;omega)))|fail)
   all_goals first
    | (exfalso;omega)
    | (refine Or.inl ?_;(conv=>whnf)
       rfl)
 by_cases c2:c.kind=2
 . refine⟨[110,111,110,101],by simp,?_⟩
   refine FSpec.of_ok tok Tryz.func246 rfl Tryz.call246 (by simp) ?_
   (try (conv=>whnf));repeat' (first|refine Ok.seq ?_|((first|refine Ok.region tok ?_|refine Ok.cond ?_);conv=>whnf)|refine Ok.block ?_|(refine Ok.ret ?_;conv=>whnf)|(refine bI ?_ ?_<;>intro<;>(conv=>whnf)<;>(try (exfalso;omega)))|fail)
   all_goals first
    | (exfalso;omega)
    | (refine Or.inl ?_;(conv=>whnf)
       rfl)
 . refine⟨st,lt,?_⟩
   refine FSpec.of_ok tok Tryz.func246 rfl Tryz.call246 (by simp) ?_
   (try (conv=>whnf));repeat' (first|refine Ok.seq ?_|((first|refine Ok.region tok ?_|refine Ok.cond ?_);conv=>whnf)|refine Ok.block ?_|((first|refine Ok.skip ?_|refine Ok.ret ?_);conv=>whnf)|(refine Or.inl ?_;(conv=>whnf);(repeat (refine aI ?_;conv=>whnf));refine⟨_,ft,rfl,?_⟩;conv=>whnf)|(refine bI ?_ ?_<;>intro<;>(conv=>whnf)<;>(try (exfalso;omega)))|fail)
   all_goals first
    | (exfalso;omega)
    | (refine Or.inl ?_;(conv=>whnf)
       rfl)
@[reducible] def pc(s:Str)(b n:Nat):List D:=[.s s,.i .i64 (b:Nat),.i .i64 (n:Nat)]
def inS(b:Bool)(s:Str):Str:=match b with|true=>[40]++s++[41]|false=>s
def inBy(b:Bool)(y:Nat):Nat:=match b with|true=>3|false=>y
theorem in_at(s:Str)(y n:Nat)(b:Bool)(p:Prop)(hb:p ↔ b=true)(hs:s.length<=1000000000000000)(hn:n<=1000000) :
    FSpec Tryz.prog T 247 [.agg (pc s y n),.b p] (fun d _=>d = .agg (pc (inS b s) (inBy b y) (n+cnt b))):=by
 refine FSpec.of_ok tok Tryz.func247 rfl Tryz.call247 (by simp) ?_
 cases b
 . have hp:¬ p:=fun h=>by cases hb.1 h
   (try (conv=>whnf));repeat' (first|refine Ok.seq ?_|((first|refine Ok.region tok ?_|refine Ok.cond ?_|refine Ok.skip ?_|refine Ok.ret ?_|refine nI ?_);conv=>whnf)|(refine bI ?_ ?_<;>intro<;>(conv=>whnf)<;>(try (exfalso;omega)))|(refine aJ ?_;conv=>whnf)|fail)
   all_goals first
    | (exfalso;omega)
    | (rename_i h;exact absurd h hp)
    | (refine Or.inl ?_;(conv=>whnf)
       rfl)
 . have hp:p:=hb.2 rfl
   have hl:([40]++s++[41]:Str).length=s.length+2:=by simp
   (try (conv=>whnf));repeat' (first|refine Ok.seq ?_|((first|refine Ok.region tok ?_|refine Ok.cond ?_|refine Ok.skip ?_|refine Ok.ret ?_|refine nI ?_);conv=>whnf)|(refine bI ?_ ?_<;>intro<;>(conv=>whnf)<;>(try (exfalso;omega)))|(refine aJ ?_;conv=>whnf)|fail)
   all_goals first
    | (exfalso;omega)
    | (rename_i h;exact absurd hp h)
    | (refine Or.inl ?_;(conv=>whnf)
       rfl)
theorem greater_at(a b:Nat)(aI bI:Int)(e1:aI=a)(e2:bI=b):FSpec Tryz.prog T 248 [.i .i64 aI,.i .i64 bI] (fun d _=>d = .i .i64 (max a b:Nat)):=by
 subst e1 e2
 refine FSpec.of_ok tok Tryz.func248 rfl Tryz.call248 (by simp) ?_
 (try (conv=>whnf));repeat' (first|refine Ok.seq ?_|((first|refine Ok.region tok ?_|refine Ok.cond ?_|refine Ok.skip ?_|refine Ok.ret ?_);conv=>whnf)|(refine bI ?_ ?_<;>intro<;>(conv=>whnf)<;>(try (exfalso;omega)))|fail)
 . rename_i h
   refine Or.inl ?_;(conv=>whnf)
   refine congrArg (D.i .i64) ?_
   omega
 . rename_i h
   refine Or.inl ?_;(conv=>whnf)
   refine congrArg (D.i .i64) ?_
   omega
end Go.Proofs.YtcglkonooeddfaaGreatDoor
namespace Go.Proofs.YtcglkonooeddfaaGreatDoor
open Go Go.Vx Go.Shelf
def byT:Tr->Nat|.or _ _=>1|.and _ _=>2|_=>3
theorem by_lt3(x:Tr):((byT x:Nat):Int)<3 ↔ x.isJ=true:=by cases x<;>simp[byT,Tr.isJ]
theorem by_lt2(x:Tr):((byT x:Nat):Int)<2 ↔ x.isO=true:=by cases x<;>simp[byT,Tr.isO]
theorem by_le2(x:Tr):((byT x:Nat):Int)<=2 ↔ x.isJ=true:=by cases x<;>simp[byT,Tr.isJ]
theorem by_lt1(x:Tr):((byT x:Nat):Int)<1 ↔ false=true:=by cases x<;>simp[byT]
theorem by_le1(x:Tr):((byT x:Nat):Int)<=1 ↔ x.isO=true:=by cases x<;>simp[byT,Tr.isO]
abbrev PT:=Tr × Str
@[reducible] def prow(q:PT):List D:=pc q.2 (byT q.1) q.1.nest
theorem inS_len(b:Bool)(s:Str):(inS b s).length<=s.length+2:=by cases b<;>simp[inS]
@[reducible] def LB:Nat:=3000000000000
def Fit(ps:List PT):Prop:=∀ q ∈ ps,q.2.length<=LB*q.1.sz
theorem fit_nil:Fit []:=fun q hq=>absurd hq (by simp)
theorem ppush_nil(ps:List PT)(x:PT):((ps.reverse++[]).map prow)++[prow x]=((x :: ps).reverse++[]).map prow:=by simp
theorem ppush_cons(ps:List PT)(x y:PT)(j:List PT):((ps.reverse++y :: j).map prow).set ps.length (prow x)=((x :: ps).reverse++j).map prow:=by
 rw[List.map_append,List.set_append_right _ _ (by simp)]
 simp
theorem ppile_top(x:PT)(r j:List PT):((x :: r).reverse++j)[r.length]? = some x:=by simp
theorem ppile_top2(x y:PT)(r j:List PT):((y :: x :: r).reverse++j)[r.length]? = some x:=by simp
theorem pset_top(x x':PT)(r j:List PT):((x :: r).reverse++j).set r.length x'=(x' :: r).reverse++j:=by simp
theorem pset_top2(x y x':PT)(r j:List PT):((y :: x :: r).reverse++j).set r.length x'=(x' :: r).reverse++(y :: j):=by simp
def tellP(e:List Nd)(d:D):Prop:=match bldO e with|some x=>∃ s:Str,d = .tup [.agg (pc s (byT x) x.nest),.b True]|none=>d = .tup [.agg (pc [] 0 0),.b False]
theorem tell_none{e:List Nd}(h:bldO e=none):tellP e (.tup [.agg (pc [] 0 0),.b False]):=by unfold tellP;rw[h]
theorem tell_some{e:List Nd}{x:Tr}(h:bldO e=some x)(s:Str):tellP e (.tup [.agg (pc s (byT x) x.nest),.b True]):=by unfold tellP;rw[h];exact⟨s,rfl⟩
def TxtOk(e:List Nd):Prop:=∀ c ∈ e,c.t.f.length<=1000000000000/\c.t.pat.length<=1000000000000
set_option maxRecDepth 100000 in
set_option maxHeartbeats 32000000 in
theorem tell_at(e:List Nd)(r1:List (List D))(hl:e.length<=64)(htx:TxtOk e):FSpec Tryz.prog T 187 [.lst 219 (e.map nrow) r1] (fun d rows=>tellP e d/\rows=[]):=by
 have h1:(e.map nrow).length=e.length:=by simp
 refine FSpec.of_ok tok Tryz.func187 rfl Tryz.call187 (by simp) ?_
 (try (conv=>whnf));repeat' (first|refine Ok.seq ?_|(refine Ok.region tok ?_;conv=>whnf)|refine Ok.block ?_|fail)
 refine Ok.ghost 4 303 rfl ?_
 (conv=>whnf)
 refine Ok.loopU [0,2] [4,5] 1 1 (fun (x:Nat × Nat × List PT × List PT)=>[.own 0 x.2.1,.i .i64 (x.1:Nat)]) (fun _ b=>b) (fun (x:Nat × Nat × List PT × List PT) (_:Vx.Rows)=>[some (303,(x.2.2.1.reverse++x.2.2.2).map prow)]) (fun (x:Nat × Nat × List PT × List PT)=>x.1<=e.length/\x.2.2.1.length=x.2.1/\x.2.1+x.2.2.2.length<=x.1/\buildR e []=buildR (e.drop x.1) (x.2.2.1.map Prod.fst)/\Fit x.2.2.1/\szs (x.2.2.1.map Prod.fst)<=x.1) (fun (x:Nat × Nat × List PT × List PT)=>e.length - x.1) ((0,0,[],[])) (⟨Nat.zero_le _,rfl,Nat.le_refl _,rfl,fit_nil,Nat.le_refl _⟩) ?_;(conv=>whnf);refine⟨by ((conv=>whnf);first|rfl|(simp[envCat,List.take_of_length_le,nrow,frow,tcells,qrow,prow];done)|(simp[envCat,List.take_of_length_le,nrow,frow,tcells,qrow,prow];rw[IntKind.wrap_i64];omega)),?_⟩
 rintro⟨i,n,ps,j⟩ ⟨hi,hn,hj,hb,hfit,hsz⟩
 dsimp only at hi hn hj hb hfit hsz ⊢
 have hlm:((ps.reverse++j).map prow).length=n+j.length:=by simp[hn]
 (conv=>whnf)
 by_cases hil:i<e.length
 . obtain⟨c,hc⟩:∃ c,e[i]? = some c:=⟨_,List.getElem?_eq_getElem hil⟩
   have hcI:e[((i:Nat):Int).toNat]? = some c:=hc
   have htc:=htx c (List.mem_of_getElem? hc)
   obtain⟨lt,hlt,hlf⟩:=leaf_ex c htc.1 htc.2
   rw[edrop_at hc] at hb
   by_cases hz:c.kind ≠ 3/\¬ zT c.t
   . have hbn:=bld_none hb (bad_z hz.1 hz.2)
     have hz1:=hz.1
     have hz2:=hz.2
     (try (conv=>whnf));repeat' (first|((first|refine⟨_,eqTest,by kernel_rfl,?_⟩|refine⟨fun _=>?_,fun h=>absurd (Classical.not_not.1 h) hz2⟩);conv=>whnf)|refine Ok.seq ?_|((first|refine Ok.region tok ?_|refine Ok.cond ?_);conv=>whnf)|refine Ok.block ?_|((first|refine Ok.skip ?_|refine Ok.ret ?_|refine ix _ (by assumption) ?_);conv=>whnf)|(refine bI ?_ ?_<;>intro<;>(conv=>whnf)<;>(try (exfalso;omega)))|fail)
     all_goals first
      | (exfalso;omega)
      | (refine Or.inl ?_;(conv=>whnf)
         exact⟨tell_none hbn,rfl⟩)
   . have hst:=stepT_ok (rs:=ps.map Prod.fst) hz
     have hz3:c.kind=3\/zT c.t:=by
      by_cases h:c.kind=3
      . exact .inl h
      . exact .inr (Classical.byContradiction fun h2=>hz ⟨h,h2⟩)
     by_cases hk3:c.kind=3
     . have hb2:=bld_step hb (hst.trans (sh3 hk3))
       have hft:Fit ((Tr.test c.t,lt) :: ps):=fun q hq=>by
        rcases List.mem_cons.1 hq with rfl|hq
        . simp only[Tr.sz,LB];omega
        . exact hfit q hq
       have hsz2:szs (((Tr.test c.t,lt) :: ps:List PT).map Prod.fst)<=i+1:=by simp only[szs,List.map_cons,List.sum_cons,Tr.sz] at hsz ⊢;omega
       cases j with
       | nil=>
        simp only[List.length_nil,Nat.add_zero] at hj hlm
        (try (conv=>whnf));repeat' (first|refine Ok.seq ?_|((first|refine Ok.region tok ?_|refine Ok.cond ?_);conv=>whnf)|refine Ok.block ?_|((first|refine Ok.skip ?_|refine nI ?_|refine ix _ (by assumption) ?_);conv=>whnf)|(refine Or.inl ?_;(conv=>whnf);(repeat (refine aI ?_;conv=>whnf));refine⟨_,hlf,rfl,?_⟩;conv=>whnf)|((first|refine Alt2.l (aI ?_)|refine⟨_,.inl ⟨rfl,rfl⟩,?_⟩|refine⟨_,_,rfl,rfl,?_⟩);conv=>whnf)|(refine bI ?_ ?_<;>intro<;>(conv=>whnf)<;>(try (exfalso;omega)))|(refine aJ ?_;conv=>whnf)|fail)
        all_goals first
         | (exfalso;omega)
         | skip
        all_goals
         refine⟨(i+1,n+1,(Tr.test c.t,lt) :: ps,[]),by dsimp only;omega,⟨by dsimp only;omega,by simp[hn],by simp;omega,hb2,hft,hsz2⟩,?_⟩
         rw[<- ppush_nil]
         (conv=>whnf)
         simp[envCat,hn]
         try exact⟨rfl,rfl⟩
         try rfl
       | cons y j=>
        simp only[List.length_cons] at hj hlm
        (try (conv=>whnf));repeat' (first|refine Ok.seq ?_|((first|refine Ok.region tok ?_|refine Ok.cond ?_);conv=>whnf)|refine Ok.block ?_|((first|refine Ok.skip ?_|refine nI ?_|refine ix _ (by assumption) ?_);conv=>whnf)|(refine Or.inl ?_;(conv=>whnf);(repeat (refine aI ?_;conv=>whnf));refine⟨_,hlf,rfl,?_⟩;conv=>whnf)|((first|refine Alt2.r (aI ?_)|refine⟨_,.inl ⟨rfl,rfl⟩,?_⟩|refine⟨_,_,rfl,rfl,?_⟩);conv=>whnf)|(refine bI ?_ ?_<;>intro<;>(conv=>whnf)<;>(try (exfalso;omega)))|((first|refine aJ ?_|refine⟨_,rfl,?_⟩);conv=>whnf)|fail)
        all_goals first
         | (exfalso;omega)
         | skip
        all_goals
         refine⟨(i+1,n+1,(Tr.test c.t,lt) :: ps,j),by dsimp only;omega,⟨by dsimp only;omega,by simp[hn],by simp;omega,hb2,hft,hsz2⟩,?_⟩
         rw[<- ppush_cons ps _ y j,hn]
         (conv=>whnf)
         simp[envCat,hn]
         try exact⟨rfl,rfl⟩
         try rfl
     have hz4:zT c.t:=hz3.resolve_left hk3
     by_cases hk1:c.kind=1\/c.kind=2
     . have hb2:=bld_step hb (hst.trans (sh12 hk1))
       have hft:Fit ((Tr.leaf (c.kind=1),lt) :: ps):=fun q hq=>by
        rcases List.mem_cons.1 hq with rfl|hq
        . simp only[Tr.sz,LB];omega
        . exact hfit q hq
       have hsz2:szs (((Tr.leaf (c.kind=1),lt) :: ps:List PT).map Prod.fst)<=i+1:=by simp only[szs,List.map_cons,List.sum_cons,Tr.sz] at hsz ⊢;omega
       cases j with
       | nil=>
        simp only[List.length_nil,Nat.add_zero] at hj hlm
        (try (conv=>whnf));repeat' (first|((first|refine⟨_,eqTest,by kernel_rfl,?_⟩|refine⟨fun h=>absurd hz4 h,fun _=>?_⟩);conv=>whnf)|refine Ok.seq ?_|((first|refine Ok.region tok ?_|refine Ok.cond ?_);conv=>whnf)|refine Ok.block ?_|((first|refine Ok.skip ?_|refine nI ?_|refine ix _ (by assumption) ?_);conv=>whnf)|(refine Or.inl ?_;(conv=>whnf);(repeat (refine aI ?_;conv=>whnf));refine⟨_,hlf,rfl,?_⟩;conv=>whnf)|((first|refine Alt2.l (aI ?_)|refine⟨_,.inl ⟨rfl,rfl⟩,?_⟩|refine⟨_,_,rfl,rfl,?_⟩);conv=>whnf)|(refine bI ?_ ?_<;>intro<;>(conv=>whnf)<;>(try (exfalso;omega)))|(refine aJ ?_;conv=>whnf)|fail)
        all_goals first
         | (exfalso;omega)
         | skip
        all_goals
         refine⟨(i+1,n+1,(Tr.leaf (c.kind=1),lt) :: ps,[]),by dsimp only;omega,⟨by dsimp only;omega,by simp[hn],by simp;omega,hb2,hft,hsz2⟩,?_⟩
         rw[<- ppush_nil]
         (conv=>whnf)
         simp[envCat,hn]
         try exact⟨rfl,rfl⟩
         try rfl
       | cons y j=>
        simp only[List.length_cons] at hj hlm
        (try (conv=>whnf));repeat' (first|((first|refine⟨_,eqTest,by kernel_rfl,?_⟩|refine⟨fun h=>absurd hz4 h,fun _=>?_⟩);conv=>whnf)|refine Ok.seq ?_|((first|refine Ok.region tok ?_|refine Ok.cond ?_);conv=>whnf)|refine Ok.block ?_|((first|refine Ok.skip ?_|refine nI ?_|refine ix _ (by assumption) ?_);conv=>whnf)|(refine Or.inl ?_;(conv=>whnf);(repeat (refine aI ?_;conv=>whnf));refine⟨_,hlf,rfl,?_⟩;conv=>whnf)|((first|refine Alt2.r (aI ?_)|refine⟨_,.inl ⟨rfl,rfl⟩,?_⟩|refine⟨_,_,rfl,rfl,?_⟩);conv=>whnf)|(refine bI ?_ ?_<;>intro<;>(conv=>whnf)<;>(try (exfalso;omega)))|((first|refine aJ ?_|refine⟨_,rfl,?_⟩);conv=>whnf)|fail)
        all_goals first
         | (exfalso;omega)
         | skip
        all_goals
         refine⟨(i+1,n+1,(Tr.leaf (c.kind=1),lt) :: ps,j),by dsimp only;omega,⟨by dsimp only;omega,by simp[hn],by simp;omega,hb2,hft,hsz2⟩,?_⟩
         rw[<- ppush_cons ps _ y j,hn]
         (conv=>whnf)
         simp[envCat,hn]
         try exact⟨rfl,rfl⟩
         try rfl
     by_cases hk4:c.kind=4
     . match ps,hn with
       | [],hn=>
        simp only[List.length_nil] at hn
        subst hn
        have hbn:=bld_none hb (hst.trans (sh4 hk4))
        (try (conv=>whnf));repeat' (first|((first|refine⟨_,eqTest,by kernel_rfl,?_⟩|refine⟨fun h=>absurd hz4 h,fun _=>?_⟩);conv=>whnf)|refine Ok.seq ?_|((first|refine Ok.region tok ?_|refine Ok.cond ?_);conv=>whnf)|refine Ok.block ?_|((first|refine Ok.skip ?_|refine Ok.ret ?_|refine ix _ (by assumption) ?_);conv=>whnf)|(refine bI ?_ ?_<;>intro<;>(conv=>whnf)<;>(try (exfalso;omega)))|fail)
        all_goals first
         | (exfalso;omega)
         | (refine Or.inl ?_;(conv=>whnf)
            exact⟨tell_none hbn,rfl⟩)
       | (x,s) :: r,hn=>
        simp only[List.length_cons] at hn
        obtain⟨m,rfl⟩:∃ m,n=m+1:=⟨n - 1,by omega⟩
        have hm:r.length=m:=by omega
        have hb2:=bld_step hb (hst.trans (sh4 hk4))
        have hmI:(((m+1:Nat):Int) - 1).toNat=m:=by omega
        have hg1:(((x,s) :: r).reverse++j)[(((m+1:Nat):Int) - 1).toNat]? = some (x,s):=by rw[hmI,<- hm];exact ppile_top (x,s) r j
        have hlx:=hfit (x,s) (by simp)
        simp only[szs,List.map_cons,List.sum_cons] at hsz
        simp only[LB] at hlx
        have hnx:=nest_le x
        have hix:=inS_len x.isJ s
        have hil2:([33]++inS x.isJ s:Str).length=(inS x.isJ s).length+1:=by simp
        have hin:=in_at s (byT x) x.nest x.isJ (((byT x:Nat):Int)<3) (by_lt3 x) (by omega) (by omega)
        have hcl:=cnt_le x.isJ
        (try (conv=>whnf));repeat' (first|((first|refine⟨_,eqTest,by kernel_rfl,?_⟩|refine⟨fun h=>absurd hz4 h,fun _=>?_⟩|refine rd rfl hg1 ?_|refine st (Tr.neg x,[33]++inS x.isJ s) hg1 (by simp) rfl ?_);conv=>whnf)|refine Ok.seq ?_|((first|refine Ok.region tok ?_|refine Ok.region_tree (id:=17) tok follows [(4,12,[]),(10,12,[11]),(4,14,[]),(10,14,[]),(12,14,[]),(13,14,[])] (.q 0 (.q 1 (.q 2 (.q 3 (.q 4 (.q 5 (.q 6 (.q 7 (.q 8 (.q 9 (.q 10 (.q 11 (.alt 12 (.l 13 (.l 14 .nil)) (.alt 13 (.l 12 (.l 14 .nil)) .nil)))))))))))))) (by kernel_rfl) ?_|refine Ok.cond ?_);conv=>whnf)|refine Ok.block ?_|((first|refine Ok.skip ?_|refine nI ?_|refine ix _ (by assumption) ?_);conv=>whnf)|(refine Or.inl ?_;(conv=>whnf);(repeat (refine aI ?_;conv=>whnf));refine⟨_,hin,rfl,?_⟩;conv=>whnf)|(refine bI ?_ ?_<;>intro<;>(conv=>whnf)<;>(try (exfalso;omega)))|(refine aJ ?_;conv=>whnf)|(exact True.intro)|(refine And.intro ?_ ?_<;>(conv=>whnf))|fail)
        all_goals first
         | (exfalso;omega)
         | skip
        all_goals
         refine⟨(i+1,m+1,(Tr.neg x,[33]++inS x.isJ s) :: r,j),by dsimp only;omega,⟨by dsimp only;omega,by simp[hm],by dsimp only;omega,hb2,?_,?_⟩,?_⟩
         . intro q hq
           rcases List.mem_cons.1 hq with rfl|hq
           . simp only[Tr.sz,LB];omega
           . exact hfit q (by simp[hq])
         . simp only[szs,List.map_cons,List.sum_cons,Tr.sz];omega
         . rw[hmI,<- hm,pset_top]
           (conv=>whnf)
           rfl
     by_cases hk5:c.kind=5
     . match ps,hn with
       | [],hn=>
        simp only[List.length_nil] at hn
        subst hn
        have hbn:=bld_none hb (hst.trans (sh5 hk5))
        (try (conv=>whnf));repeat' (first|((first|refine⟨_,eqTest,by kernel_rfl,?_⟩|refine⟨fun h=>absurd hz4 h,fun _=>?_⟩);conv=>whnf)|refine Ok.seq ?_|((first|refine Ok.region tok ?_|refine Ok.cond ?_);conv=>whnf)|refine Ok.block ?_|((first|refine Ok.skip ?_|refine Ok.ret ?_|refine ix _ (by assumption) ?_);conv=>whnf)|(refine bI ?_ ?_<;>intro<;>(conv=>whnf)<;>(try (exfalso;omega)))|fail)
        all_goals first
         | (exfalso;omega)
         | (refine Or.inl ?_;(conv=>whnf)
            exact⟨tell_none hbn,rfl⟩)
       | [y],hn=>
        simp only[List.length_cons,List.length_nil] at hn
        subst hn
        have hbn:=bld_none hb (hst.trans (sh5 hk5))
        (try (conv=>whnf));repeat' (first|((first|refine⟨_,eqTest,by kernel_rfl,?_⟩|refine⟨fun h=>absurd hz4 h,fun _=>?_⟩);conv=>whnf)|refine Ok.seq ?_|((first|refine Ok.region tok ?_|refine Ok.cond ?_);conv=>whnf)|refine Ok.block ?_|((first|refine Ok.skip ?_|refine Ok.ret ?_|refine ix _ (by assumption) ?_);conv=>whnf)|(refine bI ?_ ?_<;>intro<;>(conv=>whnf)<;>(try (exfalso;omega)))|fail)
        all_goals first
         | (exfalso;omega)
         | (refine Or.inl ?_;(conv=>whnf)
            exact⟨tell_none hbn,rfl⟩)
       | (y,t) :: (x,s) :: r,hn=>
        simp only[List.length_cons] at hn
        obtain⟨m,rfl⟩:∃ m,n=m+2:=⟨n - 2,by omega⟩
        have hm:r.length=m:=by omega
        have hb2:=bld_step hb (hst.trans (sh5 hk5))
        have hmI:(((m+2:Nat):Int) - 1).toNat=m+1:=by omega
        have hmJ:(((m+2:Nat):Int) - 2).toNat=m:=by omega
        have hg1:(((y,t) :: (x,s) :: r).reverse++j)[(((m+2:Nat):Int) - 1).toNat]? = some (y,t):=by rw[hmI,<- hm];exact ppile_top (y,t) ((x,s) :: r) j
        have hg2:(((y,t) :: (x,s) :: r).reverse++j)[(((m+2:Nat):Int) - 2).toNat]? = some (x,s):=by rw[hmJ,<- hm];exact ppile_top2 (x,s) (y,t) r j
        have hlx:=hfit (x,s) (by simp)
        have hly:=hfit (y,t) (by simp)
        simp only[szs,List.map_cons,List.sum_cons] at hsz
        simp only[LB] at hlx hly
        have hnx:=nest_le x
        have hny:=nest_le y
        have hix:=inS_len x.isO s
        have hiy:=inS_len y.isJ t
        have hcx:=cnt_le x.isO
        have hcy:=cnt_le y.isJ
        have hi1:(inS x.isO s++[32,38,32]:Str).length=(inS x.isO s).length+3:=by simp
        have hi2:(inS x.isO s++[32,38,32]++inS y.isJ t:Str).length=(inS x.isO s).length+3+(inS y.isJ t).length:=by rw[List.length_append,hi1]
        have hin1:=in_at s (byT x) x.nest x.isO (((byT x:Nat):Int)<2) (by_lt2 x) (by omega) (by omega)
        have hin2:=in_at t (byT y) y.nest y.isJ (((byT y:Nat):Int)<=2) (by_le2 y) (by omega) (by omega)
        have hgr:=greater_at (x.nest+cnt x.isO) (y.nest+cnt y.isJ) _ _ rfl rfl
        have hy1:IntKind.i64.wrap (6 - c.kind)=1:=by rw[hk5];decide
        have hy2:IntKind.i64.wrap (1+1)=2:=by decide
        (try (conv=>whnf));repeat' (first|((first|refine⟨_,eqTest,by kernel_rfl,?_⟩|refine⟨fun h=>absurd hz4 h,fun _=>?_⟩|refine rd rfl hg1 ?_|refine rd rfl hg2 ?_|refine st (Tr.and x y,inS x.isO s++[32,38,32]++inS y.isJ t) hg2 (by simp) rfl ?_);conv=>whnf)|(refine⟨m+1,rfl,(by show ((m+2:Nat):Int) - 1=((m+1:Nat):Int);omega),(by first|omega|(simp;omega)),?_⟩;conv=>whnf)|refine Ok.seq ?_|((first|refine Ok.region tok ?_|refine Ok.region_tree (id:=24) tok follows [(4,13,[]),(10,13,[12]),(4,15,[]),(10,15,[]),(13,15,[]),(14,15,[])] (.q 0 (.q 1 (.q 2 (.q 3 (.q 4 (.q 5 (.q 6 (.q 7 (.q 8 (.q 9 (.q 10 (.q 11 (.q 12 (.alt 13 (.l 14 (.l 15 .nil)) (.alt 14 (.l 13 (.l 15 .nil)) .nil))))))))))))))) (by kernel_rfl) ?_|refine Ok.region_tree (id:=25) tok follows [(4,13,[]),(10,13,[12]),(4,15,[]),(10,15,[]),(13,15,[]),(14,15,[])] (.q 0 (.q 1 (.q 2 (.q 3 (.q 4 (.q 5 (.q 6 (.q 7 (.q 8 (.q 9 (.q 10 (.q 11 (.q 12 (.alt 13 (.l 14 (.l 15 .nil)) (.alt 14 (.l 13 (.l 15 .nil)) .nil))))))))))))))) (by kernel_rfl) ?_|refine Ok.region_plan (id:=29) tok follows [(12,15,[]),(14,15,[]),(4,18,[]),(8,18,[]),(12,18,[]),(14,18,[]),(15,18,[])] [.q 0,.q 1,.q 2,.q 3,.q 4,.q 5,.q 6,.q 7,.q 8,.q 9,.q 10,.q 11,.q 12,.q 13,.q 14,.l 15,.q 16,.q 17,.l 18] (by kernel_rfl) ?_|refine⟨_,(hy1).symm,?_⟩|refine⟨_,(hy2).symm,?_⟩|refine Ok.cond ?_);conv=>whnf)|refine Ok.block ?_|((first|refine Ok.skip ?_|refine nI ?_|refine ix _ (by assumption) ?_);conv=>whnf)|(refine Or.inl ?_;(conv=>whnf);(repeat (refine aI ?_;conv=>whnf));refine⟨_,hin1,rfl,?_⟩;conv=>whnf)|(refine Or.inl ?_;(conv=>whnf);(repeat (refine aI ?_;conv=>whnf));refine⟨_,hin2,rfl,?_⟩;conv=>whnf)|(refine Or.inl ?_;(conv=>whnf);(repeat (refine aI ?_;conv=>whnf));refine⟨_,hgr,rfl,?_⟩;conv=>whnf)|(refine bI ?_ ?_<;>intro<;>(conv=>whnf)<;>(try (exfalso;omega)))|(refine aJ ?_;conv=>whnf)|(exact True.intro)|(refine And.intro ?_ ?_<;>(conv=>whnf))|fail)
        all_goals first
         | (exfalso;omega)
         | skip
        all_goals
         refine⟨(i+1,m+1,(Tr.and x y,inS x.isO s++[32,38,32]++inS y.isJ t) :: r,(y,t) :: j),by dsimp only;omega,⟨by dsimp only;omega,by simp[hm],by simp;omega,hb2,?_,?_⟩,?_⟩
         . intro q hq
           rcases List.mem_cons.1 hq with rfl|hq
           . simp only[Tr.sz,LB];omega
           . exact hfit q (by simp[hq])
         . simp only[szs,List.map_cons,List.sum_cons,Tr.sz];omega
         . rw[hmJ,<- hm,pset_top2]
           (conv=>whnf)
           rfl
     by_cases hk6:c.kind=6
     . match ps,hn with
       | [],hn=>
        simp only[List.length_nil] at hn
        subst hn
        have hbn:=bld_none hb (hst.trans (sh6 hk6))
        (try (conv=>whnf));repeat' (first|((first|refine⟨_,eqTest,by kernel_rfl,?_⟩|refine⟨fun h=>absurd hz4 h,fun _=>?_⟩);conv=>whnf)|refine Ok.seq ?_|((first|refine Ok.region tok ?_|refine Ok.cond ?_);conv=>whnf)|refine Ok.block ?_|((first|refine Ok.skip ?_|refine Ok.ret ?_|refine ix _ (by assumption) ?_);conv=>whnf)|(refine bI ?_ ?_<;>intro<;>(conv=>whnf)<;>(try (exfalso;omega)))|fail)
        all_goals first
         | (exfalso;omega)
         | (refine Or.inl ?_;(conv=>whnf)
            exact⟨tell_none hbn,rfl⟩)
       | [y],hn=>
        simp only[List.length_cons,List.length_nil] at hn
        subst hn
        have hbn:=bld_none hb (hst.trans (sh6 hk6))
        (try (conv=>whnf));repeat' (first|((first|refine⟨_,eqTest,by kernel_rfl,?_⟩|refine⟨fun h=>absurd hz4 h,fun _=>?_⟩);conv=>whnf)|refine Ok.seq ?_|((first|refine Ok.region tok ?_|refine Ok.cond ?_);conv=>whnf)|refine Ok.block ?_|((first|refine Ok.skip ?_|refine Ok.ret ?_|refine ix _ (by assumption) ?_);conv=>whnf)|(refine bI ?_ ?_<;>intro<;>(conv=>whnf)<;>(try (exfalso;omega)))|fail)
        all_goals first
         | (exfalso;omega)
         | (refine Or.inl ?_;(conv=>whnf)
            exact⟨tell_none hbn,rfl⟩)
       | (y,t) :: (x,s) :: r,hn=>
        simp only[List.length_cons] at hn
        obtain⟨m,rfl⟩:∃ m,n=m+2:=⟨n - 2,by omega⟩
        have hm:r.length=m:=by omega
        have hb2:=bld_step hb (hst.trans (sh6 hk6))
        have hmI:(((m+2:Nat):Int) - 1).toNat=m+1:=by omega
        have hmJ:(((m+2:Nat):Int) - 2).toNat=m:=by omega
        have hg1:(((y,t) :: (x,s) :: r).reverse++j)[(((m+2:Nat):Int) - 1).toNat]? = some (y,t):=by rw[hmI,<- hm];exact ppile_top (y,t) ((x,s) :: r) j
        have hg2:(((y,t) :: (x,s) :: r).reverse++j)[(((m+2:Nat):Int) - 2).toNat]? = some (x,s):=by rw[hmJ,<- hm];exact ppile_top2 (x,s) (y,t) r j
        have hlx:=hfit (x,s) (by simp)
        have hly:=hfit (y,t) (by simp)
        simp only[szs,List.map_cons,List.sum_cons] at hsz
        simp only[LB] at hlx hly
        have hnx:=nest_le x
        have hny:=nest_le y
        have hix:=inS_len false s
        have hiy:=inS_len y.isO t
        have hcx:=cnt_le false
        have hcy:=cnt_le y.isO
        have hi1:(inS false s++[32,124,32]:Str).length=(inS false s).length+3:=by simp
        have hi2:(inS false s++[32,124,32]++inS y.isO t:Str).length=(inS false s).length+3+(inS y.isO t).length:=by rw[List.length_append,hi1]
        have hin1:=in_at s (byT x) x.nest false (((byT x:Nat):Int)<1) (by_lt1 x) (by omega) (by omega)
        have hin2:=in_at t (byT y) y.nest y.isO (((byT y:Nat):Int)<=1) (by_le1 y) (by omega) (by omega)
        have hgr:=greater_at (x.nest+cnt false) (y.nest+cnt y.isO) _ _ rfl rfl
        have hy1:IntKind.i64.wrap (6 - c.kind)=0:=by rw[hk6];decide
        have hy2:IntKind.i64.wrap (1+0)=1:=by decide
        (try (conv=>whnf));repeat' (first|((first|refine⟨_,eqTest,by kernel_rfl,?_⟩|refine⟨fun h=>absurd hz4 h,fun _=>?_⟩|refine rd rfl hg1 ?_|refine rd rfl hg2 ?_|refine st (Tr.or x y,inS false s++[32,124,32]++inS y.isO t) hg2 (by simp) rfl ?_);conv=>whnf)|(refine⟨m+1,rfl,(by show ((m+2:Nat):Int) - 1=((m+1:Nat):Int);omega),(by first|omega|(simp;omega)),?_⟩;conv=>whnf)|refine Ok.seq ?_|((first|refine Ok.region tok ?_|refine Ok.region_tree (id:=24) tok follows [(4,13,[]),(10,13,[12]),(4,15,[]),(10,15,[]),(13,15,[]),(14,15,[])] (.q 0 (.q 1 (.q 2 (.q 3 (.q 4 (.q 5 (.q 6 (.q 7 (.q 8 (.q 9 (.q 10 (.q 11 (.q 12 (.alt 13 (.l 14 (.l 15 .nil)) (.alt 14 (.l 13 (.l 15 .nil)) .nil))))))))))))))) (by kernel_rfl) ?_|refine Ok.region_tree (id:=25) tok follows [(4,13,[]),(10,13,[12]),(4,15,[]),(10,15,[]),(13,15,[]),(14,15,[])] (.q 0 (.q 1 (.q 2 (.q 3 (.q 4 (.q 5 (.q 6 (.q 7 (.q 8 (.q 9 (.q 10 (.q 11 (.q 12 (.alt 13 (.l 14 (.l 15 .nil)) (.alt 14 (.l 13 (.l 15 .nil)) .nil))))))))))))))) (by kernel_rfl) ?_|refine Ok.region_plan (id:=29) tok follows [(12,15,[]),(14,15,[]),(4,18,[]),(8,18,[]),(12,18,[]),(14,18,[]),(15,18,[])] [.q 0,.q 1,.q 2,.q 3,.q 4,.q 5,.q 6,.q 7,.q 8,.q 9,.q 10,.q 11,.q 12,.q 13,.q 14,.l 15,.q 16,.q 17,.l 18] (by kernel_rfl) ?_|refine⟨_,(hy1).symm,?_⟩|refine⟨_,(hy2).symm,?_⟩|refine Ok.cond ?_);conv=>whnf)|refine Ok.block ?_|((first|refine Ok.skip ?_|refine nI ?_|refine ix _ (by assumption) ?_);conv=>whnf)|(refine Or.inl ?_;(conv=>whnf);(repeat (refine aI ?_;conv=>whnf));refine⟨_,hin1,rfl,?_⟩;conv=>whnf)|(refine Or.inl ?_;(conv=>whnf);(repeat (refine aI ?_;conv=>whnf));refine⟨_,hin2,rfl,?_⟩;conv=>whnf)|(refine Or.inl ?_;(conv=>whnf);(repeat (refine aI ?_;conv=>whnf));refine⟨_,hgr,rfl,?_⟩;conv=>whnf)|(refine bI ?_ ?_<;>intro<;>(conv=>whnf)<;>(try (exfalso;omega)))|(refine aJ ?_;conv=>whnf)|(exact True.intro)|(refine And.intro ?_ ?_<;>(conv=>whnf))|fail)
        all_goals first
         | (exfalso;omega)
         | skip
        all_goals
         refine⟨(i+1,m+1,(Tr.or x y,inS false s++[32,124,32]++inS y.isO t) :: r,(y,t) :: j),by dsimp only;omega,⟨by dsimp only;omega,by simp[hm],by simp;omega,hb2,?_,?_⟩,?_⟩
         . intro q hq
           rcases List.mem_cons.1 hq with rfl|hq
           . simp only[Tr.sz,LB];omega
           . exact hfit q (by simp[hq])
         . simp only[szs,List.map_cons,List.sum_cons,Tr.sz];omega
         . rw[hmJ,<- hm,pset_top2]
           (conv=>whnf)
           rfl
     have hbn:=bld_none hb (hst.trans (sh0 (by omega)))
     (try (conv=>whnf));repeat' (first|((first|refine⟨_,eqTest,by kernel_rfl,?_⟩|refine⟨fun h=>absurd hz4 h,fun _=>?_⟩);conv=>whnf)|refine Ok.seq ?_|((first|refine Ok.region tok ?_|refine Ok.cond ?_);conv=>whnf)|refine Ok.block ?_|((first|refine Ok.skip ?_|refine Ok.ret ?_|refine ix _ (by assumption) ?_);conv=>whnf)|(refine bI ?_ ?_<;>intro<;>(conv=>whnf)<;>(try (exfalso;omega)))|fail)
     all_goals first
      | (exfalso;omega)
      | (refine Or.inl ?_;(conv=>whnf)
         exact⟨tell_none hbn,rfl⟩)
 . have hie:i=e.length:=by omega
   subst hie
   rw[List.drop_length] at hb
   have hbe:=bld_end hb
   match ps,hn with
   | [],hn=>
    simp only[List.length_nil] at hn
    subst hn
    (try (conv=>whnf));repeat' (first|refine Ok.seq ?_|((first|refine Ok.region tok ?_|refine Ok.cond ?_|refine Ok.exit ?_|refine Ok.ret ?_);conv=>whnf)|(refine bI ?_ ?_<;>intro<;>(conv=>whnf)<;>(try (exfalso;omega)))|fail)
    all_goals first
     | (exfalso;omega)
     | (refine Or.inl ?_;(conv=>whnf)
        exact⟨tell_none hbe,rfl⟩)
   | [(x,s)],hn=>
    simp only[List.length_cons,List.length_nil] at hn
    subst hn
    have hg0:([(x,s)].reverse++j)[(0:Int).toNat]? = some (x,s):=by simp
    (try (conv=>whnf));repeat' (first|(refine rd rfl hg0 ?_;conv=>whnf)|refine Ok.seq ?_|((first|refine Ok.region tok ?_|refine Ok.cond ?_|refine Ok.skip ?_|refine Ok.exit ?_|refine Ok.ret ?_);conv=>whnf)|(refine bI ?_ ?_<;>intro<;>(conv=>whnf)<;>(try (exfalso;omega)))|(refine aJ ?_;conv=>whnf)|fail)
    all_goals first
     | (exfalso;omega)
     | (refine Or.inl ?_;(conv=>whnf)
        exact⟨tell_some (x:=x) hbe s,rfl⟩)
   | x :: y :: r,hn=>
    simp only[List.length_cons] at hn
    (try (conv=>whnf));repeat' (first|refine Ok.seq ?_|((first|refine Ok.region tok ?_|refine Ok.cond ?_|refine Ok.exit ?_|refine Ok.ret ?_);conv=>whnf)|(refine bI ?_ ?_<;>intro<;>(conv=>whnf)<;>(try (exfalso;omega)))|fail)
    all_goals first
     | (exfalso;omega)
     | (refine Or.inl ?_;(conv=>whnf)
        exact⟨tell_none hbe,rfl⟩)
end Go.Proofs.YtcglkonooeddfaaGreatDoor
namespace Go.Proofs.YtcglkonooeddfaaGreatDoor
open Go Go.Vx Go.Shelf
def plI(nm:Str)(l:List Fd):Int:=if findI nm l 0<0 then -1 else (wid (l.take (findI nm l 0).toNat):Nat)
theorem plI_none{nm:Str}{l:List Fd}(h:findI nm l 0=-1):plI nm l=-1:=by unfold plI;rw[if_pos (by omega)]
theorem plI_some{nm:Str}{l:List Fd}{i:Nat}(h:findI nm l 0=i):plI nm l=(wid (l.take i):Nat):=by unfold plI;rw[if_neg (by omega),h];rfl
set_option maxHeartbeats 4000000 in
theorem tplace_at(l:List Fd)(r:List (List D))(nm:Str)(hl:l.length<=1000)(hlay:LayF l):FSpec Tryz.prog T 250 [.lst 127 (l.map frow) r,.s nm] (fun d _=>d = .tup [.i .i64 (plI nm l),.i .i64 (findI nm l 0)]):=by
 have h1:(l.map frow).length=l.length:=by simp
 have hw:=wid_le hlay
 refine FSpec.of_ok tok Tryz.func250 rfl Tryz.call250 (by simp) ?_
 (try (conv=>whnf));repeat' (first|refine Ok.seq ?_|(refine Ok.region tok ?_;conv=>whnf)|refine Ok.block ?_|fail)
 refine Ok.loopU [0,1] [6,7] 0 0 (fun (i:Nat)=>[.i .i64 (wid (l.take i):Nat),.i .i64 (i:Nat)]) (fun _ b=>b) (fun _ r=>r) (fun (i:Nat)=>i<=l.length/\findI nm l 0=findI nm (l.drop i) i) (fun (i:Nat)=>l.length - i) (0) (⟨Nat.zero_le _,rfl⟩) ?_;(conv=>whnf);refine⟨by ((conv=>whnf);first|rfl|(simp[envCat,List.take_of_length_le,nrow,frow,bcell,srow,tcells];done)|(simp[envCat,List.take_of_length_le,nrow,frow,bcell,srow,tcells];rw[IntKind.wrap_i64];omega)),?_⟩
 rintro i ⟨hi,hf⟩
 (conv=>whnf)
 by_cases hil:i<l.length
 . obtain⟨c,hc⟩:∃ c,l[i]? = some c:=⟨_,List.getElem?_eq_getElem hil⟩
   have hcI:l[((i:Nat):Int).toNat]? = some c:=hc
   have hcb:=hlay c (List.mem_of_getElem? hc)
   have hsn:=wid_snoc hc
   have hwt:=wid_le (l:=l.take i) fun x hx=>hlay x (List.mem_of_mem_take hx)
   have hti:(l.take i).length=i:=by simp;omega
   rw[fdrop_at hc] at hf
   (try (conv=>whnf));repeat' (first|refine Ok.seq ?_|((first|refine Ok.region tok ?_|refine Ok.cond ?_);conv=>whnf)|refine Ok.block ?_|((first|refine Ok.skip ?_|refine Ok.ret ?_|refine nI ?_|refine ix _ (by assumption) ?_);conv=>whnf)|(refine bI ?_ ?_<;>intro<;>(conv=>whnf)<;>(try (exfalso;omega)))|fail)
   all_goals first
    | (exfalso;omega)
    | (rename_i h
       have hfi:findI nm l 0=(i:Nat):=by
        rw[hf]
        unfold findI
        rw[if_pos h]
       refine Or.inl ?_;(conv=>whnf)
       rw[plI_some hfi,hfi]
       rfl)
    | (rename_i h
       refine⟨i+1,by omega,⟨by omega,?_⟩,?_⟩
       . rw[hf]
         conv=>lhs;unfold findI
         rw[if_neg h]
       . rw[hsn,show ((wid (l.take i)+c.bits.toNat:Nat):Int)=(wid (l.take i):Int)+c.bits by omega]
         (conv=>whnf)
         rfl)
 . have hie:i=l.length:=by omega
   subst hie
   rw[List.drop_length] at hf
   have hfi:findI nm l 0=-1:=hf
   (try (conv=>whnf));repeat' (first|refine Ok.seq ?_|((first|refine Ok.region tok ?_|refine Ok.cond ?_|refine Ok.exit ?_|refine Ok.ret ?_);conv=>whnf)|(refine bI ?_ ?_<;>intro<;>(conv=>whnf)<;>(try (exfalso;omega)))|fail)
   all_goals first
    | (exfalso;omega)
    | (refine Or.inl ?_;(conv=>whnf)
       rw[plI_none hfi,hfi]
       rfl)
theorem form_nil(f:Str)(op form lo hi len:Int):FormOk ⟨f,op,form,lo,hi,len,[]⟩ ↔ (1<=op/\op<=6/\1<=form/\form<=4/\(op<=2\/form=1)/\(form=4->lo=0/\hi=0/\len=0)/\(form=1\/form=2->hi=0)/\(form=1\/form=3->len=0)):=
 ⟨fun h=>h.a,fun h=>⟨h,fun _=>rfl⟩⟩
theorem form_ne(f:Str)(op form lo hi len:Int){pat:Str}(h:pat ≠ []):FormOk ⟨f,op,form,lo,hi,len,pat⟩ ↔ (1<=op/\op<=6/\1<=form/\form<=4/\(op<=2\/form=1)/\(form=4->lo=0/\hi=0/\len=0)/\(form=1\/form=2->hi=0)/\(form=1\/form=3->len=0)/\form=4):=by
 constructor
 . intro h2
   have h3:form=4:=Classical.byContradiction fun e=>h (h2.p e)
   have:=h2.a
   dsimp only at this
   omega
 . intro h2
   exact⟨by dsimp only;omega,fun h3=>absurd h2.2.2.2.2.2.2.2.2 h3⟩
set_option maxRecDepth 100000 in
set_option maxHeartbeats 16000000 in
theorem tform_at(f:Str)(op form lo hi len:Int)(pat:Str):FSpec Tryz.prog T 289 [.agg (tcl f op form lo hi len pat)] (fun d _=>d = .b (FormOk ⟨f,op,form,lo,hi,len,pat⟩)):=by
 refine FSpec.of_ok tok Tryz.func289 rfl Tryz.call289 (by simp) ?_
 by_cases hp:pat=[]
 . subst hp
   have hfn:=propext (form_nil f op form lo hi len)
   (try (conv=>whnf));repeat' (first|refine Ok.seq ?_|((first|refine Ok.region tok ?_|refine Ok.cond ?_|refine Ok.skip ?_|refine Ok.ret ?_);conv=>whnf)|(refine bI ?_ ?_<;>intro<;>(conv=>whnf)<;>(try (exfalso;omega)))|fail)
   all_goals first
    | (exfalso;omega)
    | (rename_i h;exact absurd rfl h)
    | (refine Or.inl ?_;(conv=>whnf)
       refine congrArg D.b ?_
       rw[hfn]
       exact propext ⟨fun h=>by first|exact h.elim|omega,fun h=>by first|exact trivial|omega⟩)
 . have hfn:=propext (form_ne f op form lo hi len hp)
   (try (conv=>whnf));repeat' (first|refine Ok.seq ?_|((first|refine Ok.region tok ?_|refine Ok.cond ?_|refine Ok.skip ?_|refine Ok.ret ?_);conv=>whnf)|(refine bI ?_ ?_<;>intro<;>(conv=>whnf)<;>(try (exfalso;omega)))|fail)
   all_goals first
    | (exfalso;omega)
    | (refine Or.inl ?_;(conv=>whnf)
       refine congrArg D.b ?_
       rw[hfn]
       exact propext ⟨fun h=>by first|exact h.elim|omega,fun h=>by first|exact trivial|omega⟩)
    | (refine absurd ?_ hp;rename_i h1;simpa using h1)
    | (refine absurd ?_ hp;rename_i h1 h2;simpa using h1)
    | (refine absurd ?_ hp;rename_i h1 h2 h3;simpa using h1)
    | (refine absurd ?_ hp;rename_i h1 h2 h3 h4;simpa using h1)
open Classical in
/-- The error of a test over a layout. -/
noncomputable def errF(l:List Fd)(t:Tst):Int:=if findI t.f l 0<0 then 41 else match l[(findI t.f l 0).toNat]? with|some c=>errT t c.bits.toNat|none=>0
theorem errF_none{l:List Fd}{t:Tst}(h:findI t.f l 0=-1):errF l t=41:=by unfold errF;rw[if_pos (by omega)]
theorem errF_some{l:List Fd}{t:Tst}{k:Nat}{c:Fd}(h:findI t.f l 0=(k:Nat))(hc:l[k]? = some c):errF l t=errT t c.bits.toNat:=by
 unfold errF;rw[if_neg (by omega),h,Int.toNat_natCast,hc]
theorem find_cases(nm:Str)(l:List Fd):findI nm l 0=-1\/∃ (k:Nat) (c:Fd),findI nm l 0=(k:Nat)/\l[k]? = some c:=by
 obtain⟨_,h1,h2⟩:=findI_ge nm l 0
 by_cases h:findI nm l 0<0
 . exact .inl (by omega)
 . exact .inr ⟨(findI nm l 0).toNat,l[(findI nm l 0).toNat]'(by omega),by omega,List.getElem?_eq_getElem _⟩
theorem u8_dig(x:UInt8):(x=48\/x=49\/x=120) ↔ (x.toNat=48\/x.toNat=49\/x.toNat=120):=by
 rw[<- UInt8.toNat_inj,<- UInt8.toNat_inj,<- UInt8.toNat_inj];rfl
set_option maxRecDepth 100000 in
set_option maxHeartbeats 32000000 in
theorem rtest_at(l:List Fd)(r:List (List D))(hl:l.length<=1000)(hlay:LayF l)(f:Str)(op form lo hi len:Int)(pat:Str)(hs:pat.length<=1000000000000) :
    FSpec Tryz.prog T 249 [.lst 127 (l.map frow) r,.agg (tcl f op form lo hi len pat)] (fun d _=>d = .i .i64 (errF l ⟨f,op,form,lo,hi,len,pat⟩)):=by
 have h1:(l.map frow).length=l.length:=by simp
 have hpl:=tplace_at l r f hl hlay
 have hform:=tform_at f op form lo hi len pat
 refine FSpec.of_ok tok Tryz.func249 rfl Tryz.call249 (by simp) ?_
 rcases find_cases f l with hfi|⟨k,c,hfi,hc⟩
 . rw[errF_none hfi]
   rw[hfi] at hpl
   (try (conv=>whnf));repeat' (first|refine Ok.seq ?_|((first|refine Ok.region tok ?_|refine Ok.cond ?_|refine Ok.ret ?_);conv=>whnf)|(refine Or.inl ?_;(conv=>whnf);(repeat (refine aI ?_;conv=>whnf));refine⟨_,hpl,rfl,?_⟩;conv=>whnf)|(refine bI ?_ ?_<;>intro<;>(conv=>whnf)<;>(try (exfalso;omega)))|fail)
   all_goals first
    | (exfalso;omega)
    | (refine Or.inl ?_;(conv=>whnf)
       rfl)
 have hcb:=hlay _ (List.mem_of_getElem? hc)
 obtain⟨b,hcB⟩:∃ b:Nat,c.bits=(b:Nat):=⟨c.bits.toNat,by omega⟩
 have hcI:l[((k:Nat):Int).toNat]? = some c:=hc
 have hkl:=(List.getElem?_eq_some_iff.1 hc).1
 rw[errF_some hfi hc,show c.bits.toNat=b by omega]
 rw[hfi] at hpl
 have hb:b<=32:=by omega
 have htb:=tw62 (show b<=62 by omega)
 have htop:=rtop_at b (by omega)
 rw[<- hcB] at htop
 by_cases hF:FormOk ⟨f,op,form,lo,hi,len,pat⟩
 . obtain⟨hA,hP⟩:=id hF
   dsimp only at hA hP
   have h4:form=1\/form=2\/form=3\/form=4:=by omega
   by_cases hV:ValOk ⟨f,op,form,lo,hi,len,pat⟩ b
   . have hV2:=hV
     unfold ValOk at hV2
     dsimp only at hV2
     obtain⟨vl,rfl⟩:∃ v:Nat,lo=v:=⟨lo.toNat,by omega⟩
     obtain⟨vh,rfl⟩:∃ v:Nat,hi=v:=⟨hi.toNat,by omega⟩
     obtain⟨vn,rfl⟩:∃ v:Nat,len=v:=⟨len.toNat,by omega⟩
     rcases h4 with rfl|rfl|rfl|rfl
     . rw[errT_ok hF hV (by simp) (by simp) (by simp)]
       (try (conv=>whnf));repeat' (first|(refine⟨fun h=>absurd hF h,fun _=>?_⟩;conv=>whnf)|refine Ok.seq ?_|((first|refine Ok.region tok ?_|refine Ok.region_draw tok follows (by kernel_rfl) ?_|refine Ok.cond ?_|refine Ok.skip ?_|refine Ok.ret ?_|refine ix _ (by assumption) ?_|refine⟨_,by assumption,?_⟩);conv=>whnf)|(refine Or.inl ?_;(conv=>whnf);(repeat (refine aI ?_;conv=>whnf));refine⟨_,hpl,rfl,?_⟩;conv=>whnf)|(refine Or.inl ?_;(conv=>whnf);(repeat (refine aI ?_;conv=>whnf));refine⟨_,hform,rfl,?_⟩;conv=>whnf)|(refine bI ?_ ?_<;>intro<;>(conv=>whnf)<;>(try (exfalso;omega)))|(refine aJ ?_;conv=>whnf)|fail)
       all_goals first
        | (exfalso;omega)
        | (rename_i h;exact absurd hF h)
        | (refine Or.inl ?_;(conv=>whnf)
           rfl)
     . have htop2:=rtop_at (b - vn) (by omega)
       rw[show ((b - vn:Nat):Int)=c.bits - (vn:Int) by omega] at htop2
       by_cases hm:vl % tw (b - vn)=0
       . rw[errT_ok hF hV (by simpa using hm) (by simp) (by simp)]
         (try (conv=>whnf));repeat' (first|((first|refine⟨fun h=>absurd hF h,fun _=>?_⟩|refine and_i ⟨rfl,by omega⟩ ⟨rfl,by omega⟩ ?_);conv=>whnf)|refine Ok.seq ?_|((first|refine Ok.region tok ?_|refine Ok.region_draw tok follows (by kernel_rfl) ?_|refine Ok.cond ?_|refine Ok.skip ?_|refine Ok.ret ?_|refine nI ?_|refine ix _ (by assumption) ?_|refine⟨_,by assumption,?_⟩);conv=>whnf)|(refine Or.inl ?_;(conv=>whnf);(repeat (refine aI ?_;conv=>whnf));refine⟨_,hpl,rfl,?_⟩;conv=>whnf)|(refine Or.inl ?_;(conv=>whnf);(repeat (refine aI ?_;conv=>whnf));refine⟨_,hform,rfl,?_⟩;conv=>whnf)|(refine bI ?_ ?_<;>intro<;>(conv=>whnf)<;>(try (exfalso;omega)))|(refine aJ ?_;conv=>whnf)|fail)
         all_goals first
          | (exfalso;omega)
          | (rename_i h;exact absurd hF h)
          | (refine Or.inl ?_;(conv=>whnf)
             rfl)
       . rw[errT_pre hF hV ⟨rfl,by simpa using hm⟩]
         (try (conv=>whnf));repeat' (first|((first|refine⟨fun h=>absurd hF h,fun _=>?_⟩|refine and_i ⟨rfl,by omega⟩ ⟨rfl,by omega⟩ ?_);conv=>whnf)|refine Ok.seq ?_|((first|refine Ok.region tok ?_|refine Ok.region_draw tok follows (by kernel_rfl) ?_|refine Ok.cond ?_|refine Ok.skip ?_|refine Ok.ret ?_|refine nI ?_|refine ix _ (by assumption) ?_|refine⟨_,by assumption,?_⟩);conv=>whnf)|(refine Or.inl ?_;(conv=>whnf);(repeat (refine aI ?_;conv=>whnf));refine⟨_,hpl,rfl,?_⟩;conv=>whnf)|(refine Or.inl ?_;(conv=>whnf);(repeat (refine aI ?_;conv=>whnf));refine⟨_,hform,rfl,?_⟩;conv=>whnf)|(refine bI ?_ ?_<;>intro<;>(conv=>whnf)<;>(try (exfalso;omega)))|(refine aJ ?_;conv=>whnf)|fail)
         all_goals first
          | (exfalso;omega)
          | (rename_i h;exact absurd hF h)
          | (refine Or.inl ?_;(conv=>whnf)
             rfl)
     . by_cases hr:(vh:Int)<vl
       . rw[errT_rng hF hV (by simp) ⟨rfl,hr⟩]
         (try (conv=>whnf));repeat' (first|(refine⟨fun h=>absurd hF h,fun _=>?_⟩;conv=>whnf)|refine Ok.seq ?_|((first|refine Ok.region tok ?_|refine Ok.region_draw tok follows (by kernel_rfl) ?_|refine Ok.cond ?_|refine Ok.skip ?_|refine Ok.ret ?_|refine ix _ (by assumption) ?_|refine⟨_,by assumption,?_⟩);conv=>whnf)|(refine Or.inl ?_;(conv=>whnf);(repeat (refine aI ?_;conv=>whnf));refine⟨_,hpl,rfl,?_⟩;conv=>whnf)|(refine Or.inl ?_;(conv=>whnf);(repeat (refine aI ?_;conv=>whnf));refine⟨_,hform,rfl,?_⟩;conv=>whnf)|(refine bI ?_ ?_<;>intro<;>(conv=>whnf)<;>(try (exfalso;omega)))|(refine aJ ?_;conv=>whnf)|fail)
         all_goals first
          | (exfalso;omega)
          | (rename_i h;exact absurd hF h)
          | (refine Or.inl ?_;(conv=>whnf)
             rfl)
       . rw[errT_ok hF hV (by simp) (fun h=>hr h.2) (by simp)]
         (try (conv=>whnf));repeat' (first|(refine⟨fun h=>absurd hF h,fun _=>?_⟩;conv=>whnf)|refine Ok.seq ?_|((first|refine Ok.region tok ?_|refine Ok.region_draw tok follows (by kernel_rfl) ?_|refine Ok.cond ?_|refine Ok.skip ?_|refine Ok.ret ?_|refine ix _ (by assumption) ?_|refine⟨_,by assumption,?_⟩);conv=>whnf)|(refine Or.inl ?_;(conv=>whnf);(repeat (refine aI ?_;conv=>whnf));refine⟨_,hpl,rfl,?_⟩;conv=>whnf)|(refine Or.inl ?_;(conv=>whnf);(repeat (refine aI ?_;conv=>whnf));refine⟨_,hform,rfl,?_⟩;conv=>whnf)|(refine bI ?_ ?_<;>intro<;>(conv=>whnf)<;>(try (exfalso;omega)))|(refine aJ ?_;conv=>whnf)|fail)
         all_goals first
          | (exfalso;omega)
          | (rename_i h;exact absurd hF h)
          | (refine Or.inl ?_;(conv=>whnf)
             rfl)
     . by_cases hpb:pat.length=b
       . (try (conv=>whnf));repeat' (first|(refine⟨fun h=>absurd hF h,fun _=>?_⟩;conv=>whnf)|refine Ok.seq ?_|((first|refine Ok.region tok ?_|refine Ok.region_draw tok follows (by kernel_rfl) ?_|refine Ok.cond ?_);conv=>whnf)|refine Ok.block ?_|((first|refine Ok.skip ?_|refine ix _ (by assumption) ?_|refine⟨_,by assumption,?_⟩);conv=>whnf)|(refine Or.inl ?_;(conv=>whnf);(repeat (refine aI ?_;conv=>whnf));refine⟨_,hpl,rfl,?_⟩;conv=>whnf)|(refine Or.inl ?_;(conv=>whnf);(repeat (refine aI ?_;conv=>whnf));refine⟨_,hform,rfl,?_⟩;conv=>whnf)|(refine bI ?_ ?_<;>intro<;>(conv=>whnf)<;>(try (exfalso;omega)))|(refine aJ ?_;conv=>whnf)|fail)
         all_goals first
          | (exfalso;omega)
          | (rename_i h;exact absurd hF h)
          | skip
         refine Ok.loopU [3,8] [9] 0 1 (fun (i:Nat)=>[.i .i64 (i:Nat)]) (fun _ b=>b) (fun _ r=>r) (fun (i:Nat)=>i<=b/\cubOk (pat.take i)) (fun (i:Nat)=>b - i) (0) (⟨Nat.zero_le _,by simp[cubOk]⟩) ?_;(conv=>whnf);refine⟨by ((conv=>whnf);first|rfl|(simp[envCat,List.take_of_length_le,nrow,frow,bcell,srow,tcells];done)|(simp[envCat,List.take_of_length_le,nrow,frow,bcell,srow,tcells];rw[IntKind.wrap_i64];omega)),?_⟩
         rintro i ⟨hi,hok⟩
         (conv=>whnf)
         by_cases hib:i<b
         . obtain⟨x,hx⟩:∃ x,pat[i]? = some x:=⟨_,List.getElem?_eq_getElem (by omega)⟩
           have hxI:pat[((i:Nat):Int).toNat]? = some x:=hx
           have hxm:=List.mem_of_getElem? hx
           by_cases hxd:x=48\/x=49\/x=120
           . have hxn:=(u8_dig x).1 hxd
             (try (conv=>whnf));repeat' (first|refine Ok.seq ?_|((first|refine Ok.region tok ?_|refine Ok.cond ?_);conv=>whnf)|refine Ok.block ?_|((first|refine Ok.skip ?_|refine nI ?_|refine⟨_,by assumption,?_⟩);conv=>whnf)|(refine bI ?_ ?_<;>intro<;>(conv=>whnf)<;>(try (exfalso;omega)))|((first|refine aJ ?_|refine num_any ?_);conv=>whnf)|fail)
             all_goals first
              | (exfalso;omega)
              | (refine⟨i+1,by omega,⟨by omega,cubOk_step hok hx hxd⟩,?_⟩
                 (conv=>whnf)
                 rfl)
           . have hxn:¬ (x.toNat=48\/x.toNat=49\/x.toNat=120):=fun h=>hxd ((u8_dig x).2 h)
             rw[errT_dig hF hV (by simp) (by simp) ⟨rfl,fun hd=>hxd (hd.2 x hxm)⟩]
             (try (conv=>whnf));repeat' (first|refine Ok.seq ?_|((first|refine Ok.region tok ?_|refine Ok.cond ?_);conv=>whnf)|refine Ok.block ?_|((first|refine Ok.skip ?_|refine Ok.ret ?_|refine⟨_,by assumption,?_⟩);conv=>whnf)|(refine bI ?_ ?_<;>intro<;>(conv=>whnf)<;>(try (exfalso;omega)))|((first|refine aJ ?_|refine num_any ?_);conv=>whnf)|fail)
             all_goals first
              | (exfalso;omega)
              | (refine Or.inl ?_;(conv=>whnf)
                 rfl)
         . have hie:i=b:=by omega
           subst hie
           rw[List.take_of_length_le (by omega)] at hok
           rw[errT_ok hF hV (by simp) (by simp) (fun h=>h.2 ⟨hpb,hok⟩)]
           (try (conv=>whnf));repeat' (first|refine Ok.seq ?_|((first|refine Ok.region tok ?_|refine Ok.cond ?_|refine Ok.exit ?_|refine Ok.ret ?_);conv=>whnf)|(refine bI ?_ ?_<;>intro<;>(conv=>whnf)<;>(try (exfalso;omega)))|fail)
           all_goals first
            | (exfalso;omega)
            | (refine Or.inl ?_;(conv=>whnf)
               rfl)
       . rw[errT_dig hF hV (by simp) (by simp) ⟨rfl,fun hd=>hpb hd.1⟩]
         (try (conv=>whnf));repeat' (first|(refine⟨fun h=>absurd hF h,fun _=>?_⟩;conv=>whnf)|refine Ok.seq ?_|((first|refine Ok.region tok ?_|refine Ok.region_draw tok follows (by kernel_rfl) ?_|refine Ok.cond ?_|refine Ok.skip ?_|refine Ok.ret ?_|refine ix _ (by assumption) ?_|refine⟨_,by assumption,?_⟩);conv=>whnf)|(refine Or.inl ?_;(conv=>whnf);(repeat (refine aI ?_;conv=>whnf));refine⟨_,hpl,rfl,?_⟩;conv=>whnf)|(refine Or.inl ?_;(conv=>whnf);(repeat (refine aI ?_;conv=>whnf));refine⟨_,hform,rfl,?_⟩;conv=>whnf)|(refine bI ?_ ?_<;>intro<;>(conv=>whnf)<;>(try (exfalso;omega)))|(refine aJ ?_;conv=>whnf)|fail)
         all_goals first
          | (exfalso;omega)
          | (rename_i h;exact absurd hF h)
          | (refine Or.inl ?_;(conv=>whnf)
             rfl)
   . have hV2:=hV
     unfold ValOk at hV2
     dsimp only at hV2
     rw[errT_val hF hV]
     (try (conv=>whnf));repeat' (first|(refine⟨fun h=>absurd hF h,fun _=>?_⟩;conv=>whnf)|refine Ok.seq ?_|((first|refine Ok.region tok ?_|refine Ok.region_draw tok follows (by kernel_rfl) ?_|refine Ok.cond ?_|refine Ok.skip ?_|refine Ok.ret ?_|refine ix _ (by assumption) ?_|refine⟨_,by assumption,?_⟩);conv=>whnf)|(refine Or.inl ?_;(conv=>whnf);(repeat (refine aI ?_;conv=>whnf));refine⟨_,hpl,rfl,?_⟩;conv=>whnf)|(refine Or.inl ?_;(conv=>whnf);(repeat (refine aI ?_;conv=>whnf));refine⟨_,hform,rfl,?_⟩;conv=>whnf)|(refine bI ?_ ?_<;>intro<;>(conv=>whnf)<;>(try (exfalso;omega)))|(refine aJ ?_;conv=>whnf)|fail)
     all_goals first
      | (exfalso;omega)
      | (rename_i h;exact absurd hF h)
      | (refine Or.inl ?_;(conv=>whnf)
         rfl)
 . rw[errT_form hF]
   (try (conv=>whnf));repeat' (first|(refine⟨fun _=>?_,fun h=>absurd (Classical.not_not.1 h) hF⟩;conv=>whnf)|refine Ok.seq ?_|((first|refine Ok.region tok ?_|refine Ok.cond ?_|refine Ok.skip ?_|refine Ok.ret ?_);conv=>whnf)|(refine Or.inl ?_;(conv=>whnf);(repeat (refine aI ?_;conv=>whnf));refine⟨_,hpl,rfl,?_⟩;conv=>whnf)|(refine Or.inl ?_;(conv=>whnf);(repeat (refine aI ?_;conv=>whnf));refine⟨_,hform,rfl,?_⟩;conv=>whnf)|(refine bI ?_ ?_<;>intro<;>(conv=>whnf)<;>(try (exfalso;omega)))|fail)
   all_goals first
    | (exfalso;omega)
    | (rename_i h;exact absurd h hF)
    | (refine Or.inl ?_;(conv=>whnf)
       rfl)
end Go.Proofs.YtcglkonooeddfaaGreatDoor
namespace Go.Proofs.YtcglkonooeddfaaGreatDoor
open Go Go.Vx Go.Shelf
theorem xs_bits(n:Nat)(i:Nat):car (xsT n) i=false/\one (xsT n) i=false:=by
 by_cases h:i<n
 . have e:(xsT n)[i]? = some 120:=by simp[xsT,List.getElem?_replicate,h]
   rw[(at_b e).1,(at_b e).2]
   exact⟨rfl,rfl⟩
 . exact at_out (by simp[xsT];omega)
theorem xs_wof{f:Nat->Bool}(h:∀ i,f i=false)(k:Nat):wof f k=0#64:=BitVec.eq_of_getLsbD_eq fun i hi=>by rw[wof_get _ _ _ hi,h];simp
theorem crow_xs(n:Nat):crow (xsT n)=[.i .i64 n,.i .u64 0,.i .u64 0,.i .u64 0,.i .u64 0,.i .u64 0,.i .u64 0,.i .u64 0,.i .u64 0]:=by
 have h1:=xs_wof (fun i=>(xs_bits n i).1)
 have h2:=xs_wof (fun i=>(xs_bits n i).2)
 simp only[crow,cells9,h1,h2,xsT_len]
 rfl
theorem xs_ct{n:Nat}(h:n<=256):CT (xsT n):=⟨by simp[xsT];omega,fun b hb=>by rw[(List.mem_replicate.1 hb).2];simp⟩
theorem xs_cn{n:Nat}(h:n<=256)(h0:1<=n):CN (xsT n):=⟨xs_ct h,fun e=>by have:=congrArg List.length e;rw[xsT_len] at this;simp at this;omega⟩
theorem xall_at(n:Nat)(h:n<=256)(h0:1<=n):FSpec Tryz.prog T 283 [.i .i64 (n:Nat)] (fun d rows=>d = .agg (crow (xsT n))/\rows=[]):=by
 refine FSpec.of_ok tok Tryz.func283 rfl Tryz.call283 (by simp) ?_
 rw[crow_xs]
 (try (conv=>whnf));repeat' (first|refine Ok.seq ?_|((first|refine Ok.region tok ?_|refine Ok.cond ?_|refine Ok.skip ?_|refine Ok.ret ?_);conv=>whnf)|(refine bI ?_ ?_<;>intro<;>(conv=>whnf)<;>(try (exfalso;omega)))|fail)
 all_goals first
  | (exfalso;omega)
  | (refine Or.inl ?_;(conv=>whnf)
     exact⟨rfl,rfl⟩)
theorem cur_xs{c:Str}{n i:Nat}(hc:c.length=n)(hi:i<=n):curL (xsT n) c i=c.take i++xsT (n - i):=by
 unfold curL
 have h1:(xsT n).drop i=xsT (n - i):=by simp[xsT]
 rw[h1]
 congr 1
 refine List.ext_getElem? fun k=>?_
 by_cases hk:k<i
 . obtain⟨b,hb⟩:∃ b,c[k]? = some b:=⟨_,List.getElem?_eq_getElem (by omega)⟩
   have e1:(xsT n)[k]? = some 120:=by simp[xsT,List.getElem?_replicate];omega
   simp[List.getElem?_zipWith,List.getElem?_take,hk,hb,e1,ov1]
 . simp[List.getElem?_zipWith,List.getElem?_take,hk]
theorem set_xs{c:Str}{n i:Nat}(y:UInt8)(hc:c.length=n)(hi:i<n):(c.take i++xsT (n - i)).set i y=c.take i++[y]++xsT (n - i - 1):=by
 have h1:(c.take i).length=i:=by simp;omega
 rw[List.set_append_right _ _ (by omega),h1,Nat.sub_self]
 obtain⟨m,hm⟩:∃ m,n - i=m+1:=⟨n - i - 1,by omega⟩
 rw[hm,show m+1 - 1=m by omega]
 simp[xsT,List.replicate_succ]
theorem pc_xs{c:Str}{n i:Nat}{x:UInt8}(hc:c.length=n)(hx:c[i]? = some x)(h:x ≠ 120):pcT (xsT n) c i=some (c.take i++[97 - x]++xsT (n - i - 1)):=by
 have hi:i<n:=by have:=(List.getElem?_eq_some_iff.1 hx).1;omega
 rw[pcT_at (a:=120) (by simp[xsT,List.getElem?_replicate,hi]) hx,if_pos ⟨rfl,h⟩,cur_xs hc (by omega),set_xs _ hc hi]
theorem pc_xs_no{c:Str}{n i:Nat}(hc:c.length=n)(hx:c[i]? = some 120):pcT (xsT n) c i=none:=by
 have hi:i<n:=by have:=(List.getElem?_eq_some_iff.1 hx).1;omega
 rw[pcT_at (a:=120) (by simp[xsT,List.getElem?_replicate,hi]) hx,if_neg (by simp)]
theorem split_xs{c:Str}{n:Nat}(hn:1<=n)(hn2:n<=256)(hc:CT c)(hl:c.length=n):splitT (xsT n) c=pcsT (xsT n) c n:=by
 obtain⟨m,hm,_⟩:=cfl_some (xs_ct hn2) hc (by rw[xsT_len,hl]) (xs_cn hn2 hn).2 (fun i=>by simp[cfl,xs_bits])
 unfold splitT
 rw[hm,xsT_len]
 rfl
set_option maxHeartbeats 8000000 in
theorem other_at(c:Str)(n:Nat)(hl:c.length=n)(hn:n<=256)(hok:cubOk c):FSpec Tryz.prog T 292 [.s c] (fun d rows=>d = .own 0 (pcsT (xsT n) c n).length/\rows=[some (9,(pcsT (xsT n) c n).map srow)]):=by
 refine FSpec.of_ok tok Tryz.func292 rfl Tryz.call292 (by simp) ?_
 (try (conv=>whnf));repeat' (first|refine Ok.seq ?_|(refine Ok.region tok ?_;conv=>whnf)|refine Ok.block ?_|fail)
 refine Ok.ghost 3 9 rfl ?_
 (conv=>whnf)
 refine Ok.loopU [0] [3,4] 1 0 (fun (i:Nat)=>[.own 0 (pcsT (xsT n) c i).length,.i .i64 (i:Nat)]) (fun _ b=>b) (fun (i:Nat) (_:Vx.Rows)=>[some (9,(pcsT (xsT n) c i).map srow)]) (fun (i:Nat)=>i<=n) (fun (i:Nat)=>n - i) (0) (Nat.zero_le _) ?_;(conv=>whnf);refine⟨by ((conv=>whnf);first|rfl|(simp[envCat,List.take_of_length_le,nrow,frow,bcell,srow,tcells,crow];done)|(simp[envCat,List.take_of_length_le,nrow,frow,bcell,srow,tcells,crow];rw[IntKind.wrap_i64];omega)),?_⟩
 intro i hi
 have hlm:((pcsT (xsT n) c i).map srow).length=(pcsT (xsT n) c i).length:=by simp
 have hpl:=pcsT_len (xsT n) c i
 (conv=>whnf)
 by_cases hil:i<n
 . obtain⟨x,hx⟩:∃ x,c[i]? = some x:=⟨_,List.getElem?_eq_getElem (by omega)⟩
   have hxI:c[((i:Nat):Int).toNat]? = some x:=hx
   have hti:(c.take i).length=i:=by simp;omega
   have hxs:=xs_at (n - i - 1) (by omega)
   rw[show ((n - i - 1:Nat):Int)=(c.length:Int) - (i:Int) - 1 by omega] at hxs
   have hxl:=xsT_len (n - i - 1)
   rcases hok x (List.mem_of_getElem? hx) with rfl|rfl|rfl
   . have hp:=pcsT_some (pc_xs hl hx (by decide))
     have e1:(((48:UInt8).toNat:Nat):Int)=48:=rfl
     (try (conv=>whnf));repeat' (first|(refine⟨0,i,rfl,rfl,Nat.zero_le _,by omega,c.take i,by simp,?_⟩;conv=>whnf)|refine Ok.seq ?_|((first|refine Ok.region tok ?_|refine Ok.region_plan (id:=9) tok follows [(11,13,[12]),(11,14,[]),(13,14,[])] [.q 0,.q 1,.q 2,.q 3,.q 4,.q 5,.q 6,.q 7,.q 8,.q 9,.q 10,.l 11,.q 12,.l 13,.l 14,.q 15] (by kernel_rfl) ?_|refine Ok.cond ?_);conv=>whnf)|refine Ok.block ?_|((first|refine Ok.skip ?_|refine nI ?_|refine⟨_,by assumption,?_⟩);conv=>whnf)|(refine Or.inl ?_;(conv=>whnf);(repeat (refine aI ?_;conv=>whnf));refine⟨_,hxs,rfl,?_⟩;conv=>whnf)|((first|refine Alt2.l (aI ?_)|refine⟨_,.inl ⟨rfl,rfl⟩,?_⟩|refine⟨_,_,rfl,rfl,?_⟩);conv=>whnf)|(refine bI ?_ ?_<;>intro<;>(conv=>whnf)<;>(try (exfalso;omega)))|(refine aJ ?_;conv=>whnf)|fail)
     all_goals first
      | (exfalso;omega)
      | skip
     all_goals
      refine⟨i+1,by omega,by omega,?_⟩
      rw[hp]
      (conv=>whnf)
      simp[envCat]
   . have hp:=pcsT_some (pc_xs hl hx (by decide))
     have e1:(((49:UInt8).toNat:Nat):Int)=49:=rfl
     (try (conv=>whnf));repeat' (first|(refine⟨0,i,rfl,rfl,Nat.zero_le _,by omega,c.take i,by simp,?_⟩;conv=>whnf)|refine Ok.seq ?_|((first|refine Ok.region tok ?_|refine Ok.region_plan (id:=9) tok follows [(11,13,[12]),(11,14,[]),(13,14,[])] [.q 0,.q 1,.q 2,.q 3,.q 4,.q 5,.q 6,.q 7,.q 8,.q 9,.q 10,.l 11,.q 12,.l 13,.l 14,.q 15] (by kernel_rfl) ?_|refine Ok.cond ?_);conv=>whnf)|refine Ok.block ?_|((first|refine Ok.skip ?_|refine nI ?_|refine⟨_,by assumption,?_⟩);conv=>whnf)|(refine Or.inl ?_;(conv=>whnf);(repeat (refine aI ?_;conv=>whnf));refine⟨_,hxs,rfl,?_⟩;conv=>whnf)|((first|refine Alt2.l (aI ?_)|refine⟨_,.inl ⟨rfl,rfl⟩,?_⟩|refine⟨_,_,rfl,rfl,?_⟩);conv=>whnf)|(refine bI ?_ ?_<;>intro<;>(conv=>whnf)<;>(try (exfalso;omega)))|(refine aJ ?_;conv=>whnf)|fail)
     all_goals first
      | (exfalso;omega)
      | skip
     all_goals
      refine⟨i+1,by omega,by omega,?_⟩
      rw[hp]
      (conv=>whnf)
      simp[envCat]
   . have hp:=pcsT_none (pc_xs_no hl hx)
     have e1:(((120:UInt8).toNat:Nat):Int)=120:=rfl
     (try (conv=>whnf));repeat' (first|refine Ok.seq ?_|((first|refine Ok.region tok ?_|refine Ok.cond ?_);conv=>whnf)|refine Ok.block ?_|((first|refine Ok.skip ?_|refine nI ?_|refine⟨_,by assumption,?_⟩);conv=>whnf)|(refine bI ?_ ?_<;>intro<;>(conv=>whnf)<;>(try (exfalso;omega)))|(refine aJ ?_;conv=>whnf)|fail)
     all_goals first
      | (exfalso;omega)
      | skip
     all_goals
      refine⟨i+1,by omega,by omega,?_⟩
      rw[hp]
      (conv=>whnf)
      first|rfl|simp[envCat]
 . have hie:i=n:=by omega
   subst hie
   (try (conv=>whnf));repeat' (first|refine Ok.seq ?_|((first|refine Ok.region tok ?_|refine Ok.cond ?_|refine Ok.exit ?_|refine Ok.ret ?_);conv=>whnf)|(refine bI ?_ ?_<;>intro<;>(conv=>whnf)<;>(try (exfalso;omega)))|fail)
   all_goals first
    | (exfalso;omega)
    | (refine Or.inr (Or.inl ?_);(conv=>whnf)
       exact⟨rfl,rfl⟩)
end Go.Proofs.YtcglkonooeddfaaGreatDoor
namespace Go.Proofs.YtcglkonooeddfaaGreatDoor
open Go Go.Vx Go.Shelf
theorem bin_take(v b n:Nat)(h:n<=b):(binT v b b).take n=binT v b n:=by
 unfold binT
 rw[<- List.map_take,List.take_range,Nat.min_eq_left h]
theorem pfx_full(v b:Nat):pfxT v b b=binT v b b:=by unfold pfxT;rw[Nat.sub_self];simp[xsT]
def oneTT(t:Tst)(b:Nat):Str:=if t.form=4 then t.pat else if t.form=2 then pfxT t.lo.toNat b t.len.toNat else pfxT t.lo.toNat b b
set_option maxHeartbeats 4000000 in
theorem one_at(f:Str)(op form hi:Int)(vl vn:Nat)(pat:Str)(b:Nat)(hb:b<=32)(hvl:vl<9223372036854775808)(hvn:vn<=b):FSpec Tryz.prog T 282 [.agg (tcl f op form vl hi vn pat),.i .i64 (b:Nat)] (fun d _=>d = .s (oneTT ⟨f,op,form,vl,hi,vn,pat⟩ b)):=by
 have hp1:=prefix_at vl b vn hvl (by omega) hvn vl b vn rfl rfl rfl
 have hp2:=prefix_at vl b b hvl (by omega) (Nat.le_refl _) vl b b rfl rfl rfl
 refine FSpec.of_ok tok Tryz.func282 rfl Tryz.call282 (by simp) ?_
 unfold oneTT
 dsimp only
 (try (conv=>whnf));repeat' (first|refine Ok.seq ?_|((first|refine Ok.region tok ?_|refine Ok.cond ?_);conv=>whnf)|refine Ok.block ?_|((first|refine Ok.skip ?_|refine Ok.ret ?_);conv=>whnf)|(refine Or.inl ?_;(conv=>whnf);(repeat (refine aI ?_;conv=>whnf));refine⟨_,hp1,rfl,?_⟩;conv=>whnf)|(refine Or.inl ?_;(conv=>whnf);(repeat (refine aI ?_;conv=>whnf));refine⟨_,hp2,rfl,?_⟩;conv=>whnf)|(refine bI ?_ ?_<;>intro<;>(conv=>whnf)<;>(try (exfalso;omega)))|fail)
 all_goals first
  | (exfalso;omega)
  | (refine Or.inl ?_;(conv=>whnf)
     first
      | (rw[if_pos (by omega)];rfl)
      | (rw[if_neg (by omega),if_pos (by omega)];rfl)
      | (rw[if_neg (by omega),if_neg (by omega)];rfl))
set_option maxHeartbeats 4000000 in
theorem rone_at(f:Str)(op form hi:Int)(vl vn:Nat)(pat:Str)(b:Nat)(hb:b<=32)(hvl:vl<9223372036854775808)(hvn:vn<=b):FSpec Tryz.prog T 291 [.agg (tcl f op form vl hi vn pat),.i .i64 (b:Nat)] (fun d _=>d = .s (oneTT ⟨f,op,form,vl,hi,vn,pat⟩ b)):=by
 have hd:=digits_at vl b hvl (by omega)
 have hx:=xs_at (b - vn) (by omega)
 rw[show ((b - vn:Nat):Int)=(b:Int) - vn by omega] at hx
 have hbl:=binT_len vl b b
 have hbl2:=binT_len vl b vn
 have hxl:=xsT_len (b - vn)
 refine FSpec.of_ok tok Tryz.func291 rfl Tryz.call291 (by simp) ?_
 unfold oneTT
 dsimp only
 rw[pfx_full]
 (try (conv=>whnf));repeat' (first|(refine⟨0,vn,rfl,rfl,Nat.zero_le _,by omega,binT vl b vn,by rw[bin_take vl b vn hvn];rfl,?_⟩;conv=>whnf)|refine Ok.seq ?_|((first|refine Ok.region tok ?_|refine Ok.region_draw tok follows (by kernel_rfl) ?_|refine Ok.cond ?_);conv=>whnf)|refine Ok.block ?_|((first|refine Ok.skip ?_|refine Ok.ret ?_|refine nI ?_|refine⟨_,by assumption,?_⟩);conv=>whnf)|(refine Or.inl ?_;(conv=>whnf);(repeat (refine aI ?_;conv=>whnf));refine⟨_,hd,rfl,?_⟩;conv=>whnf)|(refine bI ?_ ?_<;>intro<;>(conv=>whnf)<;>(try (exfalso;omega)))|(refine aJ ?_;conv=>whnf)|fail)
 all_goals first
  | (exfalso;omega)
  | (refine Or.inl ?_;(conv=>whnf)
     first
      | (rw[if_pos (by omega)];rfl)
      | (rw[if_neg (by omega),if_pos (by omega)];rfl)
      | (rw[if_neg (by omega),if_neg (by omega)];rfl))
theorem one_len{t:Tst}{b:Nat}(h1:t.form=4->t.pat.length=b)(h2:t.len.toNat<=b):(oneTT t b).length=b:=by
 unfold oneTT
 split
 . rename_i h;exact h1 h
 split
 . exact pfxT_len h2
 . exact pfxT_len (Nat.le_refl _)
theorem pfx_cub(v b n:Nat):cubOk (pfxT v b n):=by
 intro x hx
 unfold pfxT at hx
 rcases List.mem_append.1 hx with h|h
 . unfold binT at h
   obtain⟨i,_,rfl⟩:=List.mem_map.1 h
   unfold bitC
   split<;>simp
 . rw[(List.mem_replicate.1 h).2];simp
theorem one_cub{t:Tst}{b:Nat}(h1:t.form=4->cubOk t.pat):cubOk (oneTT t b):=by
 unfold oneTT
 split
 . rename_i h;exact h1 h
 split
 . exact pfx_cub _ _ _
 . exact pfx_cub _ _ _
set_option maxHeartbeats 4000000 in
theorem from_at(b lo H:Nat)(hb:b<=32)(hH:H<=tw b)(hlo:lo<=tw b)(bI lI hI:Int)(e1:bI=b)(e2:lI=lo)(e3:hI=(H:Int) - 1) :
    FSpec Tryz.prog T 290 [.i .i64 bI,.i .i64 lI,.i .i64 hI] (fun d rows=>d = .own 0 (coverC b H lo).length/\rows=[some (9,(coverC b H lo).map srow)]):=by
 subst e1 e2 e3
 have htb:=tw62 (show b<=62 by omega)
 have htop:=rtop_at b (by omega)
 have hh:=halves_at b lo H hb hH hlo b 0 0 0 (Nat.le_refl _) (by omega) (by omega) rfl
 rw[<- cover_is_halves hH] at hh
 have hcl:=coverC_len (bits:=b) (lo:=lo) (H:=H) hH
 by_cases hlt:lo<H
 . refine FSpec.of_ok tok Tryz.func290 rfl Tryz.call290 (by simp) ?_
   generalize coverC b H lo=C at *
   have hlm:(C.map srow).length=C.length:=by simp
   (try (conv=>whnf));repeat' (first|refine Ok.seq ?_|((first|refine Ok.region tok ?_|refine Ok.cond ?_|refine Ok.skip ?_|refine Ok.ret ?_);conv=>whnf)|(refine Or.inl ?_;(conv=>whnf);(repeat (refine aI ?_;conv=>whnf));refine⟨_,htop,rfl,?_⟩;conv=>whnf)|(refine Or.inr (Or.inl ?_);(conv=>whnf);(repeat (refine aI ?_;conv=>whnf));refine⟨_,hh,?_⟩;rintro _ _ ⟨rfl,rfl⟩;conv=>whnf)|(refine bI ?_ ?_<;>intro<;>(conv=>whnf)<;>(try (exfalso;omega)))|fail)
   all_goals first
    | (exfalso;omega)
    | (refine Or.inr (Or.inl ?_);(conv=>whnf)
       exact⟨rfl,rfl⟩)
 . refine FSpec.of_ok tok Tryz.func290 rfl Tryz.call290 (by simp) ?_
   rw[coverC_end (by omega)]
   (try (conv=>whnf));repeat' (first|refine Ok.seq ?_|((first|refine Ok.region tok ?_|refine Ok.cond ?_|refine Ok.ret ?_);conv=>whnf)|(refine bI ?_ ?_<;>intro<;>(conv=>whnf)<;>(try (exfalso;omega)))|fail)
   all_goals first
    | (exfalso;omega)
    | (refine Or.inr (Or.inr ?_);(conv=>whnf)
       exact⟨rfl,rfl⟩)
end Go.Proofs.YtcglkonooeddfaaGreatDoor
namespace Go.Proofs.YtcglkonooeddfaaGreatDoor
open Go Go.Vx Go.Shelf
def eitT(t:Tst)(b:Nat):List Str:=
 if t.form=3 then (if t.op=1 then coverC b (t.hi.toNat+1) t.lo.toNat else coverC b t.lo.toNat 0++coverC b (tw b) (t.hi.toNat+1))
 else if t.op=1 then [oneTT t b] else splitT (xsT b) (oneTT t b)
def valT(t:Tst)(b:Nat):List Str:=
 if t.op<=2 then eitT t b else if t.op=3 then coverC b t.lo.toNat 0 else if t.op=4 then coverC b (t.lo.toNat+1) 0
 else if t.op=5 then coverC b (tw b) (t.lo.toNat+1) else coverC b (tw b) t.lo.toNat
set_option maxHeartbeats 8000000 in
theorem either_at(f:Str)(op form:Int)(vl vh vn:Nat)(pat:Str)(b:Nat)(h0:1<=b)(hb:b<=32)(hvl:vl<tw b)(hvh:vh<tw b)(hvn:vn<=b)(hpl:form=4->pat.length=b)(hpc:form=4->cubOk pat) :
    FSpec Tryz.prog T 241 [.agg (tcl f op form vl vh vn pat),.i .i64 (b:Nat)] (fun d rows=>d = .own 0 (eitT ⟨f,op,form,vl,vh,vn,pat⟩ b).length/\rows=[some (9,(eitT ⟨f,op,form,vl,vh,vn,pat⟩ b).map srow)]):=by
 have htb:=tw62 (show b<=62 by omega)
 have htop:=top_at b (by omega)
 refine FSpec.of_ok tok Tryz.func241 rfl Tryz.call241 (by simp) ?_
 unfold eitT
 dsimp only
 simp only[Int.toNat_natCast]
 by_cases h3:form=3
 . rw[if_pos h3]
   by_cases h1:op=1
   . rw[if_pos h1]
     have hc:=cover_at b vl (vh+1) hb (by omega) (by omega) b vl vh rfl rfl (by omega)
     generalize coverC b (vh+1) vl=C at *
     have hlm:(C.map srow).length=C.length:=by simp
     (try (conv=>whnf));repeat' (first|refine Ok.seq ?_|((first|refine Ok.region tok ?_|refine Ok.cond ?_|refine Ok.ret ?_);conv=>whnf)|(refine Or.inr (Or.inl ?_);(conv=>whnf);(repeat (refine aI ?_;conv=>whnf));refine⟨_,hc,?_⟩;rintro _ _ ⟨rfl,rfl⟩;conv=>whnf)|(refine bI ?_ ?_<;>intro<;>(conv=>whnf)<;>(try (exfalso;omega)))|fail)
     all_goals first
      | (exfalso;omega)
      | (refine Or.inr (Or.inl ?_);(conv=>whnf)
         exact⟨rfl,rfl⟩)
   . rw[if_neg h1]
     have hc1:=cover_at b 0 vl hb (by omega) (by omega) b 0 ((vl:Int) - 1) rfl rfl rfl
     have hc2:=cover_at b (vh+1) (tw b) hb (by omega) (by omega) b ((vh:Int)+1) ((tw b:Int) - 1) rfl rfl rfl
     have hl1:=coverC_len (bits:=b) (lo:=0) (H:=vl) (by show vl<=tw b;omega)
     have hl2:=coverC_len (bits:=b) (lo:=vh+1) (H:=tw b) (Nat.le_refl _)
     generalize coverC b vl 0=A at *
     generalize coverC b (tw b) (vh+1)=B at *
     have hlA:(A.map srow).length=A.length:=by simp
     have hlB:(B.map srow).length=B.length:=by simp
     (try (conv=>whnf));repeat' (first|(refine⟨B.map srow,.inl ⟨hlB.symm,rfl⟩,?_⟩;conv=>whnf)|refine Ok.seq ?_|((first|refine Ok.region tok ?_|refine Ok.region_plan (id:=4) tok follows [(2,4,[3]),(2,10,[4,3]),(4,10,[]),(2,11,[10,4,3]),(7,11,[8]),(4,11,[10]),(10,11,[]),(2,12,[4,3]),(7,12,[11,8]),(4,12,[]),(10,12,[11]),(11,12,[])] [.q 0,.q 1,.q 2,.q 3,.q 5,.q 6,.q 7,.q 8,.q 9,.l 4,.l 10,.l 11,.l 12,.q 13] (by kernel_rfl) ?_|refine Ok.cond ?_|refine Ok.skip ?_|refine Ok.ret ?_|refine nI ?_);conv=>whnf)|(refine Or.inl ?_;(conv=>whnf);(repeat (refine aI ?_;conv=>whnf));refine⟨_,htop,rfl,?_⟩;conv=>whnf)|(refine Or.inr (Or.inl ?_);(conv=>whnf);(repeat (refine aI ?_;conv=>whnf));refine⟨_,hc1,?_⟩;rintro _ _ ⟨rfl,rfl⟩;conv=>whnf)|(refine Or.inr (Or.inl ?_);(conv=>whnf);(repeat (refine aI ?_;conv=>whnf));refine⟨_,hc2,?_⟩;rintro _ _ ⟨rfl,rfl⟩;conv=>whnf)|((first|refine Alt2.l (aI ?_)|refine⟨_,_,rfl,rfl,?_⟩);conv=>whnf)|(refine bI ?_ ?_<;>intro<;>(conv=>whnf)<;>(try (exfalso;omega)))|(refine aJ ?_;conv=>whnf)|fail)
     all_goals first
      | (exfalso;omega)
      | (refine Or.inr (Or.inl ?_);(conv=>whnf)
         exact⟨by simp;rfl,by simp⟩)
 . rw[if_neg h3]
   have ho:=one_at f op form vh vl vn pat b hb (by omega) hvn
   have hcl:(oneTT ⟨f,op,form,vl,vh,vn,pat⟩ b).length=b:=one_len hpl (by simp;omega)
   have hcc:cubOk (oneTT ⟨f,op,form,vl,vh,vn,pat⟩ b):=one_cub hpc
   generalize oneTT ⟨f,op,form,vl,vh,vn,pat⟩ b=c at *
   have hct:CT c:=⟨by omega,hcc⟩
   by_cases h1:op=1
   . rw[if_pos h1]
     (try (conv=>whnf));repeat' (first|refine Ok.seq ?_|((first|refine Ok.region tok ?_|refine Ok.cond ?_|refine Ok.skip ?_|refine Ok.ret ?_);conv=>whnf)|(refine Or.inl ?_;(conv=>whnf);(repeat (refine aI ?_;conv=>whnf));refine⟨_,ho,rfl,?_⟩;conv=>whnf)|(refine bI ?_ ?_<;>intro<;>(conv=>whnf)<;>(try (exfalso;omega)))|fail)
     all_goals first
      | (exfalso;omega)
      | (refine Or.inr (Or.inl ?_);(conv=>whnf)
         exact⟨rfl,rfl⟩)
   . rw[if_neg h1]
     have hne:c ≠ []:=fun e=>by rw[e] at hcl;simp at hcl;omega
     have hpz:perr c=0:=by unfold perr;rw[if_neg (by omega),if_pos ⟨hct,hne⟩]
     have hpa:=parse_at c
     rw[zer_of ⟨hct,hne⟩,hpz] at hpa
     have hsp:=split_at (xsT b) c (xs_cn (by omega) h0) hct
     have hPc:=splitT_cn (xs_cn (show b<=256 by omega) h0) hct
     have hPl:=splitT_len (c:=xsT b) (d:=c) (by rw[xsT_len];omega)
     generalize splitT (xsT b) c=P at *
     have hlP:(P.map crow).length=P.length:=by simp
     (try (conv=>whnf));repeat' (first|refine Ok.seq ?_|((first|refine Ok.region tok ?_|refine Ok.region_plan (id:=10) tok follows [(2,3,[]),(1,3,[])] [.q 0,.q 2,.q 5,.l 1,.l 3,.q 4] (by kernel_rfl) ?_|refine Ok.cond ?_);conv=>whnf)|refine Ok.block ?_|(refine Ok.skip ?_;conv=>whnf)|(refine Or.inl ?_;(conv=>whnf);(repeat (refine aI ?_;conv=>whnf));refine⟨_,ho,rfl,?_⟩;conv=>whnf)|(refine Or.inr (Or.inl ?_);(conv=>whnf);(repeat (refine aI ?_;conv=>whnf));refine⟨_,hpa,?_⟩;rintro _ _ ⟨rfl,rfl⟩;conv=>whnf)|(refine Or.inr (Or.inl ?_);(conv=>whnf);(repeat (refine aI ?_;conv=>whnf));refine⟨_,xall_at b (by omega) h0,?_⟩;rintro _ _ ⟨rfl,rfl⟩;conv=>whnf)|(refine Or.inr (Or.inl ?_);(conv=>whnf);(repeat (refine aI ?_;conv=>whnf));refine⟨_,hsp , ?_⟩;rintro _ _ ⟨rm,rfl,rfl⟩<;>(conv=>whnf))|(refine bI ?_ ?_<;>intro<;>(conv=>whnf)<;>(try (exfalso;omega)))|fail)
     all_goals first
      | (exfalso;omega)
      | skip
     refine Ok.ghost 8 9 rfl ?_
     (conv=>whnf)
     refine Ok.loopU [52,53] [8,54] 1 2 (fun (i:Nat)=>[.own 0 i,.i .i64 (i:Nat)]) (fun _ b=>b) (fun (i:Nat) (_:Vx.Rows)=>[some (9,(P.take i).map srow)]) (fun (i:Nat)=>i<=P.length) (fun (i:Nat)=>P.length - i) (0) (Nat.zero_le _) ?_;(conv=>whnf);refine⟨by ((conv=>whnf);first|rfl|(simp[envCat,List.take_of_length_le,nrow,frow,bcell,srow,tcells,crow];done)|(simp[envCat,List.take_of_length_le,nrow,frow,bcell,srow,tcells,crow];rw[IntKind.wrap_i64];omega)),?_⟩
     intro i hi
     have hti:((P.take i).map srow).length=i:=by simp;omega
     (conv=>whnf)
     by_cases hil:i<P.length
     . obtain⟨x,hx⟩:∃ x,P[i]? = some x:=⟨_,List.getElem?_eq_getElem hil⟩
       have hxI:P[((i:Nat):Int).toNat]? = some x:=hx
       have hxt:=text_at x (hPc x (List.mem_of_getElem? hx)).1.1
       have hsn:(P.take (i+1)).map srow=(P.take i).map srow++[srow x]:=by rw[take_snoc hx,List.map_append];rfl
       (try (conv=>whnf));repeat' (first|refine Ok.seq ?_|((first|refine Ok.region tok ?_|refine Ok.cond ?_);conv=>whnf)|refine Ok.block ?_|((first|refine Ok.skip ?_|refine nI ?_|refine ix _ (by assumption) ?_);conv=>whnf)|(refine Or.inl ?_;(conv=>whnf);(repeat (refine aI ?_;conv=>whnf));refine⟨_,hxt,rfl,?_⟩;conv=>whnf)|((first|refine Alt2.l (aI ?_)|refine⟨_,.inl ⟨rfl,rfl⟩,?_⟩|refine⟨_,_,rfl,rfl,?_⟩);conv=>whnf)|(refine bI ?_ ?_<;>intro<;>(conv=>whnf)<;>(try (exfalso;omega)))|(refine aJ ?_;conv=>whnf)|fail)
       all_goals first
        | (exfalso;omega)
        | skip
       refine⟨i+1,by omega,by omega,?_⟩
       rw[hsn]
       (conv=>whnf)
       simp[envCat]
       omega
     . have hie:i=P.length:=by omega
       subst hie
       rw[List.take_length]
       (try (conv=>whnf));repeat' (first|refine Ok.seq ?_|((first|refine Ok.region tok ?_|refine Ok.cond ?_|refine Ok.exit ?_|refine Ok.ret ?_);conv=>whnf)|(refine bI ?_ ?_<;>intro<;>(conv=>whnf)<;>(try (exfalso;omega)))|fail)
       all_goals first
        | (exfalso;omega)
        | (refine Or.inr (Or.inl ?_);(conv=>whnf)
           exact⟨rfl,rfl⟩)
set_option maxHeartbeats 8000000 in
theorem values_at(f:Str)(op form:Int)(vl vh vn:Nat)(pat:Str)(b:Nat)(h0:1<=b)(hb:b<=32)(ho:1<=op/\op<=6)(hvl:vl<tw b)(hvh:vh<tw b)(hvn:vn<=b)(hpl:form=4->pat.length=b)(hpc:form=4->cubOk pat) :
    FSpec Tryz.prog T 177 [.agg (tcl f op form vl vh vn pat),.i .i64 (b:Nat)] (fun d rows=>d = .own 0 (valT ⟨f,op,form,vl,vh,vn,pat⟩ b).length/\rows=[some (9,(valT ⟨f,op,form,vl,vh,vn,pat⟩ b).map srow)]):=by
 have htb:=tw62 (show b<=62 by omega)
 have htop:=top_at b (by omega)
 refine FSpec.of_ok tok Tryz.func177 rfl Tryz.call177 (by simp) ?_
 unfold valT
 dsimp only
 simp only[Int.toNat_natCast]
 by_cases h2:op<=2
 . rw[if_pos h2]
   have he:=either_at f op form vl vh vn pat b h0 hb hvl hvh hvn hpl hpc
   generalize eitT ⟨f,op,form,vl,vh,vn,pat⟩ b=C at *
   have hlm:(C.map srow).length=C.length:=by simp
   (try (conv=>whnf));repeat' (first|refine Ok.seq ?_|((first|refine Ok.region tok ?_|refine Ok.region_draw tok follows (by kernel_rfl) ?_|refine Ok.cond ?_);conv=>whnf)|refine Ok.block ?_|((first|refine Ok.skip ?_|refine Ok.exit ?_|refine Ok.ret ?_);conv=>whnf)|(refine Or.inr (Or.inl ?_);(conv=>whnf);(repeat (refine aI ?_;conv=>whnf));refine⟨_,he,?_⟩;rintro _ _ ⟨rfl,rfl⟩;conv=>whnf)|(refine bI ?_ ?_<;>intro<;>(conv=>whnf)<;>(try (exfalso;omega)))|fail)
   all_goals first
    | (exfalso;omega)
    | (refine Or.inr (Or.inl ?_);(conv=>whnf)
       exact⟨rfl,rfl⟩)
 rw[if_neg h2]
 by_cases h3:op=3
 . rw[if_pos h3]
   have hc:=cover_at b 0 vl hb (by omega) (by omega) b 0 ((vl:Int) - 1) rfl rfl rfl
   generalize coverC b vl 0=C at *
   have hlm:(C.map srow).length=C.length:=by simp
   (try (conv=>whnf));repeat' (first|refine Ok.seq ?_|((first|refine Ok.region tok ?_|refine Ok.region_draw tok follows (by kernel_rfl) ?_|refine Ok.cond ?_);conv=>whnf)|refine Ok.block ?_|((first|refine Ok.skip ?_|refine Ok.exit ?_|refine Ok.ret ?_|refine nI ?_);conv=>whnf)|(refine Or.inr (Or.inl ?_);(conv=>whnf);(repeat (refine aI ?_;conv=>whnf));refine⟨_,hc,?_⟩;rintro _ _ ⟨rfl,rfl⟩;conv=>whnf)|(refine bI ?_ ?_<;>intro<;>(conv=>whnf)<;>(try (exfalso;omega)))|fail)
   all_goals first
    | (exfalso;omega)
    | (refine Or.inr (Or.inl ?_);(conv=>whnf)
       exact⟨rfl,rfl⟩)
 rw[if_neg h3]
 by_cases h4:op=4
 . rw[if_pos h4]
   have hc:=cover_at b 0 (vl+1) hb (by omega) (by omega) b 0 ((vl:Int)+1 - 1) rfl rfl (by omega)
   generalize coverC b (vl+1) 0=C at *
   have hlm:(C.map srow).length=C.length:=by simp
   (try (conv=>whnf));repeat' (first|refine Ok.seq ?_|((first|refine Ok.region tok ?_|refine Ok.region_draw tok follows (by kernel_rfl) ?_|refine Ok.cond ?_);conv=>whnf)|refine Ok.block ?_|((first|refine Ok.skip ?_|refine Ok.exit ?_|refine Ok.ret ?_|refine nI ?_);conv=>whnf)|(refine Or.inr (Or.inl ?_);(conv=>whnf);(repeat (refine aI ?_;conv=>whnf));refine⟨_,hc,?_⟩;rintro _ _ ⟨rfl,rfl⟩;conv=>whnf)|(refine bI ?_ ?_<;>intro<;>(conv=>whnf)<;>(try (exfalso;omega)))|fail)
   all_goals first
    | (exfalso;omega)
    | (refine Or.inr (Or.inl ?_);(conv=>whnf)
       exact⟨rfl,rfl⟩)
 rw[if_neg h4]
 by_cases h5:op=5
 . rw[if_pos h5]
   have hc:=cover_at b (vl+1) (tw b) hb (by omega) (by omega) b ((vl:Int)+1) ((tw b:Int) - 1) rfl rfl rfl
   generalize coverC b (tw b) (vl+1)=C at *
   have hlm:(C.map srow).length=C.length:=by simp
   (try (conv=>whnf));repeat' (first|refine Ok.seq ?_|((first|refine Ok.region tok ?_|refine Ok.region_draw tok follows (by kernel_rfl) ?_|refine Ok.cond ?_);conv=>whnf)|refine Ok.block ?_|((first|refine Ok.skip ?_|refine Ok.exit ?_|refine Ok.ret ?_|refine nI ?_);conv=>whnf)|(refine Or.inl ?_;(conv=>whnf);(repeat (refine aI ?_;conv=>whnf));refine⟨_,htop,rfl,?_⟩;conv=>whnf)|(refine Or.inr (Or.inl ?_);(conv=>whnf);(repeat (refine aI ?_;conv=>whnf));refine⟨_,hc,?_⟩;rintro _ _ ⟨rfl,rfl⟩;conv=>whnf)|(refine bI ?_ ?_<;>intro<;>(conv=>whnf)<;>(try (exfalso;omega)))|fail)
   all_goals first
    | (exfalso;omega)
    | (refine Or.inr (Or.inl ?_);(conv=>whnf)
       exact⟨rfl,rfl⟩)
 rw[if_neg h5]
 have hc:=cover_at b vl (tw b) hb (by omega) (by omega) b ((vl:Int) - 1+1) ((tw b:Int) - 1) rfl (by omega) rfl
 generalize coverC b (tw b) vl=C at *
 have hlm:(C.map srow).length=C.length:=by simp
 (try (conv=>whnf));repeat' (first|refine Ok.seq ?_|((first|refine Ok.region tok ?_|refine Ok.region_draw tok follows (by kernel_rfl) ?_|refine Ok.cond ?_);conv=>whnf)|refine Ok.block ?_|((first|refine Ok.skip ?_|refine Ok.exit ?_|refine Ok.ret ?_|refine nI ?_);conv=>whnf)|(refine Or.inl ?_;(conv=>whnf);(repeat (refine aI ?_;conv=>whnf));refine⟨_,htop,rfl,?_⟩;conv=>whnf)|(refine Or.inr (Or.inl ?_);(conv=>whnf);(repeat (refine aI ?_;conv=>whnf));refine⟨_,hc,?_⟩;rintro _ _ ⟨rfl,rfl⟩;conv=>whnf)|(refine bI ?_ ?_<;>intro<;>(conv=>whnf)<;>(try (exfalso;omega)))|fail)
 all_goals first
  | (exfalso;omega)
  | (refine Or.inr (Or.inl ?_);(conv=>whnf)
     exact⟨rfl,rfl⟩)
set_option maxHeartbeats 16000000 in
theorem rat_at(f:Str)(op form:Int)(vl vh vn:Nat)(pat:Str)(b:Nat)(h0:1<=b)(hb:b<=32)(ho:1<=op/\op<=6)(hvl:vl<tw b)(hvh:vh<tw b)(hvn:vn<=b)(hpl:form=4->pat.length=b)(hpc:form=4->cubOk pat) :
    FSpec Tryz.prog T 252 [.agg (tcl f op form vl vh vn pat),.i .i64 (b:Nat)] (fun d rows=>d = .own 0 (valT ⟨f,op,form,vl,vh,vn,pat⟩ b).length/\rows=[some (9,(valT ⟨f,op,form,vl,vh,vn,pat⟩ b).map srow)]):=by
 have htb:=tw62 (show b<=62 by omega)
 have htop:=rtop_at b (by omega)
 refine FSpec.of_ok tok Tryz.func252 rfl Tryz.call252 (by simp) ?_
 unfold valT
 dsimp only
 simp only[Int.toNat_natCast]
 by_cases h2:op<=2
 . rw[if_pos h2]
   unfold eitT
   dsimp only
   simp only[Int.toNat_natCast]
   by_cases hf3:form=3
   . rw[if_pos hf3]
     by_cases h1:op=1
     . rw[if_pos h1]
       have hc:=from_at b vl (vh+1) hb (by omega) (by omega) b vl vh rfl rfl (by omega)
       generalize coverC b (vh+1) vl=C at *
       have hlm:(C.map srow).length=C.length:=by simp
       (try (conv=>whnf));repeat' (first|refine Ok.seq ?_|((first|refine Ok.region tok ?_|refine Ok.cond ?_);conv=>whnf)|refine Ok.block ?_|((first|refine Ok.skip ?_|refine Ok.ret ?_);conv=>whnf)|(refine Or.inr (Or.inl ?_);(conv=>whnf);(repeat (refine aI ?_;conv=>whnf));refine⟨_,hc,?_⟩;rintro _ _ ⟨rfl,rfl⟩;conv=>whnf)|(refine bI ?_ ?_<;>intro<;>(conv=>whnf)<;>(try (exfalso;omega)))|fail)
       all_goals first
        | (exfalso;omega)
        | (refine Or.inr (Or.inl ?_);(conv=>whnf)
           exact⟨rfl,rfl⟩)
     . rw[if_neg h1]
       have hc1:=from_at b 0 vl hb (by omega) (by omega) b 0 ((vl:Int) - 1) rfl rfl rfl
       have hc2:=from_at b (vh+1) (tw b) hb (by omega) (by omega) b ((vh:Int)+1) ((tw b:Int) - 1) rfl rfl rfl
       have hl1:=coverC_len (bits:=b) (lo:=0) (H:=vl) (by show vl<=tw b;omega)
       have hl2:=coverC_len (bits:=b) (lo:=vh+1) (H:=tw b) (Nat.le_refl _)
       generalize coverC b vl 0=A at *
       generalize coverC b (tw b) (vh+1)=B at *
       have hAm:(A.map srow).length=A.length:=by simp
       have hBm:(B.map srow).length=B.length:=by simp
       (try (conv=>whnf));repeat' (first|refine Ok.seq ?_|((first|refine Ok.region tok ?_|refine Ok.region_plan (id:=18) tok follows [(2,6,[3]),(5,6,[])] [.q 0,.q 1,.q 2,.q 3,.q 4,.l 5,.l 6,.q 7] (by kernel_rfl) ?_|refine Ok.cond ?_);conv=>whnf)|refine Ok.block ?_|((first|refine Ok.skip ?_|refine nI ?_);conv=>whnf)|(refine Or.inl ?_;(conv=>whnf);(repeat (refine aI ?_;conv=>whnf));refine⟨_,htop,rfl,?_⟩;conv=>whnf)|(refine Or.inr (Or.inl ?_);(conv=>whnf);(repeat (refine aI ?_;conv=>whnf));refine⟨_,hc1,?_⟩;rintro _ _ ⟨rfl,rfl⟩;conv=>whnf)|(refine Or.inr (Or.inl ?_);(conv=>whnf);(repeat (refine aI ?_;conv=>whnf));refine⟨_,hc2,?_⟩;rintro _ _ ⟨rfl,rfl⟩;conv=>whnf)|(refine bI ?_ ?_<;>intro<;>(conv=>whnf)<;>(try (exfalso;omega)))|fail)
       all_goals first
        | (exfalso;omega)
        | skip
       refine Ok.loopU [7] [6,8] 2 1 (fun (i:Nat)=>[.own 0 (A.length+i),.i .i64 (i:Nat)]) (fun _ b=>b) (fun (i:Nat) (_:Vx.Rows)=>[some (9,A.map srow++(B.take i).map srow),some (9,B.map srow)]) (fun (i:Nat)=>i<=B.length) (fun (i:Nat)=>B.length - i) (0) (Nat.zero_le _) ?_;(conv=>whnf);refine⟨by ((conv=>whnf);first|rfl|(simp[envCat,List.take_of_length_le,nrow,frow,bcell,srow,tcells,crow];done)|(simp[envCat,List.take_of_length_le,nrow,frow,bcell,srow,tcells,crow];rw[IntKind.wrap_i64];omega)),?_⟩
       intro i hi
       have hti:((B.take i).map srow).length=i:=by simp;omega
       have hap:(A.map srow++(B.take i).map srow).length=A.length+i:=by rw[List.length_append,hAm,hti]
       (conv=>whnf)
       by_cases hil:i<B.length
       . obtain⟨c,hc⟩:∃ c,B[i]? = some c:=⟨_,List.getElem?_eq_getElem hil⟩
         have hcI:B[((i:Nat):Int).toNat]? = some c:=hc
         have hsn:(B.take (i+1)).map srow=(B.take i).map srow++[srow c]:=by rw[take_snoc hc,List.map_append];rfl
         (try (conv=>whnf));repeat' (first|refine Ok.seq ?_|((first|refine Ok.region tok ?_|refine Ok.cond ?_);conv=>whnf)|refine Ok.block ?_|((first|refine Ok.skip ?_|refine nI ?_|refine Alt2.l (aI ?_)|refine rd rfl (by assumption) ?_|refine⟨_,.inl ⟨rfl,rfl⟩,?_⟩|refine⟨_,_,rfl,rfl,?_⟩);conv=>whnf)|(refine bI ?_ ?_<;>intro<;>(conv=>whnf)<;>(try (exfalso;omega)))|(refine aJ ?_;conv=>whnf)|fail)
         all_goals first
          | (exfalso;omega)
          | skip
         refine⟨i+1,by omega,by omega,?_⟩
         rw[hsn]
         (conv=>whnf)
         simp[envCat]
         omega
       . have hie:i=B.length:=by omega
         subst hie
         rw[List.take_length]
         (try (conv=>whnf));repeat' (first|refine Ok.seq ?_|((first|refine Ok.region tok ?_|refine Ok.cond ?_|refine Ok.exit ?_|refine Ok.ret ?_);conv=>whnf)|(refine bI ?_ ?_<;>intro<;>(conv=>whnf)<;>(try (exfalso;omega)))|fail)
         all_goals first
          | (exfalso;omega)
          | (refine Or.inr (Or.inl ?_);(conv=>whnf)
             exact⟨by rw[List.length_append];rfl,by rw[List.map_append]⟩)
   . rw[if_neg hf3]
     have ho:=rone_at f op form vh vl vn pat b hb (by omega) hvn
     have hcl:(oneTT ⟨f,op,form,vl,vh,vn,pat⟩ b).length=b:=one_len hpl (by simp;omega)
     have hcc:cubOk (oneTT ⟨f,op,form,vl,vh,vn,pat⟩ b):=one_cub hpc
     generalize oneTT ⟨f,op,form,vl,vh,vn,pat⟩ b=c at *
     have hct:CT c:=⟨by omega,hcc⟩
     by_cases h1:op=1
     . rw[if_pos h1]
       (try (conv=>whnf));repeat' (first|refine Ok.seq ?_|((first|refine Ok.region tok ?_|refine Ok.cond ?_);conv=>whnf)|refine Ok.block ?_|((first|refine Ok.skip ?_|refine Ok.ret ?_);conv=>whnf)|(refine Or.inl ?_;(conv=>whnf);(repeat (refine aI ?_;conv=>whnf));refine⟨_,ho,rfl,?_⟩;conv=>whnf)|(refine bI ?_ ?_<;>intro<;>(conv=>whnf)<;>(try (exfalso;omega)))|fail)
       all_goals first
        | (exfalso;omega)
        | (refine Or.inr (Or.inl ?_);(conv=>whnf)
           exact⟨rfl,rfl⟩)
     . rw[if_neg h1,split_xs h0 (by omega) hct hcl]
       have hoth:=other_at c b hcl (by omega) hcc
       generalize pcsT (xsT b) c b=C at *
       have hlm:(C.map srow).length=C.length:=by simp
       (try (conv=>whnf));repeat' (first|refine Ok.seq ?_|((first|refine Ok.region tok ?_|refine Ok.cond ?_);conv=>whnf)|refine Ok.block ?_|((first|refine Ok.skip ?_|refine Ok.ret ?_);conv=>whnf)|(refine Or.inl ?_;(conv=>whnf);(repeat (refine aI ?_;conv=>whnf));refine⟨_,ho,rfl,?_⟩;conv=>whnf)|(refine Or.inr (Or.inl ?_);(conv=>whnf);(repeat (refine aI ?_;conv=>whnf));refine⟨_,hoth,?_⟩;rintro _ _ ⟨rfl,rfl⟩;conv=>whnf)|(refine bI ?_ ?_<;>intro<;>(conv=>whnf)<;>(try (exfalso;omega)))|fail)
       all_goals first
        | (exfalso;omega)
        | (refine Or.inr (Or.inl ?_);(conv=>whnf)
           exact⟨rfl,rfl⟩)
 rw[if_neg h2]
 by_cases h3:op=3
 . rw[if_pos h3]
   have hc:=from_at b 0 vl hb (by omega) (by omega) b 0 ((vl:Int) - 1) rfl rfl rfl
   generalize coverC b vl 0=C at *
   have hlm:(C.map srow).length=C.length:=by simp
   (try (conv=>whnf));repeat' (first|refine Ok.seq ?_|((first|refine Ok.region tok ?_|refine Ok.cond ?_);conv=>whnf)|refine Ok.block ?_|((first|refine Ok.ret ?_|refine nI ?_);conv=>whnf)|(refine Or.inr (Or.inl ?_);(conv=>whnf);(repeat (refine aI ?_;conv=>whnf));refine⟨_,hc,?_⟩;rintro _ _ ⟨rfl,rfl⟩;conv=>whnf)|(refine bI ?_ ?_<;>intro<;>(conv=>whnf)<;>(try (exfalso;omega)))|fail)
   all_goals first
    | (exfalso;omega)
    | (refine Or.inr (Or.inl ?_);(conv=>whnf)
       exact⟨rfl,rfl⟩)
 rw[if_neg h3]
 by_cases h4:op=4
 . rw[if_pos h4]
   have hc:=from_at b 0 (vl+1) hb (by omega) (by omega) b 0 (vl:Int) rfl rfl (by omega)
   generalize coverC b (vl+1) 0=C at *
   have hlm:(C.map srow).length=C.length:=by simp
   (try (conv=>whnf));repeat' (first|refine Ok.seq ?_|((first|refine Ok.region tok ?_|refine Ok.cond ?_);conv=>whnf)|refine Ok.block ?_|(refine Ok.ret ?_;conv=>whnf)|(refine Or.inr (Or.inl ?_);(conv=>whnf);(repeat (refine aI ?_;conv=>whnf));refine⟨_,hc,?_⟩;rintro _ _ ⟨rfl,rfl⟩;conv=>whnf)|(refine bI ?_ ?_<;>intro<;>(conv=>whnf)<;>(try (exfalso;omega)))|fail)
   all_goals first
    | (exfalso;omega)
    | (refine Or.inr (Or.inl ?_);(conv=>whnf)
       exact⟨rfl,rfl⟩)
 rw[if_neg h4]
 by_cases h5:op=5
 . rw[if_pos h5]
   have hc:=from_at b (vl+1) (tw b) hb (by omega) (by omega) b ((vl:Int)+1) ((tw b:Int) - 1) rfl rfl rfl
   generalize coverC b (tw b) (vl+1)=C at *
   have hlm:(C.map srow).length=C.length:=by simp
   (try (conv=>whnf));repeat' (first|refine Ok.seq ?_|((first|refine Ok.region tok ?_|refine Ok.region_plan (id:=7) tok follows [(2,6,[3]),(5,6,[])] [.q 0,.q 1,.q 2,.q 3,.q 4,.l 5,.l 6,.q 7] (by kernel_rfl) ?_|refine Ok.cond ?_);conv=>whnf)|refine Ok.block ?_|((first|refine Ok.ret ?_|refine nI ?_);conv=>whnf)|(refine Or.inl ?_;(conv=>whnf);(repeat (refine aI ?_;conv=>whnf));refine⟨_,htop,rfl,?_⟩;conv=>whnf)|(refine Or.inr (Or.inl ?_);(conv=>whnf);(repeat (refine aI ?_;conv=>whnf));refine⟨_,hc,?_⟩;rintro _ _ ⟨rfl,rfl⟩;conv=>whnf)|(refine bI ?_ ?_<;>intro<;>(conv=>whnf)<;>(try (exfalso;omega)))|fail)
   all_goals first
    | (exfalso;omega)
    | (refine Or.inr (Or.inl ?_);(conv=>whnf)
       exact⟨rfl,rfl⟩)
 rw[if_neg h5]
 have hc:=from_at b vl (tw b) hb (by omega) (by omega) b (vl:Int) ((tw b:Int) - 1) rfl rfl rfl
 generalize coverC b (tw b) vl=C at *
 have hlm:(C.map srow).length=C.length:=by simp
 (try (conv=>whnf));repeat' (first|refine Ok.seq ?_|((first|refine Ok.region tok ?_|refine Ok.region_plan (id:=9) tok follows [(2,5,[]),(4,5,[])] [.q 0,.q 1,.q 2,.q 3,.l 4,.l 5,.q 6] (by kernel_rfl) ?_|refine Ok.cond ?_);conv=>whnf)|refine Ok.block ?_|(refine Ok.ret ?_;conv=>whnf)|(refine Or.inl ?_;(conv=>whnf);(repeat (refine aI ?_;conv=>whnf));refine⟨_,htop,rfl,?_⟩;conv=>whnf)|(refine Or.inr (Or.inl ?_);(conv=>whnf);(repeat (refine aI ?_;conv=>whnf));refine⟨_,hc,?_⟩;rintro _ _ ⟨rfl,rfl⟩;conv=>whnf)|(refine bI ?_ ?_<;>intro<;>(conv=>whnf)<;>(try (exfalso;omega)))|fail)
 all_goals first
  | (exfalso;omega)
  | (refine Or.inr (Or.inl ?_);(conv=>whnf)
     exact⟨rfl,rfl⟩)
end Go.Proofs.YtcglkonooeddfaaGreatDoor
namespace Go.Proofs.YtcglkonooeddfaaGreatDoor
open Go Go.Vx Go.Shelf
theorem chkFrom_lay{all:List Fd}:∀ (r:List Fd) (i:Nat) (sum:Int),(chkFrom all r i sum).1=0->∀ f ∈ r,1<=f.bits/\f.bits<=32
 | [],_,_,_=>by simp
 | f :: r,i,sum,h=>by
  by_cases hb:badF (all.take i) f sum
  . rw[chkFrom_bad hb] at h;cases h
  . rw[chkFrom_ok hb] at h
    intro g hg
    rcases List.mem_cons.1 hg with rfl|hg
    . refine⟨Classical.byContradiction fun e=>hb ?_,Classical.byContradiction fun e=>hb ?_⟩
      . exact .inr (.inr (.inr (.inr (.inl (by omega)))))
      . exact .inr (.inr (.inr (.inr (.inr (.inl (by omega))))))
    . exact chkFrom_lay r _ _ h g hg
theorem chk_lay{l:List Fd}(h:(chkO l).1=0):LayF l/\l.length<=12:=by
 by_cases h1:12<l.length
 . rw[chkO_long h1] at h;cases h
 by_cases h2:l.length=0
 . rw[chkO_nil h2] at h;cases h
 rw[chkO_of h1 h2] at h
 exact⟨chkFrom_lay _ _ _ h,by omega⟩
theorem errT_zero{t:Tst}{b:Nat}(h:errT t b=0):FormOk t/\ValOk t b/\(t.form=4->DigOk t.pat b):=by
 by_cases h1:FormOk t
 . by_cases h2:ValOk t b
   . refine⟨h1,h2,fun h4=>Classical.byContradiction fun hd=>?_⟩
     by_cases h3:t.form=2/\t.lo.toNat % tw (b - t.len.toNat) ≠ 0
     . rw[errT_pre h1 h2 h3] at h;cases h
     . by_cases h5:t.form=3/\t.hi<t.lo
       . rw[errT_rng h1 h2 h3 h5] at h;cases h
       . rw[errT_dig h1 h2 h3 h5 ⟨h4,hd⟩] at h;cases h
   . rw[errT_val h1 h2] at h;cases h
 . rw[errT_form h1] at h;cases h
theorem coverF_one{bits H:Nat}:∀ (k lo:Nat),∀ s ∈ coverF bits H k lo,s.length=bits
 | 0,lo=>by simp[coverF]
 | k+1,lo=>by
  unfold coverF
  split
  . intro s hs
    rcases List.mem_cons.1 hs with rfl|hs
    . exact pfxT_len (Nat.sub_le _ _)
    . exact coverF_one k _ s hs
  . simp
theorem val_one{t:Tst}{b:Nat}(h0:1<=b)(hb:b<=32)(hpl:t.form=4->DigOk t.pat b)(hn:t.len.toNat<=b):∀ s ∈ valT t b,s.length=b:=by
 have hc:∀ H lo,∀ s ∈ coverC b H lo,s.length=b:=fun H lo=>coverF_one _ _
 have hol:=one_len (t:=t) (b:=b) (fun h=>(hpl h).1) hn
 have hoc:=one_cub (t:=t) (b:=b) (fun h=>(hpl h).2)
 intro s hs
 unfold valT eitT at hs
 repeat' split at hs
 all_goals first
  | exact hc _ _ s hs
  | (rcases List.mem_append.1 hs with h|h<;>exact hc _ _ s h)
  | (rw[List.mem_singleton.1 hs];exact hol)
  | (rw[((splitT_cn (xs_cn (by omega) h0) ⟨by omega,hoc⟩) s hs).2,xsT_len])
theorem val_len{t:Tst}{b:Nat}(h0:1<=b)(hb:b<=32)(h1:t.lo.toNat<tw b)(h2:t.hi.toNat<tw b):(valT t b).length<=400:=by
 have hc:∀ H lo,H<=tw b->(coverC b H lo).length<=66:=fun H lo h=>by
  have:=coverC_len (bits:=b) (lo:=lo) (H:=H) h
  omega
 unfold valT eitT
 repeat' split
 all_goals first
  | (refine Nat.le_trans (hc _ _ (by omega)) (by omega))
  | (rw[List.length_append]
     have a1:=hc t.lo.toNat 0 (by omega)
     have a2:=hc (tw b) (t.hi.toNat+1) (Nat.le_refl _)
     omega)
  | (simp;done)
  | (refine Nat.le_trans (splitT_len (by rw[xsT_len];omega)) (by omega))
theorem wid_app(l:List Fd)(k:Nat):wid l=wid (l.take k)+wid (l.drop k):=by
 unfold wid
 rw[<- List.sum_append,<- List.map_append,List.take_append_drop]
theorem lay_take{l:List Fd}(h:LayF l)(k:Nat):LayF (l.take k):=fun x hx=>h x (List.mem_of_mem_take hx)
theorem lay_drop{l:List Fd}(h:LayF l)(k:Nat):LayF (l.drop k):=fun x hx=>h x (List.mem_of_mem_drop hx)
open Classical in
noncomputable def errC(l:List Fd)(t:Tst):Int:=if (chkO l).1 ≠ 0 then (chkO l).1 else errF l t
theorem errC_chk{l:List Fd}{t:Tst}(h:(chkO l).1 ≠ 0):errC l t=(chkO l).1:=by unfold errC;rw[if_pos h]
theorem errC_f{l:List Fd}{t:Tst}(h:(chkO l).1=0):errC l t=errF l t:=by unfold errC;rw[if_neg (fun e=>e h)]
def wrapT(l:List Fd)(k:Nat)(x:Str):Str:=xsT (wid (l.take k))++x++xsT (wid (l.drop (k+1)))
def cubL(l:List Fd)(t:Tst):List Str:=match l[(findI t.f l 0).toNat]? with
 | some c=>(valT t c.bits.toNat).map (wrapT l (findI t.f l 0).toNat)
 | none=>[]
set_option maxHeartbeats 16000000 in
theorem cubes_err(l:List Fd)(r:List (List D))(hl:l.length<=1000)(f:Str)(op form lo hi len:Int)(pat:Str)(hs:pat.length<=1000000000000)(he:errC l ⟨f,op,form,lo,hi,len,pat⟩ ≠ 0) :
    FSpec Tryz.prog T 120 [.lst 127 (l.map frow) r,.agg (tcl f op form lo hi len pat)] (fun d rows=>d = .tup [.own 0 0,.i .i64 (errC l ⟨f,op,form,lo,hi,len,pat⟩)]/\rows=[some (9,[])]):=by
 have h1:(l.map frow).length=l.length:=by simp
 have hch:=check_at l r (by omega)
 have hfd:=find_at l r f (by omega)
 refine FSpec.of_ok tok Tryz.func120 rfl Tryz.call120 (by simp) ?_
 by_cases hc0:(chkO l).1=0
 . obtain⟨hlay,_⟩:=chk_lay hc0
   rw[errC_f hc0] at he ⊢
   rcases find_cases f l with hfi|⟨k,c,hfi,hc⟩
   . rw[errF_none hfi]
     rw[hfi] at hfd
     (try (conv=>whnf));repeat' (first|refine Ok.seq ?_|((first|refine Ok.region tok ?_|refine Ok.cond ?_|refine Ok.skip ?_|refine Ok.ret ?_);conv=>whnf)|(refine Or.inl ?_;(conv=>whnf);(repeat (refine aI ?_;conv=>whnf));refine⟨_,hch,rfl,?_⟩;conv=>whnf)|(refine Or.inl ?_;(conv=>whnf);(repeat (refine aI ?_;conv=>whnf));refine⟨_,hfd,rfl,?_⟩;conv=>whnf)|(refine bI ?_ ?_<;>intro<;>(conv=>whnf)<;>(try (exfalso;omega)))|fail)
     all_goals first
      | (exfalso;omega)
      | (refine Or.inr (Or.inr ?_);(conv=>whnf)
         exact⟨rfl,rfl⟩)
   . have hcb:=hlay _ (List.mem_of_getElem? hc)
     have hcI:l[((k:Nat):Int).toNat]? = some c:=hc
     have hft:=fit_at f op form lo hi len pat c.bits.toNat (by omega) (by omega) hs
     rw[show ((c.bits.toNat:Nat):Int)=c.bits by omega] at hft
     rw[errF_some hfi hc] at he ⊢
     rw[hfi] at hfd
     generalize errT ⟨f,op,form,lo,hi,len,pat⟩ c.bits.toNat=e at *
     (try (conv=>whnf));repeat' (first|refine Ok.seq ?_|((first|refine Ok.region tok ?_|refine Ok.cond ?_|refine Ok.skip ?_|refine Ok.ret ?_|refine ix _ (by assumption) ?_);conv=>whnf)|(refine Or.inl ?_;(conv=>whnf);(repeat (refine aI ?_;conv=>whnf));refine⟨_,hch,rfl,?_⟩;conv=>whnf)|(refine Or.inl ?_;(conv=>whnf);(repeat (refine aI ?_;conv=>whnf));refine⟨_,hfd,rfl,?_⟩;conv=>whnf)|(refine Or.inl ?_;(conv=>whnf);(repeat (refine aI ?_;conv=>whnf));refine⟨_,hft,rfl,?_⟩;conv=>whnf)|(refine bI ?_ ?_<;>intro<;>(conv=>whnf)<;>(try (exfalso;omega)))|fail)
     all_goals first
      | (exfalso;omega)
      | (refine Or.inr (Or.inr ?_);(conv=>whnf)
         exact⟨rfl,rfl⟩)
 . rw[errC_chk hc0]
   generalize (chkO l).1=e at *
   (try (conv=>whnf));repeat' (first|refine Ok.seq ?_|((first|refine Ok.region tok ?_|refine Ok.cond ?_|refine Ok.ret ?_);conv=>whnf)|(refine Or.inl ?_;(conv=>whnf);(repeat (refine aI ?_;conv=>whnf));refine⟨_,hch,rfl,?_⟩;conv=>whnf)|(refine bI ?_ ?_<;>intro<;>(conv=>whnf)<;>(try (exfalso;omega)))|fail)
   all_goals first
    | (exfalso;omega)
    | (refine Or.inr (Or.inr ?_);(conv=>whnf)
       exact⟨rfl,rfl⟩)
set_option maxHeartbeats 16000000 in
theorem rcubes_err(l:List Fd)(r:List (List D))(hl:l.length<=1000)(f:Str)(op form lo hi len:Int)(pat:Str)(hs:pat.length<=1000000000000)(he:errC l ⟨f,op,form,lo,hi,len,pat⟩ ≠ 0) :
    FSpec Tryz.prog T 188 [.lst 127 (l.map frow) r,.agg (tcl f op form lo hi len pat)] (fun d rows=>d = .tup [.own 0 0,.i .i64 (errC l ⟨f,op,form,lo,hi,len,pat⟩)]/\rows=[some (9,[])]):=by
 have hch:=rcheck_at l r (by omega)
 refine FSpec.of_ok tok Tryz.func188 rfl Tryz.call188 (by simp) ?_
 by_cases hc0:(chkO l).1=0
 . obtain⟨hlay,_⟩:=chk_lay hc0
   rw[errC_f hc0] at he ⊢
   have hte:=rtest_at l r hl hlay f op form lo hi len pat hs
   generalize errF l ⟨f,op,form,lo,hi,len,pat⟩=e at *
   (try (conv=>whnf));repeat' (first|refine Ok.seq ?_|((first|refine Ok.region tok ?_|refine Ok.cond ?_|refine Ok.skip ?_|refine Ok.ret ?_);conv=>whnf)|(refine Or.inl ?_;(conv=>whnf);(repeat (refine aI ?_;conv=>whnf));refine⟨_,hch,rfl,?_⟩;conv=>whnf)|(refine Or.inl ?_;(conv=>whnf);(repeat (refine aI ?_;conv=>whnf));refine⟨_,hte,rfl,?_⟩;conv=>whnf)|(refine bI ?_ ?_<;>intro<;>(conv=>whnf)<;>(try (exfalso;omega)))|fail)
   all_goals first
    | (exfalso;omega)
    | (refine Or.inr (Or.inr ?_);(conv=>whnf)
       exact⟨rfl,rfl⟩)
 . rw[errC_chk hc0]
   generalize (chkO l).1=e at *
   (try (conv=>whnf));repeat' (first|refine Ok.seq ?_|((first|refine Ok.region tok ?_|refine Ok.cond ?_|refine Ok.ret ?_);conv=>whnf)|(refine Or.inl ?_;(conv=>whnf);(repeat (refine aI ?_;conv=>whnf));refine⟨_,hch,rfl,?_⟩;conv=>whnf)|(refine bI ?_ ?_<;>intro<;>(conv=>whnf)<;>(try (exfalso;omega)))|fail)
   all_goals first
    | (exfalso;omega)
    | (refine Or.inr (Or.inr ?_);(conv=>whnf)
       exact⟨rfl,rfl⟩)
def gL(A B:Str)(C:List Str)(i:Nat):List Str:=(C.take i).map (fun x=>A++x++B)++C.drop i
theorem gL_len(A B:Str)(C:List Str){i:Nat}(h:i<=C.length):(gL A B C i).length=C.length:=by simp[gL];omega
theorem gL_zero(A B:Str)(C:List Str):gL A B C 0=C:=by simp[gL]
theorem gL_end(A B:Str)(C:List Str):gL A B C C.length=C.map (fun x=>A++x++B):=by simp[gL]
theorem gL_get{A B:Str}{C:List Str}{i:Nat}{x:Str}(h:C[i]? = some x):(gL A B C i)[i]? = some x:=by
 have hi:=(List.getElem?_eq_some_iff.1 h).1
 unfold gL
 rw[List.getElem?_append_right (by simp;omega)]
 simp[Nat.min_eq_left (Nat.le_of_lt hi),h]
theorem gL_set{A B:Str}{C:List Str}{i:Nat}{x:Str}(h:C[i]? = some x):(gL A B C i).set i (A++x++B)=gL A B C (i+1):=by
 obtain⟨hi,rfl⟩:=List.getElem?_eq_some_iff.1 h
 unfold gL
 have h1:((C.take i).map fun x=>A++x++B).length=i:=by simp;omega
 rw[List.set_append_right _ _ (by omega),h1,Nat.sub_self,List.drop_eq_getElem_cons hi,take_snoc h,List.map_append,List.set_cons_zero]
 simp only[List.map_cons,List.map_nil,List.append_assoc,List.cons_append,List.nil_append]
theorem cubL_at{l:List Fd}{t:Tst}{k:Nat}{c:Fd}(hfi:findI t.f l 0=(k:Nat))(hc:l[k]? = some c):cubL l t=(valT t c.bits.toNat).map (fun x=>xsT (wid (l.take k))++x++xsT (wid (l.drop (k+1)))):=by
 unfold cubL
 rw[hfi,Int.toNat_natCast,hc]
 rfl
set_option maxHeartbeats 16000000 in
theorem cubes_ok(l:List Fd)(r:List (List D))(hl:l.length<=1000)(f:Str)(op form lo hi len:Int)(pat:Str)(hs:pat.length<=1000000000000)(he:errC l ⟨f,op,form,lo,hi,len,pat⟩=0) :
    FSpec Tryz.prog T 120 [.lst 127 (l.map frow) r,.agg (tcl f op form lo hi len pat)] (fun d rows=>d = .tup [.own 0 (cubL l ⟨f,op,form,lo,hi,len,pat⟩).length,.i .i64 0]/\rows=[some (9,(cubL l ⟨f,op,form,lo,hi,len,pat⟩).map srow)]):=by
 have h1:(l.map frow).length=l.length:=by simp
 have hch:=check_at l r (by omega)
 have hfd:=find_at l r f (by omega)
 by_cases hc0:(chkO l).1=0
 case neg=>exact absurd he (by rw[errC_chk hc0];exact hc0)
 obtain⟨hlay,hl12⟩:=chk_lay hc0
 rw[errC_f hc0] at he
 rcases find_cases f l with hfi|⟨k,c,hfi,hc⟩
 . rw[errF_none hfi] at he;cases he
 rw[errF_some hfi hc] at he
 rw[cubL_at hfi hc]
 have hcb:=hlay _ (List.mem_of_getElem? hc)
 have hcI:l[((k:Nat):Int).toNat]? = some c:=hc
 have hkl:=(List.getElem?_eq_some_iff.1 hc).1
 obtain⟨b,hb⟩:∃ b:Nat,c.bits=(b:Nat):=⟨c.bits.toNat,by omega⟩
 have hft:=fit_at f op form lo hi len pat c.bits.toNat (by omega) (by omega) hs
 rw[he,show ((c.bits.toNat:Nat):Int)=c.bits by omega] at hft
 rw[show c.bits.toNat=b by omega] at he ⊢
 rw[hfi] at hfd
 obtain⟨hF,hV,hD⟩:=errT_zero he
 have hV2:=hV
 unfold ValOk at hV2
 have hA:=hF.a
 dsimp only at hV2 hA hD
 obtain⟨vl,rfl⟩:∃ v:Nat,lo=v:=⟨lo.toNat,by omega⟩
 obtain⟨vh,rfl⟩:∃ v:Nat,hi=v:=⟨hi.toNat,by omega⟩
 obtain⟨vn,rfl⟩:∃ v:Nat,len=v:=⟨len.toNat,by omega⟩
 have hva:=values_at f op form vl vh vn pat b (by omega) (by omega) (by omega) (by omega) (by omega) (by omega) (fun h=>(hD h).1) (fun h=>(hD h).2)
 have hvo:=val_one (t:=⟨f,op,form,vl,vh,vn,pat⟩) (b:=b) (by omega) (by omega) hD (by simp;omega)
 have hvn:=val_len (t:=⟨f,op,form,vl,vh,vn,pat⟩) (b:=b) (by omega) (by omega) (by simp;omega) (by simp;omega)
 rw[<- hb] at hva
 generalize valT ⟨f,op,form,vl,vh,vn,pat⟩ b=C at *
 have hlt:=lay_take hlay k
 have hld:=lay_drop hlay (k+1)
 have hw1:=wid_le hlt
 have hw2:=wid_le hld
 have ht1:(l.take k).length=k:=by simp;omega
 have ht2:(l.drop (k+1)).length=l.length - (k+1):=by simp
 have hx1:=xrep_at (wid (l.take k)) (by omega)
 have hx2:=xrep_at (wid (l.drop (k+1))) (by omega)
 have hxl1:=xsT_len (wid (l.take k))
 have hxl2:=xsT_len (wid (l.drop (k+1)))
 have hwa:=fun r=>width_at (l.take k) r (by omega) hlt
 have hwb:=fun r=>width_at (l.drop (k+1)) r (by omega) hld
 have hm1:(l.take k).map frow=((l.map frow++r).take k).drop 0:=by rw[List.drop_zero,List.take_append_of_le_length (by omega),List.map_take]
 have hm2:(l.drop (k+1)).map frow=((l.map frow++r).take (l.map frow).length).drop (k+1):=by rw[List.take_append_of_le_length (Nat.le_refl _),List.take_length,List.map_drop]
 generalize xsT (wid (l.take k))=X at *
 generalize xsT (wid (l.drop (k+1)))=Y at *
 have hlC:(C.map srow).length=C.length:=by simp
 refine FSpec.of_ok tok Tryz.func120 rfl Tryz.call120 (by simp) ?_
 (try (conv=>whnf));repeat' (first|((first|refine⟨k+1,(l.map frow).length,rfl,rfl,(by omega),(by omega),(l.drop (k+1)).map frow,_,hm2,rfl,?_⟩|refine⟨(l.take k).map frow,_,hm1,rfl,?_⟩);conv=>whnf)|refine Ok.seq ?_|((first|refine Ok.region tok ?_|refine Ok.cond ?_);conv=>whnf)|refine Ok.block ?_|((first|refine Ok.skip ?_|refine nI ?_|refine ix _ (by assumption) ?_);conv=>whnf)|(refine Or.inl ?_;(conv=>whnf);(repeat (refine aI ?_;conv=>whnf));refine⟨_,hch,rfl,?_⟩;conv=>whnf)|(refine Or.inl ?_;(conv=>whnf);(repeat (refine aI ?_;conv=>whnf));refine⟨_,hfd,rfl,?_⟩;conv=>whnf)|(refine Or.inl ?_;(conv=>whnf);(repeat (refine aI ?_;conv=>whnf));refine⟨_,hft,rfl,?_⟩;conv=>whnf)|(refine Or.inl ?_;(conv=>whnf);(repeat (refine aI ?_;conv=>whnf));refine⟨_,hwa _,rfl,?_⟩;conv=>whnf)|(refine Or.inl ?_;(conv=>whnf);(repeat (refine aI ?_;conv=>whnf));refine⟨_,hwb _,rfl,?_⟩;conv=>whnf)|(refine Or.inl ?_;(conv=>whnf);(repeat (refine aI ?_;conv=>whnf));refine⟨_,hx1,rfl,?_⟩;conv=>whnf)|(refine Or.inl ?_;(conv=>whnf);(repeat (refine aI ?_;conv=>whnf));refine⟨_,hx2,rfl,?_⟩;conv=>whnf)|(refine Or.inr (Or.inl ?_);(conv=>whnf);(repeat (refine aI ?_;conv=>whnf));refine⟨_,hva,?_⟩;rintro _ _ ⟨rfl,rfl⟩;conv=>whnf)|(refine⟨_,_,rfl,rfl,?_⟩;conv=>whnf)|(refine bI ?_ ?_<;>intro<;>(conv=>whnf)<;>(try (exfalso;omega)))|(refine aJ ?_;conv=>whnf)|fail)
 all_goals first
  | (exfalso;omega)
  | skip
 rw[show C.map srow=(gL X Y C 0).map srow by rw[gL_zero]]
 refine Ok.loopU [11,12,13,55] [56] 1 1 (fun (i:Nat)=>[.i .i64 (i:Nat)]) (fun _ b=>b) (fun (i:Nat) (_:Vx.Rows)=>[some (9,(gL X Y C i).map srow)]) (fun (i:Nat)=>i<=C.length) (fun (i:Nat)=>C.length - i) (0) (Nat.zero_le _) ?_;(conv=>whnf);refine⟨by ((conv=>whnf);first|rfl|(simp[envCat,List.take_of_length_le,nrow,frow,bcell,srow,tcells,crow];done)|(simp[envCat,List.take_of_length_le,nrow,frow,bcell,srow,tcells,crow];rw[IntKind.wrap_i64];omega)),?_⟩
 intro i hi
 have hgl:=gL_len X Y C hi
 have hgm:((gL X Y C i).map srow).length=C.length:=by rw[List.length_map,hgl]
 (conv=>whnf)
 by_cases hil:i<C.length
 . obtain⟨x,hx⟩:∃ x,C[i]? = some x:=⟨_,List.getElem?_eq_getElem hil⟩
   have hg:=gL_get (A:=X) (B:=Y) hx
   have hgs:=gL_set (A:=X) (B:=Y) hx
   have hxl:=hvo x (List.mem_of_getElem? hx)
   have hgI:(gL X Y C i)[((i:Nat):Int).toNat]? = some x:=hg
   have hap:(X++x:Str).length=X.length+x.length:=List.length_append
   (try (conv=>whnf));repeat' (first|((first|refine rd rfl hgI ?_|refine st (X++x++Y) hgI (by simp) rfl ?_);conv=>whnf)|refine Ok.seq ?_|((first|refine Ok.region tok ?_|refine Ok.cond ?_);conv=>whnf)|refine Ok.block ?_|((first|refine Ok.skip ?_|refine nI ?_);conv=>whnf)|(refine bI ?_ ?_<;>intro<;>(conv=>whnf)<;>(try (exfalso;omega)))|(refine aJ ?_;conv=>whnf)|fail)
   all_goals first
    | (exfalso;omega)
    | skip
   refine⟨i+1,by omega,by omega,?_⟩
   rw[<- hgs]
   (conv=>whnf)
   rfl
 . have hie:i=C.length:=by omega
   subst hie
   rw[gL_end]
   (try (conv=>whnf));repeat' (first|refine Ok.seq ?_|((first|refine Ok.region tok ?_|refine Ok.cond ?_|refine Ok.exit ?_|refine Ok.ret ?_);conv=>whnf)|(refine bI ?_ ?_<;>intro<;>(conv=>whnf)<;>(try (exfalso;omega)))|fail)
   all_goals first
    | (exfalso;omega)
    | (refine Or.inr (Or.inl ?_);(conv=>whnf)
       exact⟨by simp;rfl,rfl⟩)
set_option maxHeartbeats 16000000 in
theorem rcubes_ok(l:List Fd)(r:List (List D))(hl:l.length<=1000)(f:Str)(op form lo hi len:Int)(pat:Str)(hs:pat.length<=1000000000000)(he:errC l ⟨f,op,form,lo,hi,len,pat⟩=0) :
    FSpec Tryz.prog T 188 [.lst 127 (l.map frow) r,.agg (tcl f op form lo hi len pat)] (fun d rows=>d = .tup [.own 0 (cubL l ⟨f,op,form,lo,hi,len,pat⟩).length,.i .i64 0]/\rows=[some (9,(cubL l ⟨f,op,form,lo,hi,len,pat⟩).map srow)]):=by
 have h1:(l.map frow).length=l.length:=by simp
 have hch:=rcheck_at l r (by omega)
 by_cases hc0:(chkO l).1=0
 case neg=>exact absurd he (by rw[errC_chk hc0];exact hc0)
 obtain⟨hlay,hl12⟩:=chk_lay hc0
 rw[errC_f hc0] at he
 have hte:=rtest_at l r hl hlay f op form lo hi len pat hs
 rw[he] at hte
 have hpl:=tplace_at l r f hl hlay
 rcases find_cases f l with hfi|⟨k,c,hfi,hc⟩
 . rw[errF_none hfi] at he;cases he
 rw[errF_some hfi hc] at he
 rw[cubL_at hfi hc]
 have hcb:=hlay _ (List.mem_of_getElem? hc)
 have hcI:l[((k:Nat):Int).toNat]? = some c:=hc
 have hkl:=(List.getElem?_eq_some_iff.1 hc).1
 obtain⟨b,hb⟩:∃ b:Nat,c.bits=(b:Nat):=⟨c.bits.toNat,by omega⟩
 rw[show c.bits.toNat=b by omega] at he ⊢
 rw[plI_some hfi,hfi] at hpl
 obtain⟨hF,hV,hD⟩:=errT_zero he
 have hV2:=hV
 unfold ValOk at hV2
 have hA:=hF.a
 dsimp only at hV2 hA hD
 obtain⟨vl,rfl⟩:∃ v:Nat,lo=v:=⟨lo.toNat,by omega⟩
 obtain⟨vh,rfl⟩:∃ v:Nat,hi=v:=⟨hi.toNat,by omega⟩
 obtain⟨vn,rfl⟩:∃ v:Nat,len=v:=⟨len.toNat,by omega⟩
 have hva:=rat_at f op form vl vh vn pat b (by omega) (by omega) (by omega) (by omega) (by omega) (by omega) (fun h=>(hD h).1) (fun h=>(hD h).2)
 have hvo:=val_one (t:=⟨f,op,form,vl,vh,vn,pat⟩) (b:=b) (by omega) (by omega) hD (by simp;omega)
 have hvn:=val_len (t:=⟨f,op,form,vl,vh,vn,pat⟩) (b:=b) (by omega) (by omega) (by simp;omega) (by simp;omega)
 rw[<- hb] at hva
 generalize valT ⟨f,op,form,vl,vh,vn,pat⟩ b=C at *
 have hlt:=lay_take hlay k
 have hld:=lay_drop hlay (k+1)
 have hw1:=wid_le hlt
 have hw2:=wid_le hld
 have hww:=wid_app l (k+1)
 have hws:=wid_snoc hc
 have hw:=wid_le hlay
 have hwt:=rwidth_at l r hl hlay
 have ht1:(l.take k).length=k:=by simp;omega
 have ht2:(l.drop (k+1)).length=l.length - (k+1):=by simp
 have hx1:=xs_at (wid (l.take k)) (by omega)
 have hx2:=xs_at (wid (l.drop (k+1))) (by omega)
 rw[show ((wid (l.drop (k+1)):Nat):Int)=(wid l:Int) - (wid (l.take k):Int) - c.bits by omega] at hx2
 have hxl1:=xsT_len (wid (l.take k))
 have hxl2:=xsT_len (wid (l.drop (k+1)))
 generalize xsT (wid (l.take k))=X at *
 generalize xsT (wid (l.drop (k+1)))=Y at *
 have hlC:(C.map srow).length=C.length:=by simp
 refine FSpec.of_ok tok Tryz.func188 rfl Tryz.call188 (by simp) ?_
 (try (conv=>whnf));repeat' (first|refine Ok.seq ?_|((first|refine Ok.region tok ?_|refine Ok.cond ?_);conv=>whnf)|refine Ok.block ?_|((first|refine Ok.skip ?_|refine ix _ (by assumption) ?_);conv=>whnf)|(refine Or.inl ?_;(conv=>whnf);(repeat (refine aI ?_;conv=>whnf));refine⟨_,hch,rfl,?_⟩;conv=>whnf)|(refine Or.inl ?_;(conv=>whnf);(repeat (refine aI ?_;conv=>whnf));refine⟨_,hte,rfl,?_⟩;conv=>whnf)|(refine Or.inl ?_;(conv=>whnf);(repeat (refine aI ?_;conv=>whnf));refine⟨_,hpl,rfl,?_⟩;conv=>whnf)|(refine Or.inl ?_;(conv=>whnf);(repeat (refine aI ?_;conv=>whnf));refine⟨_,hwt,rfl,?_⟩;conv=>whnf)|(refine Or.inr (Or.inl ?_);(conv=>whnf);(repeat (refine aI ?_;conv=>whnf));refine⟨_,hva,?_⟩;rintro _ _ ⟨rfl,rfl⟩;conv=>whnf)|(refine bI ?_ ?_<;>intro<;>(conv=>whnf)<;>(try (exfalso;omega)))|fail)
 all_goals first
  | (exfalso;omega)
  | skip
 refine Ok.ghost 13 9 rfl ?_
 (conv=>whnf)
 refine Ok.loopU [8,10,11,12] [13,14] 2 1 (fun (i:Nat)=>[.own 1 i,.i .i64 (i:Nat)]) (fun _ b=>b) (fun (i:Nat) (_:Vx.Rows)=>[some (9,C.map srow),some (9,((C.take i).map fun x=>X++x++Y).map srow)]) (fun (i:Nat)=>i<=C.length) (fun (i:Nat)=>C.length - i) (0) (Nat.zero_le _) ?_;(conv=>whnf);refine⟨by ((conv=>whnf);first|rfl|(simp[envCat,List.take_of_length_le,nrow,frow,bcell,srow,tcells,crow];done)|(simp[envCat,List.take_of_length_le,nrow,frow,bcell,srow,tcells,crow];rw[IntKind.wrap_i64];omega)),?_⟩
 intro i hi
 have hgm:(((C.take i).map fun x=>X++x++Y).map srow).length=i:=by simp;omega
 (conv=>whnf)
 by_cases hil:i<C.length
 . obtain⟨x,hx⟩:∃ x,C[i]? = some x:=⟨_,List.getElem?_eq_getElem hil⟩
   have hxI:C[((i:Nat):Int).toNat]? = some x:=hx
   have hxl:=hvo x (List.mem_of_getElem? hx)
   have hap:(X++x:Str).length=X.length+x.length:=List.length_append
   have hsn:((C.take (i+1)).map fun x=>X++x++Y).map srow=((C.take i).map fun x=>X++x++Y).map srow++[srow (X++x++Y)]:=by rw[take_snoc hx,List.map_append,List.map_append];rfl
   (try (conv=>whnf));repeat' (first|refine Ok.seq ?_|((first|refine Ok.region tok ?_|refine Ok.region_plan (id:=15) tok follows [(2,13,[]),(6,15,[14,7]),(2,15,[14,7]),(13,15,[14]),(6,16,[15,14,7]),(2,16,[13]),(13,16,[]),(15,16,[])] [.q 0,.q 1,.q 3,.q 4,.q 5,.q 6,.q 8,.q 9,.q 10,.q 11,.q 12,.l 2,.q 7,.l 13,.q 14,.l 15,.l 16,.q 17] (by kernel_rfl) ?_|refine Ok.cond ?_);conv=>whnf)|refine Ok.block ?_|((first|refine Ok.skip ?_|refine nI ?_);conv=>whnf)|(refine Or.inl ?_;(conv=>whnf);(repeat (refine aI ?_;conv=>whnf));refine⟨_,hx1,rfl,?_⟩;conv=>whnf)|(refine Or.inl ?_;(conv=>whnf);(repeat (refine aI ?_;conv=>whnf));refine⟨_,hx2,rfl,?_⟩;conv=>whnf)|((first|refine Alt2.l (aI ?_)|refine rd rfl (by assumption) ?_|refine⟨_,.inl ⟨rfl,rfl⟩,?_⟩|refine⟨_,_,rfl,rfl,?_⟩);conv=>whnf)|(refine bI ?_ ?_<;>intro<;>(conv=>whnf)<;>(try (exfalso;omega)))|(refine aJ ?_;conv=>whnf)|fail)
   all_goals first
    | (exfalso;omega)
    | skip
   refine⟨i+1,by omega,by omega,?_⟩
   rw[hsn]
   (conv=>whnf)
   simp[envCat]
   try omega
 . have hie:i=C.length:=by omega
   subst hie
   rw[List.take_length]
   (try (conv=>whnf));repeat' (first|refine Ok.seq ?_|((first|refine Ok.region tok ?_|refine Ok.cond ?_|refine Ok.exit ?_|refine Ok.ret ?_);conv=>whnf)|(refine bI ?_ ?_<;>intro<;>(conv=>whnf)<;>(try (exfalso;omega)))|fail)
   all_goals first
    | (exfalso;omega)
    | (refine Or.inr (Or.inl ?_);(conv=>whnf)
       exact⟨by simp;rfl,rfl⟩)
end Go.Proofs.YtcglkonooeddfaaGreatDoor
namespace Go.Proofs.YtcglkonooeddfaaGreatDoor
open Go Go.Vx Go.Shelf
open Classical in
noncomputable def tstE(l:List Fd):List Nd->Int
 | []=>0
 | c :: r=>if c.kind=3/\errC l c.t ≠ 0 then errC l c.t else tstE l r
theorem tstE_bad{l:List Fd}{c:Nd}{r:List Nd}(h:c.kind=3)(h2:errC l c.t ≠ 0):tstE l (c :: r)=errC l c.t:=by unfold tstE;rw[if_pos ⟨h,h2⟩]
theorem tstE_ok{l:List Fd}{c:Nd}{r:List Nd}(h:¬ (c.kind=3/\errC l c.t ≠ 0)):tstE l (c :: r)=tstE l r:=by conv=>lhs;unfold tstE;rw[if_neg h]
noncomputable def nestE(l:List Fd)(e:List Nd):Option Tr->Int|none=>52|some x=>if 32<x.nest then 53 else tstE l e
open Classical in
/-- What Check tells. -/
noncomputable def chkE(l:List Fd)(e:List Nd):Int:=if (chkO l).1 ≠ 0 then (chkO l).1 else if 64<e.length then 51 else nestE l e (bldO e)
theorem chkE_f{l:List Fd}{e:List Nd}(h:(chkO l).1 ≠ 0):chkE l e=(chkO l).1:=by unfold chkE;rw[if_pos h]
theorem chkE_l{l:List Fd}{e:List Nd}(h:(chkO l).1=0)(h2:64<e.length):chkE l e=51:=by unfold chkE;rw[if_neg (fun x=>x h),if_pos h2]
theorem chkE_b{l:List Fd}{e:List Nd}(h:(chkO l).1=0)(h2:¬ 64<e.length)(h3:bldO e=none):chkE l e=52:=by unfold chkE;rw[if_neg (fun x=>x h),if_neg h2,h3];rfl
theorem chkE_d{l:List Fd}{e:List Nd}{x:Tr}(h:(chkO l).1=0)(h2:¬ 64<e.length)(h3:bldO e=some x)(h4:32<x.nest):chkE l e=53:=by unfold chkE;rw[if_neg (fun x=>x h),if_neg h2,h3];exact if_pos h4
theorem chkE_t{l:List Fd}{e:List Nd}{x:Tr}(h:(chkO l).1=0)(h2:¬ 64<e.length)(h3:bldO e=some x)(h4:¬ 32<x.nest):chkE l e=tstE l e:=by unfold chkE;rw[if_neg (fun x=>x h),if_neg h2,h3];exact if_neg h4
open Classical in
noncomputable def chkD(l:List Fd)(e:List Nd):D:=if chkE l e=0 then (match bldO e with|some x=>.tup [x.d,.i .i64 0]|none=>.u) else .tup [.nilI,.i .i64 (chkE l e)]
theorem chkD_err{l:List Fd}{e:List Nd}{k:Int}(h:chkE l e=k)(h2:k ≠ 0):chkD l e = .tup [.nilI,.i .i64 k]:=by unfold chkD;rw[h,if_neg h2]
theorem chkD_ok{l:List Fd}{e:List Nd}{x:Tr}(h:chkE l e=0)(h2:bldO e=some x):chkD l e = .tup [x.d,.i .i64 0]:=by unfold chkD;rw[if_pos h,h2]
set_option maxHeartbeats 16000000 in
theorem echk_at(l:List Fd)(r:List (List D))(e:List Nd)(r2:List (List D))(hl:l.length<=2000000)(he:e.length<=2000000)(htx:TxtOk e) :
    FSpec Tryz.prog T 65 [.lst 127 (l.map frow) r,.lst 219 (e.map nrow) r2] (fun d rows=>d=chkD l e/\rows=[]):=by
 have h1:(l.map frow).length=l.length:=by simp
 have h2:(e.map nrow).length=e.length:=by simp
 have hch:=check_at l r hl
 refine FSpec.of_ok tok Tryz.func65 rfl Tryz.call65 (by simp) ?_
 by_cases c1:(chkO l).1=0
 case neg=>
  rw[chkD_err (chkE_f c1) c1]
  generalize (chkO l).1=k at *
  (try (conv=>whnf));repeat' (first|refine Ok.seq ?_|((first|refine Ok.region tok ?_|refine Ok.cond ?_|refine Ok.ret ?_);conv=>whnf)|(refine Or.inl ?_;(conv=>whnf);(repeat (refine aI ?_;conv=>whnf));refine⟨_,hch,rfl,?_⟩;conv=>whnf)|(refine bI ?_ ?_<;>intro<;>(conv=>whnf)<;>(try (exfalso;omega)))|fail)
  all_goals first
   | (exfalso;omega)
   | (refine Or.inl ?_;(conv=>whnf)
      exact⟨rfl,rfl⟩)
 by_cases c2:64<e.length
 . rw[chkD_err (chkE_l c1 c2) (by decide)]
   (try (conv=>whnf));repeat' (first|refine Ok.seq ?_|((first|refine Ok.region tok ?_|refine Ok.cond ?_|refine Ok.skip ?_|refine Ok.ret ?_);conv=>whnf)|(refine Or.inl ?_;(conv=>whnf);(repeat (refine aI ?_;conv=>whnf));refine⟨_,hch,rfl,?_⟩;conv=>whnf)|(refine bI ?_ ?_<;>intro<;>(conv=>whnf)<;>(try (exfalso;omega)))|fail)
   all_goals first
    | (exfalso;omega)
    | (refine Or.inl ?_;(conv=>whnf)
       exact⟨rfl,rfl⟩)
 have hbl:=build_at e r2 he
 cases hb:bldO e with
 | none=>
  rw[chkD_err (chkE_b c1 c2 hb) (by decide)]
  rw[hb] at hbl
  (try (conv=>whnf));repeat' (first|refine Ok.seq ?_|((first|refine Ok.region tok ?_|refine Ok.cond ?_|refine Ok.skip ?_|refine Ok.ret ?_);conv=>whnf)|(refine Or.inl ?_;(conv=>whnf);(repeat (refine aI ?_;conv=>whnf));refine⟨_,hch,rfl,?_⟩;conv=>whnf)|(refine Or.inr (Or.inl ?_);(conv=>whnf);(repeat (refine aI ?_;conv=>whnf));refine⟨_,hbl,?_⟩;rintro _ _ ⟨rfl,rfl⟩;conv=>whnf)|(refine bI ?_ ?_<;>intro<;>(conv=>whnf)<;>(try (exfalso;omega)))|fail)
  all_goals first
   | (exfalso;omega)
   | (rename_i h;exact absurd (fun h2=>h2) h)
   | (refine Or.inl ?_;(conv=>whnf)
      exact⟨rfl,rfl⟩)
 | some x=>
  rw[hb] at hbl
  have hsz:=bldO_sz hb
  obtain⟨fx,mx,sx⟩:=nest_at x (by omega)
  have hnx:=nest_le x
  by_cases c4:32<x.nest
  . rw[chkD_err (chkE_d c1 c2 hb c4) (by decide)]
    (try (conv=>whnf));repeat' (first|(refine⟨fun h=>absurd trivial h,fun _=>?_⟩;conv=>whnf)|refine Ok.seq ?_|((first|refine Ok.region tok ?_|refine Ok.cond ?_|refine Ok.skip ?_|refine Ok.ret ?_);conv=>whnf)|(refine Or.inl ?_;(conv=>whnf);(repeat (refine aI ?_;conv=>whnf));refine⟨_,hch,rfl,?_⟩;conv=>whnf)|(refine Or.inr (Or.inl ?_);(conv=>whnf);(repeat (refine aI ?_;conv=>whnf));refine⟨_,hbl,?_⟩;rintro _ _ ⟨rfl,rfl⟩;conv=>whnf)|(refine Or.inl ?_;(conv=>whnf);(repeat (refine aI ?_;conv=>whnf));refine⟨_,mx,_,sx,rfl,?_⟩;conv=>whnf)|(refine bI ?_ ?_<;>intro<;>(conv=>whnf)<;>(try (exfalso;omega)))|fail)
    all_goals first
     | (exfalso;omega)
     | (refine Or.inl ?_;(conv=>whnf)
        exact⟨rfl,rfl⟩)
  . have hce:=chkE_t c1 c2 hb c4
    (try (conv=>whnf));repeat' (first|(refine⟨fun h=>absurd trivial h,fun _=>?_⟩;conv=>whnf)|refine Ok.seq ?_|((first|refine Ok.region tok ?_|refine Ok.cond ?_);conv=>whnf)|refine Ok.block ?_|(refine Ok.skip ?_;conv=>whnf)|(refine Or.inl ?_;(conv=>whnf);(repeat (refine aI ?_;conv=>whnf));refine⟨_,hch,rfl,?_⟩;conv=>whnf)|(refine Or.inr (Or.inl ?_);(conv=>whnf);(repeat (refine aI ?_;conv=>whnf));refine⟨_,hbl,?_⟩;rintro _ _ ⟨rfl,rfl⟩;conv=>whnf)|(refine Or.inl ?_;(conv=>whnf);(repeat (refine aI ?_;conv=>whnf));refine⟨_,mx,_,sx,rfl,?_⟩;conv=>whnf)|(refine bI ?_ ?_<;>intro<;>(conv=>whnf)<;>(try (exfalso;omega)))|fail)
    all_goals first
     | (exfalso;omega)
     | skip
    refine Ok.loopU [0,8,35,36] [37] 0 0 (fun (i:Nat)=>[.i .i64 (i:Nat)]) (fun _ b=>b) (fun _ r=>r) (fun (i:Nat)=>i<=e.length/\tstE l e=tstE l (e.drop i)) (fun (i:Nat)=>e.length - i) (0) (⟨Nat.zero_le _,rfl⟩) ?_;(conv=>whnf);refine⟨by ((conv=>whnf);first|rfl|(simp[envCat,List.take_of_length_le,nrow,frow,bcell,srow,tcells,crow,qrow,prow];done)|(simp[envCat,List.take_of_length_le,nrow,frow,bcell,srow,tcells,crow,qrow,prow];rw[IntKind.wrap_i64];omega)),?_⟩
    rintro i ⟨hi,ht⟩
    (conv=>whnf)
    by_cases hil:i<e.length
    . obtain⟨c,hc⟩:∃ c,e[i]? = some c:=⟨_,List.getElem?_eq_getElem hil⟩
      have hcI:e[((i:Nat):Int).toNat]? = some c:=hc
      have htc:=htx c (List.mem_of_getElem? hc)
      rw[fdrop_at hc] at ht
      by_cases hk:c.kind=3
      . by_cases hE:errC l c.t=0
        . have hcu:=cubes_ok l r (by have:=(chk_lay (l:=l) (by assumption)).2;omega) c.t.f c.t.op c.t.form c.t.lo c.t.hi c.t.len c.t.pat htc.2 hE
          generalize cubL l ⟨c.t.f,c.t.op,c.t.form,c.t.lo,c.t.hi,c.t.len,c.t.pat⟩=Q at *
          rw[tstE_ok (fun h=>h.2 hE)] at ht
          (try (conv=>whnf));repeat' (first|refine Ok.seq ?_|((first|refine Ok.region tok ?_|refine Ok.cond ?_);conv=>whnf)|refine Ok.block ?_|((first|refine Ok.skip ?_|refine nI ?_|refine ix _ (by assumption) ?_);conv=>whnf)|(refine Or.inr (Or.inl ?_);(conv=>whnf);(repeat (refine aI ?_;conv=>whnf));refine⟨_,hcu,?_⟩;rintro _ _ ⟨rfl,rfl⟩;conv=>whnf)|(refine bI ?_ ?_<;>intro<;>(conv=>whnf)<;>(try (exfalso;omega)))|fail)
          all_goals first
           | (exfalso;omega)
           | (refine⟨i+1,by omega,⟨by omega,ht⟩,?_⟩
              (conv=>whnf)
              rfl)
        . have hcu:=cubes_err l r (by have:=(chk_lay (l:=l) (by assumption)).2;omega) c.t.f c.t.op c.t.form c.t.lo c.t.hi c.t.len c.t.pat htc.2 hE
          rw[tstE_bad hk hE] at ht
          rw[chkD_err (hce.trans ht) hE]
          have hE2:errC l ⟨c.t.f,c.t.op,c.t.form,c.t.lo,c.t.hi,c.t.len,c.t.pat⟩=errC l c.t:=rfl
          rw[hE2] at hcu
          generalize errC l c.t=k at *
          (try (conv=>whnf));repeat' (first|refine Ok.seq ?_|((first|refine Ok.region tok ?_|refine Ok.cond ?_);conv=>whnf)|refine Ok.block ?_|((first|refine Ok.skip ?_|refine Ok.ret ?_|refine ix _ (by assumption) ?_);conv=>whnf)|(refine Or.inr (Or.inl ?_);(conv=>whnf);(repeat (refine aI ?_;conv=>whnf));refine⟨_,hcu,?_⟩;rintro _ _ ⟨rfl,rfl⟩;conv=>whnf)|(refine bI ?_ ?_<;>intro<;>(conv=>whnf)<;>(try (exfalso;omega)))|fail)
          all_goals first
           | (exfalso;omega)
           | (refine Or.inl ?_;(conv=>whnf)
              exact⟨rfl,rfl⟩)
      . rw[tstE_ok (fun h=>hk h.1)] at ht
        (try (conv=>whnf));repeat' (first|refine Ok.seq ?_|((first|refine Ok.region tok ?_|refine Ok.cond ?_);conv=>whnf)|refine Ok.block ?_|((first|refine Ok.skip ?_|refine Ok.exit ?_|refine nI ?_|refine ix _ (by assumption) ?_);conv=>whnf)|(refine bI ?_ ?_<;>intro<;>(conv=>whnf)<;>(try (exfalso;omega)))|fail)
        all_goals first
         | (exfalso;omega)
         | (refine⟨i+1,by omega,⟨by omega,ht⟩,?_⟩
            (conv=>whnf)
            rfl)
    . have hie:i=e.length:=by omega
      subst hie
      rw[List.drop_length] at ht
      rw[chkD_ok (hce.trans ht) hb]
      (try (conv=>whnf));repeat' (first|refine Ok.seq ?_|((first|refine Ok.region tok ?_|refine Ok.cond ?_|refine Ok.exit ?_|refine Ok.ret ?_);conv=>whnf)|(refine bI ?_ ?_<;>intro<;>(conv=>whnf)<;>(try (exfalso;omega)))|fail)
      all_goals first
       | (exfalso;omega)
       | (refine Or.inl ?_;(conv=>whnf)
          exact⟨rfl,rfl⟩)
end Go.Proofs.YtcglkonooeddfaaGreatDoor
namespace Go.Proofs.YtcglkonooeddfaaGreatDoor
open Go Go.Vx Go.Shelf
theorem chkD_two(l:List Fd)(e:List Nd):∃ y:D,chkD l e = .tup [y,.i .i64 (chkE l e)]/\(y = .nilI\/∃ x:Tr,y=x.d):=by
 by_cases h:chkE l e=0
 . cases hb:bldO e with
   | none=>
    exfalso
    unfold chkE at h
    split at h
    . rename_i h1;exact h1 h
    split at h
    . cases h
    . rw[hb] at h;cases h
   | some x=>exact⟨x.d,by rw[chkD_ok h hb,h],.inr ⟨x,rfl⟩⟩
 . exact⟨.nilI,chkD_err rfl h,.inl rfl⟩
theorem pcheck_at(l:List Fd)(r:List (List D))(e:List Nd)(r2:List (List D))(hl:l.length<=2000000)(he:e.length<=2000000)(htx:TxtOk e) :
    FSpec Tryz.prog T 142 [.lst 127 (l.map frow) r,.lst 219 (e.map nrow) r2] (fun d _=>d = .i .i64 (chkE l e)):=by
 have hk:=echk_at l r e r2 hl he htx
 obtain⟨y,hy,hx⟩:=chkD_two l e
 rw[hy] at hk
 refine FSpec.of_ok tok Tryz.func142 rfl Tryz.call142 (by simp) ?_
 rcases hx with rfl|⟨x,rfl⟩
 . (try (conv=>whnf));repeat' (first|refine Ok.seq ?_|((first|refine Ok.region tok ?_|refine Ok.ret ?_);conv=>whnf)|(refine Or.inr (Or.inl ?_);(conv=>whnf);(repeat (refine aI ?_;conv=>whnf));refine⟨_,hk,?_⟩;rintro _ _ ⟨rfl,rfl⟩;conv=>whnf)|fail)
   refine Or.inl ?_;(conv=>whnf)
   rfl
 . (try (conv=>whnf));repeat' (first|refine Ok.seq ?_|((first|refine Ok.region tok ?_|refine Ok.ret ?_);conv=>whnf)|(refine Or.inr (Or.inl ?_);(conv=>whnf);(repeat (refine aI ?_;conv=>whnf));refine⟨_,hk,?_⟩;rintro _ _ ⟨rfl,rfl⟩;conv=>whnf)|fail)
   refine Or.inl ?_;(conv=>whnf)
   rfl
set_option maxHeartbeats 16000000 in
theorem rechk_at(l:List Fd)(r:List (List D))(e:List Nd)(r2:List (List D))(hl:l.length<=2000000)(he:e.length<=2000000)(htx:TxtOk e) :
    FSpec Tryz.prog T 130 [.lst 127 (l.map frow) r,.lst 219 (e.map nrow) r2] (fun d _=>d = .i .i64 (chkE l e)):=by
 have h1:(l.map frow).length=l.length:=by simp
 have h2:(e.map nrow).length=e.length:=by simp
 have hch:=rcheck_at l r hl
 refine FSpec.of_ok tok Tryz.func130 rfl Tryz.call130 (by simp) ?_
 by_cases c1:(chkO l).1=0
 case neg=>
  rw[chkE_f c1]
  generalize (chkO l).1=k at *
  (try (conv=>whnf));repeat' (first|refine Ok.seq ?_|((first|refine Ok.region tok ?_|refine Ok.cond ?_|refine Ok.ret ?_);conv=>whnf)|(refine Or.inl ?_;(conv=>whnf);(repeat (refine aI ?_;conv=>whnf));refine⟨_,hch,rfl,?_⟩;conv=>whnf)|(refine bI ?_ ?_<;>intro<;>(conv=>whnf)<;>(try (exfalso;omega)))|fail)
  all_goals first
   | (exfalso;omega)
   | (refine Or.inl ?_;(conv=>whnf)
      rfl)
 by_cases c2:64<e.length
 . rw[chkE_l c1 c2]
   (try (conv=>whnf));repeat' (first|refine Ok.seq ?_|((first|refine Ok.region tok ?_|refine Ok.cond ?_|refine Ok.skip ?_|refine Ok.ret ?_);conv=>whnf)|(refine Or.inl ?_;(conv=>whnf);(repeat (refine aI ?_;conv=>whnf));refine⟨_,hch,rfl,?_⟩;conv=>whnf)|(refine bI ?_ ?_<;>intro<;>(conv=>whnf)<;>(try (exfalso;omega)))|fail)
   all_goals first
    | (exfalso;omega)
    | (refine Or.inl ?_;(conv=>whnf)
       rfl)
 have htl:=tell_at e r2 (by omega) htx
 unfold tellP at htl
 cases hb:bldO e with
 | none=>
  rw[chkE_b c1 c2 hb]
  rw[hb] at htl
  dsimp only at htl
  (try (conv=>whnf));repeat' (first|(refine⟨fun _=>?_,fun h=>absurd (fun h2=>h2) h⟩;conv=>whnf)|refine Ok.seq ?_|((first|refine Ok.region tok ?_|refine Ok.cond ?_|refine Ok.skip ?_|refine Ok.ret ?_);conv=>whnf)|(refine Or.inl ?_;(conv=>whnf);(repeat (refine aI ?_;conv=>whnf));refine⟨_,hch,rfl,?_⟩;conv=>whnf)|(refine Or.inr (Or.inl ?_);(conv=>whnf);(repeat (refine aI ?_;conv=>whnf));refine⟨_,htl,?_⟩;rintro _ _ ⟨rfl,rfl⟩;conv=>whnf)|(refine bI ?_ ?_<;>intro<;>(conv=>whnf)<;>(try (exfalso;omega)))|fail)
  all_goals first
   | (exfalso;omega)
   | (rename_i h;exact absurd (fun h2=>h2) h)
   | (refine Or.inl ?_;(conv=>whnf)
      rfl)
 | some x=>
  rw[hb] at htl
  dsimp only at htl
  have hsz:=bldO_sz hb
  have hnx:=nest_le x
  by_cases c4:32<x.nest
  . rw[chkE_d c1 c2 hb c4]
    (try (conv=>whnf));repeat' (first|(refine⟨fun h=>absurd trivial h,fun _=>?_⟩;conv=>whnf)|refine Ok.seq ?_|((first|refine Ok.region tok ?_|refine Ok.cond ?_|refine Ok.skip ?_|refine Ok.ret ?_);conv=>whnf)|(refine Or.inl ?_;(conv=>whnf);(repeat (refine aI ?_;conv=>whnf));refine⟨_,hch,rfl,?_⟩;conv=>whnf)|(refine Or.inr (Or.inl ?_);(conv=>whnf);(repeat (refine aI ?_;conv=>whnf));refine⟨_,htl , ?_⟩;rintro _ _ ⟨⟨s,rfl⟩,rfl⟩<;>(conv=>whnf))|(refine bI ?_ ?_<;>intro<;>(conv=>whnf)<;>(try (exfalso;omega)))|fail)
    all_goals first
     | (exfalso;omega)
     | (refine Or.inl ?_;(conv=>whnf)
        rfl)
  . rw[chkE_t c1 c2 hb c4]
    (try (conv=>whnf));repeat' (first|(refine⟨fun h=>absurd trivial h,fun _=>?_⟩;conv=>whnf)|refine Ok.seq ?_|((first|refine Ok.region tok ?_|refine Ok.cond ?_);conv=>whnf)|refine Ok.block ?_|(refine Ok.skip ?_;conv=>whnf)|(refine Or.inl ?_;(conv=>whnf);(repeat (refine aI ?_;conv=>whnf));refine⟨_,hch,rfl,?_⟩;conv=>whnf)|(refine Or.inr (Or.inl ?_);(conv=>whnf);(repeat (refine aI ?_;conv=>whnf));refine⟨_,htl , ?_⟩;rintro _ _ ⟨⟨s,rfl⟩,rfl⟩<;>(conv=>whnf))|(refine bI ?_ ?_<;>intro<;>(conv=>whnf)<;>(try (exfalso;omega)))|fail)
    all_goals first
     | (exfalso;omega)
     | skip
    refine Ok.loopU [0,1] [9] 0 0 (fun (i:Nat)=>[.i .i64 (i:Nat)]) (fun _ b=>b) (fun _ r=>r) (fun (i:Nat)=>i<=e.length/\tstE l e=tstE l (e.drop i)) (fun (i:Nat)=>e.length - i) (0) (⟨Nat.zero_le _,rfl⟩) ?_;(conv=>whnf);refine⟨by ((conv=>whnf);first|rfl|(simp[envCat,List.take_of_length_le,nrow,frow,bcell,srow,tcells,crow,qrow,prow];done)|(simp[envCat,List.take_of_length_le,nrow,frow,bcell,srow,tcells,crow,qrow,prow];rw[IntKind.wrap_i64];omega)),?_⟩
    rintro i ⟨hi,ht⟩
    (conv=>whnf)
    by_cases hil:i<e.length
    . obtain⟨c,hc⟩:∃ c,e[i]? = some c:=⟨_,List.getElem?_eq_getElem hil⟩
      have hcI:e[((i:Nat):Int).toNat]? = some c:=hc
      have htc:=htx c (List.mem_of_getElem? hc)
      rw[fdrop_at hc] at ht
      by_cases hk:c.kind=3
      . by_cases hE:errC l c.t=0
        . have hcu:=rcubes_ok l r (by have:=(chk_lay (l:=l) (by assumption)).2;omega) c.t.f c.t.op c.t.form c.t.lo c.t.hi c.t.len c.t.pat htc.2 hE
          generalize cubL l ⟨c.t.f,c.t.op,c.t.form,c.t.lo,c.t.hi,c.t.len,c.t.pat⟩=Q at *
          rw[tstE_ok (fun h=>h.2 hE)] at ht
          (try (conv=>whnf));repeat' (first|refine Ok.seq ?_|((first|refine Ok.region tok ?_|refine Ok.cond ?_);conv=>whnf)|refine Ok.block ?_|((first|refine Ok.skip ?_|refine nI ?_|refine ix _ (by assumption) ?_);conv=>whnf)|(refine Or.inr (Or.inl ?_);(conv=>whnf);(repeat (refine aI ?_;conv=>whnf));refine⟨_,hcu,?_⟩;rintro _ _ ⟨rfl,rfl⟩;conv=>whnf)|(refine bI ?_ ?_<;>intro<;>(conv=>whnf)<;>(try (exfalso;omega)))|fail)
          all_goals first
           | (exfalso;omega)
           | (refine⟨i+1,by omega,⟨by omega,ht⟩,?_⟩
              (conv=>whnf)
              rfl)
        . have hcu:=rcubes_err l r (by have:=(chk_lay (l:=l) (by assumption)).2;omega) c.t.f c.t.op c.t.form c.t.lo c.t.hi c.t.len c.t.pat htc.2 hE
          rw[tstE_bad hk hE] at ht
          rw[ht]
          have hE2:errC l ⟨c.t.f,c.t.op,c.t.form,c.t.lo,c.t.hi,c.t.len,c.t.pat⟩=errC l c.t:=rfl
          rw[hE2] at hcu
          generalize errC l c.t=k at *
          (try (conv=>whnf));repeat' (first|refine Ok.seq ?_|((first|refine Ok.region tok ?_|refine Ok.cond ?_);conv=>whnf)|refine Ok.block ?_|((first|refine Ok.skip ?_|refine Ok.ret ?_|refine ix _ (by assumption) ?_);conv=>whnf)|(refine Or.inr (Or.inl ?_);(conv=>whnf);(repeat (refine aI ?_;conv=>whnf));refine⟨_,hcu,?_⟩;rintro _ _ ⟨rfl,rfl⟩;conv=>whnf)|(refine bI ?_ ?_<;>intro<;>(conv=>whnf)<;>(try (exfalso;omega)))|fail)
          all_goals first
           | (exfalso;omega)
           | (refine Or.inl ?_;(conv=>whnf)
              rfl)
      . rw[tstE_ok (fun h=>hk h.1)] at ht
        (try (conv=>whnf));repeat' (first|refine Ok.seq ?_|((first|refine Ok.region tok ?_|refine Ok.cond ?_);conv=>whnf)|refine Ok.block ?_|((first|refine Ok.skip ?_|refine nI ?_|refine ix _ (by assumption) ?_);conv=>whnf)|(refine bI ?_ ?_<;>intro<;>(conv=>whnf)<;>(try (exfalso;omega)))|fail)
        all_goals first
         | (exfalso;omega)
         | (refine⟨i+1,by omega,⟨by omega,ht⟩,?_⟩
            (conv=>whnf)
            rfl)
    . have hie:i=e.length:=by omega
      subst hie
      rw[List.drop_length] at ht
      rw[ht]
      (try (conv=>whnf));repeat' (first|refine Ok.seq ?_|((first|refine Ok.region tok ?_|refine Ok.cond ?_|refine Ok.exit ?_|refine Ok.ret ?_);conv=>whnf)|(refine bI ?_ ?_<;>intro<;>(conv=>whnf)<;>(try (exfalso;omega)))|fail)
      all_goals first
       | (exfalso;omega)
       | (refine Or.inl ?_;(conv=>whnf)
          rfl)
end Go.Proofs.YtcglkonooeddfaaGreatDoor
namespace Go.Proofs.YtcglkonooeddfaaGreatDoor
open Go Go.Vx
structure SI where
 s:Str
 n:Int
def SI.row(x:SI):List D:=[.s x.s,.i .i64 x.n]
structure Node where
 kind:Int
 field:Str
 op:Int
 form:Int
 lo:Int
 hi:Int
 len:Int
 pat:Str
def Node.row(x:Node):List D:=[.i .i64 x.kind,.s x.field,.i .i64 x.op,.i .i64 x.form,.i .i64 x.lo,.i .i64 x.hi,.i .i64 x.len,.s x.pat]
structure Pfx where
 value:Int
 len:Int
 dst:Str
def Pfx.row(x:Pfx):List D:=[.i .i64 x.value,.i .i64 x.len,.s x.dst]
structure Link where
 frm:Str
 dst:Str
 cost:Int
def Link.row(x:Link):List D:=[.s x.frm,.s x.dst,.i .i64 x.cost]
theorem take_step{α:Type}{a b:List α}{k:Nat}{x y:α}(hx:a[k]? = some x)(hy:b[k]? = some y)(h:a.take k=b.take k)(he:x=y):a.take (k+1)=b.take (k+1):=by
 rw[List.take_add_one,List.take_add_one,hx,hy,h,he]
theorem eqSI43:EqT Tryz.prog 127 [.s,.i .i64]:=EqT.of_b tok (ti:=_) rfl rfl (by kernel_rfl)
theorem eqSI74:EqT Tryz.prog 243 [.s,.i .i64]:=EqT.of_b tok (ti:=_) rfl rfl (by kernel_rfl)
theorem eqNodC:EqT Tryz.prog 219 [.i .i64,.s,.i .i64,.i .i64,.i .i64,.i .i64,.i .i64,.s]:=EqT.of_b tok (ti:=_) rfl rfl (by kernel_rfl)
theorem eqPfx:EqT Tryz.prog 246 [.i .i64,.i .i64,.s]:=EqT.of_b tok (ti:=_) rfl rfl (by kernel_rfl)
theorem eqLink:EqT Tryz.prog 91 [.s,.s,.i .i64]:=EqT.of_b tok (ti:=_) rfl rfl (by kernel_rfl)
theorem SI.eqRow(r s:SI):eqDs r.row s.row ↔ r=s:=by
 obtain⟨a0,a1⟩:=r
 obtain⟨b0,b1⟩:=s
 simp[SI.row,eqDs,eqD]
theorem Node.eqRow(r s:Node):eqDs r.row s.row ↔ r=s:=by
 obtain⟨a0,a1,a2,a3,a4,a5,a6,a7⟩:=r
 obtain⟨b0,b1,b2,b3,b4,b5,b6,b7⟩:=s
 simp[Node.row,eqDs,eqD]
theorem Pfx.eqRow(r s:Pfx):eqDs r.row s.row ↔ r=s:=by
 obtain⟨a0,a1,a2⟩:=r
 obtain⟨b0,b1,b2⟩:=s
 simp[Pfx.row,eqDs,eqD]
theorem Link.eqRow(r s:Link):eqDs r.row s.row ↔ r=s:=by
 obtain⟨a0,a1,a2⟩:=r
 obtain⟨b0,b1,b2⟩:=s
 simp[Link.row,eqDs,eqD]
set_option maxRecDepth 100000 in
theorem eqNames_at(a b:List Str){ra sa rb sb:List (List D)}(ha:ra=a.map srow)(hb:rb=b.map srow):FSpec Tryz.prog T 205 [.lst 9 ra sa,.lst 9 rb sb] (fun d _=>d = .b (a=b)):=by
 subst ha hb
 refine FSpec.of_len Tryz.call205 0 rfl fun hlen=>?_
 have hal:(a.map srow).length=a.length:=by simp
 have hbl:(b.map srow).length=b.length:=by simp
 refine FSpec.of_ok tok Tryz.func205 rfl Tryz.call205 (by simp) ?_
 (try (conv=>whnf));repeat' (first|refine Ok.seq ?_|((first|refine Ok.region tok ?_|refine Ok.cond ?_);conv=>whnf)|refine Ok.block ?_|((first|refine Ok.skip ?_|refine Ok.ret ?_);conv=>whnf)|(refine bI ?_ ?_<;>intro<;>(conv=>whnf)<;>(try (exfalso;omega)))|fail)
 . rename_i h1
   refine Or.inl ?_;(conv=>whnf)
   exact b_eq ⟨fun h=>h.elim,fun h=>h1 (by rw[h])⟩
 refine Ok.loopU [0,1] [5] 0 0 (fun (k:Nat)=>[.i .i64 (k:Nat)]) (fun _ b=>b) (fun _ r=>r) (fun (k:Nat)=>k<=a.length/\a.take k=b.take k) (fun (k:Nat)=>a.length - k) (0) (⟨Nat.zero_le _,rfl⟩) ?_;(conv=>whnf);refine⟨by ((conv=>whnf);first|rfl|(simp[envCat,List.take_of_length_le,SI.row,Node.row,Pfx.row,Link.row,srow];done)|(simp[envCat,List.take_of_length_le,SI.row,Node.row,Pfx.row,Link.row,srow];rw[IntKind.wrap_i64];omega)),?_⟩
 rintro k ⟨hk,ht⟩
 by_cases hka:k<a.length
 . obtain⟨x,hx⟩:∃ x,a[k]? = some x:=⟨_,List.getElem?_eq_getElem hka⟩
   obtain⟨y,hy⟩:∃ x,b[k]? = some x:=⟨_,List.getElem?_eq_getElem (by omega)⟩
   (try (conv=>whnf));repeat' (first|refine Ok.seq ?_|((first|refine Ok.region tok ?_|refine Ok.region_draw tok follows (by kernel_rfl) ?_|refine Ok.cond ?_);conv=>whnf)|refine Ok.block ?_|((first|refine Ok.skip ?_|refine Ok.ret ?_|refine nI ?_|refine ix _ (by assumption) ?_);conv=>whnf)|(refine bI ?_ ?_<;>intro<;>(conv=>whnf)<;>(try (exfalso;omega)))|fail)
   . rename_i hne
     refine Or.inl ?_;(conv=>whnf)
     refine b_eq ⟨fun h=>h.elim,fun h=>?_⟩
     subst h
     rw[hx] at hy
     cases hy
     exact hne rfl
   . rename_i heq
     refine⟨k+1,by omega,⟨by omega,take_step hx hy ht (Classical.not_not.1 heq)⟩,?_⟩
     (conv=>whnf);(first|rfl|simp[envCat,List.take_of_length_le,SI.row,Node.row,Pfx.row,Link.row,srow])
 . obtain rfl:k=a.length:=by omega
   have hab:a=b:=by rw[List.take_length,show a.length=b.length by omega,List.take_length] at ht;exact ht
   (try (conv=>whnf));repeat' (first|refine Ok.seq ?_|((first|refine Ok.region tok ?_|refine Ok.cond ?_|refine Ok.exit ?_|refine Ok.ret ?_);conv=>whnf)|(refine bI ?_ ?_<;>intro<;>(conv=>whnf)<;>(try (exfalso;omega)))|fail)
   refine Or.inl ?_;(conv=>whnf)
   exact b_eq ⟨fun _=>hab,fun _=>trivial⟩
set_option maxRecDepth 100000 in
theorem refNodes_at(a b:List Node){ra sa rb sb:List (List D)}(ha:ra=a.map Node.row)(hb:rb=b.map Node.row):FSpec Tryz.prog T 264 [.lst 219 ra sa,.lst 219 rb sb] (fun d _=>d = .b (a=b)):=by
 subst ha hb
 refine FSpec.of_len Tryz.call264 0 rfl fun hlen=>?_
 have hal:(a.map Node.row).length=a.length:=by simp
 have hbl:(b.map Node.row).length=b.length:=by simp
 refine FSpec.of_ok tok Tryz.func264 rfl Tryz.call264 (by simp) ?_
 (try (conv=>whnf));repeat' (first|refine Ok.seq ?_|((first|refine Ok.region tok ?_|refine Ok.cond ?_);conv=>whnf)|refine Ok.block ?_|((first|refine Ok.skip ?_|refine Ok.ret ?_);conv=>whnf)|(refine bI ?_ ?_<;>intro<;>(conv=>whnf)<;>(try (exfalso;omega)))|fail)
 . rename_i h1
   refine Or.inl ?_;(conv=>whnf)
   exact b_eq ⟨fun h=>h.elim,fun h=>h1 (by rw[h])⟩
 refine Ok.loopU [0,1] [5] 0 0 (fun (k:Nat)=>[.i .i64 (k:Nat)]) (fun _ b=>b) (fun _ r=>r) (fun (k:Nat)=>k<=a.length/\a.take k=b.take k) (fun (k:Nat)=>a.length - k) (0) (⟨Nat.zero_le _,rfl⟩) ?_;(conv=>whnf);refine⟨by ((conv=>whnf);first|rfl|(simp[envCat,List.take_of_length_le,SI.row,Node.row,Pfx.row,Link.row,srow];done)|(simp[envCat,List.take_of_length_le,SI.row,Node.row,Pfx.row,Link.row,srow];rw[IntKind.wrap_i64];omega)),?_⟩
 rintro k ⟨hk,ht⟩
 by_cases hka:k<a.length
 . obtain⟨x,hx⟩:∃ x,a[k]? = some x:=⟨_,List.getElem?_eq_getElem hka⟩
   obtain⟨y,hy⟩:∃ x,b[k]? = some x:=⟨_,List.getElem?_eq_getElem (by omega)⟩
   (try (conv=>whnf));repeat' (first|refine Ok.seq ?_|((first|refine Ok.region tok ?_|refine Ok.region_draw tok follows (by kernel_rfl) ?_|refine Ok.cond ?_);conv=>whnf)|refine Ok.block ?_|((first|refine Ok.skip ?_|refine ix _ (by assumption) ?_);conv=>whnf)|(refine bI ?_ ?_<;>intro<;>(conv=>whnf)<;>(try (exfalso;omega)))|fail)
   refine⟨_,eqNodC,by kernel_rfl,?_⟩
   (conv=>whnf)
   (try (conv=>whnf));repeat' (first|refine Ok.seq ?_|((first|refine Ok.region tok ?_|refine Ok.cond ?_|refine Ok.skip ?_|refine Ok.ret ?_|refine nI ?_);conv=>whnf)|(refine bI ?_ ?_<;>intro<;>(conv=>whnf)<;>(try (exfalso;omega)))|fail)
   . rename_i hne
     refine Or.inl ?_;(conv=>whnf)
     refine b_eq ⟨fun h=>h.elim,fun h=>?_⟩
     subst h
     rw[hx] at hy
     cases hy
     exact hne ((Node.eqRow _ _).2 rfl)
   . rename_i heq
     refine⟨k+1,by omega,⟨by omega,take_step hx hy ht ((Node.eqRow x y).1 (Classical.not_not.1 heq))⟩,?_⟩
     (conv=>whnf);(first|rfl|simp[envCat,List.take_of_length_le,SI.row,Node.row,Pfx.row,Link.row,srow])
 . obtain rfl:k=a.length:=by omega
   have hab:a=b:=by rw[List.take_length,show a.length=b.length by omega,List.take_length] at ht;exact ht
   (try (conv=>whnf));repeat' (first|refine Ok.seq ?_|((first|refine Ok.region tok ?_|refine Ok.cond ?_|refine Ok.exit ?_|refine Ok.ret ?_);conv=>whnf)|(refine bI ?_ ?_<;>intro<;>(conv=>whnf)<;>(try (exfalso;omega)))|fail)
   refine Or.inl ?_;(conv=>whnf)
   exact b_eq ⟨fun _=>hab,fun _=>trivial⟩
set_option maxRecDepth 100000 in
theorem refSets_at(a b:List SI){ra sa rb sb:List (List D)}(ha:ra=a.map SI.row)(hb:rb=b.map SI.row):FSpec Tryz.prog T 297 [.lst 243 ra sa,.lst 243 rb sb] (fun d _=>d = .b (a=b)):=by
 subst ha hb
 refine FSpec.of_len Tryz.call297 0 rfl fun hlen=>?_
 have hal:(a.map SI.row).length=a.length:=by simp
 have hbl:(b.map SI.row).length=b.length:=by simp
 refine FSpec.of_ok tok Tryz.func297 rfl Tryz.call297 (by simp) ?_
 (try (conv=>whnf));repeat' (first|refine Ok.seq ?_|((first|refine Ok.region tok ?_|refine Ok.cond ?_);conv=>whnf)|refine Ok.block ?_|((first|refine Ok.skip ?_|refine Ok.ret ?_);conv=>whnf)|(refine bI ?_ ?_<;>intro<;>(conv=>whnf)<;>(try (exfalso;omega)))|fail)
 . rename_i h1
   refine Or.inl ?_;(conv=>whnf)
   exact b_eq ⟨fun h=>h.elim,fun h=>h1 (by rw[h])⟩
 refine Ok.loopU [0,1] [5] 0 0 (fun (k:Nat)=>[.i .i64 (k:Nat)]) (fun _ b=>b) (fun _ r=>r) (fun (k:Nat)=>k<=a.length/\a.take k=b.take k) (fun (k:Nat)=>a.length - k) (0) (⟨Nat.zero_le _,rfl⟩) ?_;(conv=>whnf);refine⟨by ((conv=>whnf);first|rfl|(simp[envCat,List.take_of_length_le,SI.row,Node.row,Pfx.row,Link.row,srow];done)|(simp[envCat,List.take_of_length_le,SI.row,Node.row,Pfx.row,Link.row,srow];rw[IntKind.wrap_i64];omega)),?_⟩
 rintro k ⟨hk,ht⟩
 by_cases hka:k<a.length
 . obtain⟨x,hx⟩:∃ x,a[k]? = some x:=⟨_,List.getElem?_eq_getElem hka⟩
   obtain⟨y,hy⟩:∃ x,b[k]? = some x:=⟨_,List.getElem?_eq_getElem (by omega)⟩
   (try (conv=>whnf));repeat' (first|refine Ok.seq ?_|((first|refine Ok.region tok ?_|refine Ok.region_draw tok follows (by kernel_rfl) ?_|refine Ok.cond ?_);conv=>whnf)|refine Ok.block ?_|((first|refine Ok.skip ?_|refine ix _ (by assumption) ?_);conv=>whnf)|(refine bI ?_ ?_<;>intro<;>(conv=>whnf)<;>(try (exfalso;omega)))|fail)
   refine⟨_,eqSI74,by kernel_rfl,?_⟩
   (conv=>whnf)
   (try (conv=>whnf));repeat' (first|refine Ok.seq ?_|((first|refine Ok.region tok ?_|refine Ok.cond ?_|refine Ok.skip ?_|refine Ok.ret ?_|refine nI ?_);conv=>whnf)|(refine bI ?_ ?_<;>intro<;>(conv=>whnf)<;>(try (exfalso;omega)))|fail)
   . rename_i hne
     refine Or.inl ?_;(conv=>whnf)
     refine b_eq ⟨fun h=>h.elim,fun h=>?_⟩
     subst h
     rw[hx] at hy
     cases hy
     exact hne ((SI.eqRow _ _).2 rfl)
   . rename_i heq
     refine⟨k+1,by omega,⟨by omega,take_step hx hy ht ((SI.eqRow x y).1 (Classical.not_not.1 heq))⟩,?_⟩
     (conv=>whnf);(first|rfl|simp[envCat,List.take_of_length_le,SI.row,Node.row,Pfx.row,Link.row,srow])
 . obtain rfl:k=a.length:=by omega
   have hab:a=b:=by rw[List.take_length,show a.length=b.length by omega,List.take_length] at ht;exact ht
   (try (conv=>whnf));repeat' (first|refine Ok.seq ?_|((first|refine Ok.region tok ?_|refine Ok.cond ?_|refine Ok.exit ?_|refine Ok.ret ?_);conv=>whnf)|(refine bI ?_ ?_<;>intro<;>(conv=>whnf)<;>(try (exfalso;omega)))|fail)
   refine Or.inl ?_;(conv=>whnf)
   exact b_eq ⟨fun _=>hab,fun _=>trivial⟩
end Go.Proofs.YtcglkonooeddfaaGreatDoor
namespace Go.Proofs.YtcglkonooeddfaaGreatDoor
open Go Go.Vx
def mark1:Str:=[98,101,104,105,110,100,32,116,104,101,32,101,110,100]
def mark2:Str:=[98,101,104,105,110,100,32,116,104,101,32,101,110,100,50]
theorem room_at{α:Type}{l:List α}{z:α}{k m:Nat}(hk:k<=l.length):(l.take k++List.replicate (m+1) z)[k]? = some z:=by
 rw[List.getElem?_append_right (by rw[List.length_take];omega),List.length_take,Nat.min_eq_left hk,Nat.sub_self]
 simp
theorem room_set{α:Type}{l:List α}{z x:α}{k m:Nat}(hk:l[k]? = some x):(l.take k++List.replicate (m+1) z).set k x=l.take (k+1)++List.replicate m z:=by
 have hkl:=(List.getElem?_eq_some_iff.1 hk).1
 rw[List.set_append_right _ _ (by rw[List.length_take];omega),List.length_take,Nat.min_eq_left (by omega),Nat.sub_self,List.replicate_succ,List.set_cons_zero,List.take_add_one,hk,List.append_assoc]
 rfl
theorem room_end{α:Type}{l:List α}{z x y:α}:((l++List.replicate 2 z).set l.length x).set (l.length+1) y=l++[x,y]:=by
 rw[List.set_append_right _ _ (by omega),Nat.sub_self,List.set_append_right _ _ (by omega),Nat.add_sub_cancel_left]
 rfl
set_option maxRecDepth 100000 in
theorem roomNodes_at(l:List Node){rl sl:List (List D)}(hl:l.length<=1048576)(h:rl=l.map Node.row):FSpec Tryz.prog T 96 [.lst 219 rl sl] (fun d rows=>rows=[some (219,(l++[(⟨4711,[],0,0,0,0,0,[]⟩:Node),⟨4712,[],0,0,0,0,0,[]⟩]).map Node.row)]/\d = .own 0 l.length):=by
 subst h
 have hll:(l.map Node.row).length=l.length:=by simp
 refine FSpec.of_ok tok Tryz.func96 rfl Tryz.call96 (by simp) ?_
 (try (conv=>whnf));repeat' (first|refine Ok.seq ?_|(refine Ok.region tok ?_;conv=>whnf)|refine Ok.block ?_|((first|refine nI ?_|refine⟨_,_,rfl,rfl,?_⟩|refine aJ ?_|refine⟨_,rfl,?_⟩);conv=>whnf)|fail)
 refine Ok.loopU [0,3] [4] 1 0 (fun (k:Nat)=>[.i .i64 (k:Nat)]) (fun _ b=>b) (fun (k:Nat) (_:Vx.Rows)=>[some (219,(l.take k++List.replicate (l.length+2 - k) (⟨0,[],0,0,0,0,0,[]⟩:Node)).map Node.row)]) (fun (k:Nat)=>k<=l.length) (fun (k:Nat)=>l.length - k) (0) (Nat.zero_le _) ?_;(conv=>whnf);refine⟨by ((conv=>whnf);first|rfl|(simp[envCat,List.take_of_length_le,SI.row,Node.row,Pfx.row,Link.row,srow];done)|(simp[envCat,List.take_of_length_le,SI.row,Node.row,Pfx.row,Link.row,srow];rw[IntKind.wrap_i64];omega)),?_⟩
 rintro k hk
 have htl:((l.take k++List.replicate (l.length+2 - k) (⟨0,[],0,0,0,0,0,[]⟩:Node)).map Node.row).length=l.length+2:=by simp;omega
 by_cases hkl:k<l.length
 . obtain⟨x,hx⟩:∃ x,l[k]? = some x:=⟨_,List.getElem?_eq_getElem hkl⟩
   obtain⟨m,hm⟩:∃ m,l.length+2 - k=m+1:=⟨l.length+1 - k,by omega⟩
   rw[hm] at htl ⊢
   have hz:(l.take k++List.replicate (m+1) (⟨0,[],0,0,0,0,0,[]⟩:Node))[k]? = some ⟨0,[],0,0,0,0,0,[]⟩:=room_at (by omega)
   have hs:=room_set (z:=(⟨0,[],0,0,0,0,0,[]⟩:Node)) (m:=m) hx
   (conv=>whnf)
   (try (conv=>whnf));repeat' (first|refine Ok.seq ?_|((first|refine Ok.region tok ?_|refine Ok.cond ?_);conv=>whnf)|refine Ok.block ?_|((first|refine Ok.skip ?_|refine ix _ (by assumption) ?_);conv=>whnf)|(refine bI ?_ ?_<;>intro<;>(conv=>whnf)<;>(try (exfalso;omega)))|(refine aJ ?_;conv=>whnf)|fail)
   refine st x hz (by simp[Node.row]) (by simp[setCells,Node.row]) ?_
   (try (conv=>whnf));repeat' (first|((first|refine Ok.region tok ?_|refine nI ?_);conv=>whnf)|fail)
   refine⟨k+1,by omega,by omega,?_⟩
   rw[show l.length+2 - (k+1)=m by omega,<- hs]
   (conv=>whnf);(first|rfl|simp[envCat,List.take_of_length_le,SI.row,Node.row,Pfx.row,Link.row,srow])
 . obtain rfl:k=l.length:=by omega
   rw[List.take_length,show l.length+2 - l.length=2 by omega] at htl ⊢
   have h1:(l++List.replicate 2 (⟨0,[],0,0,0,0,0,[]⟩:Node))[l.length]? = some ⟨0,[],0,0,0,0,0,[]⟩:=by simp
   have h2:((l++List.replicate 2 (⟨0,[],0,0,0,0,0,[]⟩:Node)).set l.length ⟨4711,[],0,0,0,0,0,[]⟩)[l.length+1]? = some ⟨0,[],0,0,0,0,0,[]⟩:=by
    rw[List.getElem?_set_ne (by omega)];simp
   have htl2:(((l++List.replicate 2 (⟨0,[],0,0,0,0,0,[]⟩:Node)).set l.length ⟨4711,[],0,0,0,0,0,[]⟩).map Node.row).length=l.length+2:=by simp
   have e1:((((l.map Node.row).length:Nat):Int)).toNat=l.length:=by omega
   have e2:((((l.map Node.row).length:Nat):Int)+1).toNat=l.length+1:=by omega
   (conv=>whnf)
   (try (conv=>whnf));repeat' (first|refine Ok.seq ?_|((first|refine Ok.region tok ?_|refine Ok.cond ?_|refine Ok.exit ?_);conv=>whnf)|(refine bI ?_ ?_<;>intro<;>(conv=>whnf)<;>(try (exfalso;omega)))|(refine aJ ?_;conv=>whnf)|fail)
   rw[e1]
   refine st ⟨4711,[],0,0,0,0,0,[]⟩ h1 (by simp[Node.row]) (by simp[setCells,Node.row,mark1]) ?_
   (try (conv=>whnf));repeat' (first|refine Ok.seq ?_|((first|refine Ok.region tok ?_|refine nI ?_|refine aJ ?_);conv=>whnf)|fail)
   rw[e2]
   refine st ⟨4712,[],0,0,0,0,0,[]⟩ h2 (by simp[Node.row]) (by simp[setCells,Node.row,mark2]) ?_
   rw[room_end]
   (try (conv=>whnf));repeat' (first|refine Ok.seq ?_|(refine Ok.region tok ?_;conv=>whnf)|fail)
   refine⟨l.length,rfl,by show ((l.map Node.row).length:Int)=_;simp,by simp,?_⟩
   (conv=>whnf)
   (try (conv=>whnf));repeat' (first|(refine Ok.ret ?_;conv=>whnf)|fail)
   refine Or.inr (Or.inl ?_);(conv=>whnf)
   exact⟨rfl,rfl⟩
set_option maxRecDepth 100000 in
theorem roomPrefixes_at(l:List Pfx){rl sl:List (List D)}(hl:l.length<=1048576)(h:rl=l.map Pfx.row):FSpec Tryz.prog T 95 [.lst 246 rl sl] (fun d rows=>rows=[some (246,(l++[(⟨4711,0,[]⟩:Pfx),⟨4712,0,[]⟩]).map Pfx.row)]/\d = .own 0 l.length):=by
 subst h
 have hll:(l.map Pfx.row).length=l.length:=by simp
 refine FSpec.of_ok tok Tryz.func95 rfl Tryz.call95 (by simp) ?_
 (try (conv=>whnf));repeat' (first|refine Ok.seq ?_|(refine Ok.region tok ?_;conv=>whnf)|refine Ok.block ?_|((first|refine nI ?_|refine⟨_,_,rfl,rfl,?_⟩|refine aJ ?_|refine⟨_,rfl,?_⟩);conv=>whnf)|fail)
 refine Ok.loopU [0,3] [4] 1 0 (fun (k:Nat)=>[.i .i64 (k:Nat)]) (fun _ b=>b) (fun (k:Nat) (_:Vx.Rows)=>[some (246,(l.take k++List.replicate (l.length+2 - k) (⟨0,0,[]⟩:Pfx)).map Pfx.row)]) (fun (k:Nat)=>k<=l.length) (fun (k:Nat)=>l.length - k) (0) (Nat.zero_le _) ?_;(conv=>whnf);refine⟨by ((conv=>whnf);first|rfl|(simp[envCat,List.take_of_length_le,SI.row,Node.row,Pfx.row,Link.row,srow];done)|(simp[envCat,List.take_of_length_le,SI.row,Node.row,Pfx.row,Link.row,srow];rw[IntKind.wrap_i64];omega)),?_⟩
 rintro k hk
 have htl:((l.take k++List.replicate (l.length+2 - k) (⟨0,0,[]⟩:Pfx)).map Pfx.row).length=l.length+2:=by simp;omega
 by_cases hkl:k<l.length
 . obtain⟨x,hx⟩:∃ x,l[k]? = some x:=⟨_,List.getElem?_eq_getElem hkl⟩
   obtain⟨m,hm⟩:∃ m,l.length+2 - k=m+1:=⟨l.length+1 - k,by omega⟩
   rw[hm] at htl ⊢
   have hz:(l.take k++List.replicate (m+1) (⟨0,0,[]⟩:Pfx))[k]? = some ⟨0,0,[]⟩:=room_at (by omega)
   have hs:=room_set (z:=(⟨0,0,[]⟩:Pfx)) (m:=m) hx
   (conv=>whnf)
   (try (conv=>whnf));repeat' (first|refine Ok.seq ?_|((first|refine Ok.region tok ?_|refine Ok.cond ?_);conv=>whnf)|refine Ok.block ?_|((first|refine Ok.skip ?_|refine ix _ (by assumption) ?_);conv=>whnf)|(refine bI ?_ ?_<;>intro<;>(conv=>whnf)<;>(try (exfalso;omega)))|(refine aJ ?_;conv=>whnf)|fail)
   refine st x hz (by simp[Pfx.row]) (by simp[setCells,Pfx.row]) ?_
   (try (conv=>whnf));repeat' (first|((first|refine Ok.region tok ?_|refine nI ?_);conv=>whnf)|fail)
   refine⟨k+1,by omega,by omega,?_⟩
   rw[show l.length+2 - (k+1)=m by omega,<- hs]
   (conv=>whnf);(first|rfl|simp[envCat,List.take_of_length_le,SI.row,Node.row,Pfx.row,Link.row,srow])
 . obtain rfl:k=l.length:=by omega
   rw[List.take_length,show l.length+2 - l.length=2 by omega] at htl ⊢
   have h1:(l++List.replicate 2 (⟨0,0,[]⟩:Pfx))[l.length]? = some ⟨0,0,[]⟩:=by simp
   have h2:((l++List.replicate 2 (⟨0,0,[]⟩:Pfx)).set l.length ⟨4711,0,[]⟩)[l.length+1]? = some ⟨0,0,[]⟩:=by
    rw[List.getElem?_set_ne (by omega)];simp
   have htl2:(((l++List.replicate 2 (⟨0,0,[]⟩:Pfx)).set l.length ⟨4711,0,[]⟩).map Pfx.row).length=l.length+2:=by simp
   have e1:((((l.map Pfx.row).length:Nat):Int)).toNat=l.length:=by omega
   have e2:((((l.map Pfx.row).length:Nat):Int)+1).toNat=l.length+1:=by omega
   (conv=>whnf)
   (try (conv=>whnf));repeat' (first|refine Ok.seq ?_|((first|refine Ok.region tok ?_|refine Ok.cond ?_|refine Ok.exit ?_);conv=>whnf)|(refine bI ?_ ?_<;>intro<;>(conv=>whnf)<;>(try (exfalso;omega)))|(refine aJ ?_;conv=>whnf)|fail)
   rw[e1]
   refine st ⟨4711,0,[]⟩ h1 (by simp[Pfx.row]) (by simp[setCells,Pfx.row,mark1]) ?_
   (try (conv=>whnf));repeat' (first|refine Ok.seq ?_|((first|refine Ok.region tok ?_|refine nI ?_|refine aJ ?_);conv=>whnf)|fail)
   rw[e2]
   refine st ⟨4712,0,[]⟩ h2 (by simp[Pfx.row]) (by simp[setCells,Pfx.row,mark2]) ?_
   rw[room_end]
   (try (conv=>whnf));repeat' (first|refine Ok.seq ?_|(refine Ok.region tok ?_;conv=>whnf)|fail)
   refine⟨l.length,rfl,by show ((l.map Pfx.row).length:Int)=_;simp,by simp,?_⟩
   (conv=>whnf)
   (try (conv=>whnf));repeat' (first|(refine Ok.ret ?_;conv=>whnf)|fail)
   refine Or.inr (Or.inl ?_);(conv=>whnf)
   exact⟨rfl,rfl⟩
set_option maxRecDepth 100000 in
theorem roomSets_at(l:List SI){rl sl:List (List D)}(hl:l.length<=1048576)(h:rl=l.map SI.row):FSpec Tryz.prog T 155 [.lst 243 rl sl] (fun d rows=>rows=[some (243,(l++[(⟨[],4711⟩:SI),⟨[],4712⟩]).map SI.row)]/\d = .own 0 l.length):=by
 subst h
 have hll:(l.map SI.row).length=l.length:=by simp
 refine FSpec.of_ok tok Tryz.func155 rfl Tryz.call155 (by simp) ?_
 (try (conv=>whnf));repeat' (first|refine Ok.seq ?_|(refine Ok.region tok ?_;conv=>whnf)|refine Ok.block ?_|((first|refine nI ?_|refine⟨_,_,rfl,rfl,?_⟩|refine aJ ?_|refine⟨_,rfl,?_⟩);conv=>whnf)|fail)
 refine Ok.loopU [0,3] [4] 1 0 (fun (k:Nat)=>[.i .i64 (k:Nat)]) (fun _ b=>b) (fun (k:Nat) (_:Vx.Rows)=>[some (243,(l.take k++List.replicate (l.length+2 - k) (⟨[],0⟩:SI)).map SI.row)]) (fun (k:Nat)=>k<=l.length) (fun (k:Nat)=>l.length - k) (0) (Nat.zero_le _) ?_;(conv=>whnf);refine⟨by ((conv=>whnf);first|rfl|(simp[envCat,List.take_of_length_le,SI.row,Node.row,Pfx.row,Link.row,srow];done)|(simp[envCat,List.take_of_length_le,SI.row,Node.row,Pfx.row,Link.row,srow];rw[IntKind.wrap_i64];omega)),?_⟩
 rintro k hk
 have htl:((l.take k++List.replicate (l.length+2 - k) (⟨[],0⟩:SI)).map SI.row).length=l.length+2:=by simp;omega
 by_cases hkl:k<l.length
 . obtain⟨x,hx⟩:∃ x,l[k]? = some x:=⟨_,List.getElem?_eq_getElem hkl⟩
   obtain⟨m,hm⟩:∃ m,l.length+2 - k=m+1:=⟨l.length+1 - k,by omega⟩
   rw[hm] at htl ⊢
   have hz:(l.take k++List.replicate (m+1) (⟨[],0⟩:SI))[k]? = some ⟨[],0⟩:=room_at (by omega)
   have hs:=room_set (z:=(⟨[],0⟩:SI)) (m:=m) hx
   (conv=>whnf)
   (try (conv=>whnf));repeat' (first|refine Ok.seq ?_|((first|refine Ok.region tok ?_|refine Ok.cond ?_);conv=>whnf)|refine Ok.block ?_|((first|refine Ok.skip ?_|refine ix _ (by assumption) ?_);conv=>whnf)|(refine bI ?_ ?_<;>intro<;>(conv=>whnf)<;>(try (exfalso;omega)))|(refine aJ ?_;conv=>whnf)|fail)
   refine st x hz (by simp[SI.row]) (by simp[setCells,SI.row]) ?_
   (try (conv=>whnf));repeat' (first|((first|refine Ok.region tok ?_|refine nI ?_);conv=>whnf)|fail)
   refine⟨k+1,by omega,by omega,?_⟩
   rw[show l.length+2 - (k+1)=m by omega,<- hs]
   (conv=>whnf);(first|rfl|simp[envCat,List.take_of_length_le,SI.row,Node.row,Pfx.row,Link.row,srow])
 . obtain rfl:k=l.length:=by omega
   rw[List.take_length,show l.length+2 - l.length=2 by omega] at htl ⊢
   have h1:(l++List.replicate 2 (⟨[],0⟩:SI))[l.length]? = some ⟨[],0⟩:=by simp
   have h2:((l++List.replicate 2 (⟨[],0⟩:SI)).set l.length ⟨[],4711⟩)[l.length+1]? = some ⟨[],0⟩:=by
    rw[List.getElem?_set_ne (by omega)];simp
   have htl2:(((l++List.replicate 2 (⟨[],0⟩:SI)).set l.length ⟨[],4711⟩).map SI.row).length=l.length+2:=by simp
   have e1:((((l.map SI.row).length:Nat):Int)).toNat=l.length:=by omega
   have e2:((((l.map SI.row).length:Nat):Int)+1).toNat=l.length+1:=by omega
   (conv=>whnf)
   (try (conv=>whnf));repeat' (first|refine Ok.seq ?_|((first|refine Ok.region tok ?_|refine Ok.cond ?_|refine Ok.exit ?_);conv=>whnf)|(refine bI ?_ ?_<;>intro<;>(conv=>whnf)<;>(try (exfalso;omega)))|(refine aJ ?_;conv=>whnf)|fail)
   rw[e1]
   refine st ⟨[],4711⟩ h1 (by simp[SI.row]) (by simp[setCells,SI.row,mark1]) ?_
   (try (conv=>whnf));repeat' (first|refine Ok.seq ?_|((first|refine Ok.region tok ?_|refine nI ?_|refine aJ ?_);conv=>whnf)|fail)
   rw[e2]
   refine st ⟨[],4712⟩ h2 (by simp[SI.row]) (by simp[setCells,SI.row,mark2]) ?_
   rw[room_end]
   (try (conv=>whnf));repeat' (first|refine Ok.seq ?_|(refine Ok.region tok ?_;conv=>whnf)|fail)
   refine⟨l.length,rfl,by show ((l.map SI.row).length:Int)=_;simp,by simp,?_⟩
   (conv=>whnf)
   (try (conv=>whnf));repeat' (first|(refine Ok.ret ?_;conv=>whnf)|fail)
   refine Or.inr (Or.inl ?_);(conv=>whnf)
   exact⟨rfl,rfl⟩
set_option maxRecDepth 100000 in
theorem roomFields_at(l:List SI){rl sl:List (List D)}(hl:l.length<=1048576)(h:rl=l.map SI.row):FSpec Tryz.prog T 47 [.lst 127 rl sl] (fun d rows=>rows=[some (127,(l++[(⟨mark1,0⟩:SI),⟨mark2,0⟩]).map SI.row)]/\d = .own 0 l.length):=by
 subst h
 have hll:(l.map SI.row).length=l.length:=by simp
 refine FSpec.of_ok tok Tryz.func47 rfl Tryz.call47 (by simp) ?_
 (try (conv=>whnf));repeat' (first|refine Ok.seq ?_|(refine Ok.region tok ?_;conv=>whnf)|refine Ok.block ?_|((first|refine nI ?_|refine⟨_,_,rfl,rfl,?_⟩|refine aJ ?_|refine⟨_,rfl,?_⟩);conv=>whnf)|fail)
 refine Ok.loopU [0,3] [4] 1 0 (fun (k:Nat)=>[.i .i64 (k:Nat)]) (fun _ b=>b) (fun (k:Nat) (_:Vx.Rows)=>[some (127,(l.take k++List.replicate (l.length+2 - k) (⟨[],0⟩:SI)).map SI.row)]) (fun (k:Nat)=>k<=l.length) (fun (k:Nat)=>l.length - k) (0) (Nat.zero_le _) ?_;(conv=>whnf);refine⟨by ((conv=>whnf);first|rfl|(simp[envCat,List.take_of_length_le,SI.row,Node.row,Pfx.row,Link.row,srow];done)|(simp[envCat,List.take_of_length_le,SI.row,Node.row,Pfx.row,Link.row,srow];rw[IntKind.wrap_i64];omega)),?_⟩
 rintro k hk
 have htl:((l.take k++List.replicate (l.length+2 - k) (⟨[],0⟩:SI)).map SI.row).length=l.length+2:=by simp;omega
 by_cases hkl:k<l.length
 . obtain⟨x,hx⟩:∃ x,l[k]? = some x:=⟨_,List.getElem?_eq_getElem hkl⟩
   obtain⟨m,hm⟩:∃ m,l.length+2 - k=m+1:=⟨l.length+1 - k,by omega⟩
   rw[hm] at htl ⊢
   have hz:(l.take k++List.replicate (m+1) (⟨[],0⟩:SI))[k]? = some ⟨[],0⟩:=room_at (by omega)
   have hs:=room_set (z:=(⟨[],0⟩:SI)) (m:=m) hx
   (conv=>whnf)
   (try (conv=>whnf));repeat' (first|refine Ok.seq ?_|((first|refine Ok.region tok ?_|refine Ok.cond ?_);conv=>whnf)|refine Ok.block ?_|((first|refine Ok.skip ?_|refine ix _ (by assumption) ?_);conv=>whnf)|(refine bI ?_ ?_<;>intro<;>(conv=>whnf)<;>(try (exfalso;omega)))|(refine aJ ?_;conv=>whnf)|fail)
   refine st x hz (by simp[SI.row]) (by simp[setCells,SI.row]) ?_
   (try (conv=>whnf));repeat' (first|((first|refine Ok.region tok ?_|refine nI ?_);conv=>whnf)|fail)
   refine⟨k+1,by omega,by omega,?_⟩
   rw[show l.length+2 - (k+1)=m by omega,<- hs]
   (conv=>whnf);(first|rfl|simp[envCat,List.take_of_length_le,SI.row,Node.row,Pfx.row,Link.row,srow])
 . obtain rfl:k=l.length:=by omega
   rw[List.take_length,show l.length+2 - l.length=2 by omega] at htl ⊢
   have h1:(l++List.replicate 2 (⟨[],0⟩:SI))[l.length]? = some ⟨[],0⟩:=by simp
   have h2:((l++List.replicate 2 (⟨[],0⟩:SI)).set l.length ⟨mark1,0⟩)[l.length+1]? = some ⟨[],0⟩:=by
    rw[List.getElem?_set_ne (by omega)];simp
   have htl2:(((l++List.replicate 2 (⟨[],0⟩:SI)).set l.length ⟨mark1,0⟩).map SI.row).length=l.length+2:=by simp
   have e1:((((l.map SI.row).length:Nat):Int)).toNat=l.length:=by omega
   have e2:((((l.map SI.row).length:Nat):Int)+1).toNat=l.length+1:=by omega
   (conv=>whnf)
   (try (conv=>whnf));repeat' (first|refine Ok.seq ?_|((first|refine Ok.region tok ?_|refine Ok.cond ?_|refine Ok.exit ?_);conv=>whnf)|(refine bI ?_ ?_<;>intro<;>(conv=>whnf)<;>(try (exfalso;omega)))|(refine aJ ?_;conv=>whnf)|fail)
   rw[e1]
   refine st ⟨mark1,0⟩ h1 (by simp[SI.row]) (by simp[setCells,SI.row,mark1]) ?_
   (try (conv=>whnf));repeat' (first|refine Ok.seq ?_|((first|refine Ok.region tok ?_|refine nI ?_|refine aJ ?_);conv=>whnf)|fail)
   rw[e2]
   refine st ⟨mark2,0⟩ h2 (by simp[SI.row]) (by simp[setCells,SI.row,mark2]) ?_
   rw[room_end]
   (try (conv=>whnf));repeat' (first|refine Ok.seq ?_|(refine Ok.region tok ?_;conv=>whnf)|fail)
   refine⟨l.length,rfl,by show ((l.map SI.row).length:Int)=_;simp,by simp,?_⟩
   (conv=>whnf)
   (try (conv=>whnf));repeat' (first|(refine Ok.ret ?_;conv=>whnf)|fail)
   refine Or.inr (Or.inl ?_);(conv=>whnf)
   exact⟨rfl,rfl⟩
set_option maxRecDepth 100000 in
theorem roomLinks_at(l:List Link){rl sl:List (List D)}(hl:l.length<=1048576)(h:rl=l.map Link.row):FSpec Tryz.prog T 49 [.lst 91 rl sl] (fun d rows=>rows=[some (91,(l++[(⟨mark1,[],0⟩:Link),⟨mark2,[],0⟩]).map Link.row)]/\d = .own 0 l.length):=by
 subst h
 have hll:(l.map Link.row).length=l.length:=by simp
 refine FSpec.of_ok tok Tryz.func49 rfl Tryz.call49 (by simp) ?_
 (try (conv=>whnf));repeat' (first|refine Ok.seq ?_|(refine Ok.region tok ?_;conv=>whnf)|refine Ok.block ?_|((first|refine nI ?_|refine⟨_,_,rfl,rfl,?_⟩|refine aJ ?_|refine⟨_,rfl,?_⟩);conv=>whnf)|fail)
 refine Ok.loopU [0,3] [4] 1 0 (fun (k:Nat)=>[.i .i64 (k:Nat)]) (fun _ b=>b) (fun (k:Nat) (_:Vx.Rows)=>[some (91,(l.take k++List.replicate (l.length+2 - k) (⟨[],[],0⟩:Link)).map Link.row)]) (fun (k:Nat)=>k<=l.length) (fun (k:Nat)=>l.length - k) (0) (Nat.zero_le _) ?_;(conv=>whnf);refine⟨by ((conv=>whnf);first|rfl|(simp[envCat,List.take_of_length_le,SI.row,Node.row,Pfx.row,Link.row,srow];done)|(simp[envCat,List.take_of_length_le,SI.row,Node.row,Pfx.row,Link.row,srow];rw[IntKind.wrap_i64];omega)),?_⟩
 rintro k hk
 have htl:((l.take k++List.replicate (l.length+2 - k) (⟨[],[],0⟩:Link)).map Link.row).length=l.length+2:=by simp;omega
 by_cases hkl:k<l.length
 . obtain⟨x,hx⟩:∃ x,l[k]? = some x:=⟨_,List.getElem?_eq_getElem hkl⟩
   obtain⟨m,hm⟩:∃ m,l.length+2 - k=m+1:=⟨l.length+1 - k,by omega⟩
   rw[hm] at htl ⊢
   have hz:(l.take k++List.replicate (m+1) (⟨[],[],0⟩:Link))[k]? = some ⟨[],[],0⟩:=room_at (by omega)
   have hs:=room_set (z:=(⟨[],[],0⟩:Link)) (m:=m) hx
   (conv=>whnf)
   (try (conv=>whnf));repeat' (first|refine Ok.seq ?_|((first|refine Ok.region tok ?_|refine Ok.cond ?_);conv=>whnf)|refine Ok.block ?_|((first|refine Ok.skip ?_|refine ix _ (by assumption) ?_);conv=>whnf)|(refine bI ?_ ?_<;>intro<;>(conv=>whnf)<;>(try (exfalso;omega)))|(refine aJ ?_;conv=>whnf)|fail)
   refine st x hz (by simp[Link.row]) (by simp[setCells,Link.row]) ?_
   (try (conv=>whnf));repeat' (first|((first|refine Ok.region tok ?_|refine nI ?_);conv=>whnf)|fail)
   refine⟨k+1,by omega,by omega,?_⟩
   rw[show l.length+2 - (k+1)=m by omega,<- hs]
   (conv=>whnf);(first|rfl|simp[envCat,List.take_of_length_le,SI.row,Node.row,Pfx.row,Link.row,srow])
 . obtain rfl:k=l.length:=by omega
   rw[List.take_length,show l.length+2 - l.length=2 by omega] at htl ⊢
   have h1:(l++List.replicate 2 (⟨[],[],0⟩:Link))[l.length]? = some ⟨[],[],0⟩:=by simp
   have h2:((l++List.replicate 2 (⟨[],[],0⟩:Link)).set l.length ⟨mark1,[],0⟩)[l.length+1]? = some ⟨[],[],0⟩:=by
    rw[List.getElem?_set_ne (by omega)];simp
   have htl2:(((l++List.replicate 2 (⟨[],[],0⟩:Link)).set l.length ⟨mark1,[],0⟩).map Link.row).length=l.length+2:=by simp
   have e1:((((l.map Link.row).length:Nat):Int)).toNat=l.length:=by omega
   have e2:((((l.map Link.row).length:Nat):Int)+1).toNat=l.length+1:=by omega
   (conv=>whnf)
   (try (conv=>whnf));repeat' (first|refine Ok.seq ?_|((first|refine Ok.region tok ?_|refine Ok.cond ?_|refine Ok.exit ?_);conv=>whnf)|(refine bI ?_ ?_<;>intro<;>(conv=>whnf)<;>(try (exfalso;omega)))|(refine aJ ?_;conv=>whnf)|fail)
   rw[e1]
   refine st ⟨mark1,[],0⟩ h1 (by simp[Link.row]) (by simp[setCells,Link.row,mark1]) ?_
   (try (conv=>whnf));repeat' (first|refine Ok.seq ?_|((first|refine Ok.region tok ?_|refine nI ?_|refine aJ ?_);conv=>whnf)|fail)
   rw[e2]
   refine st ⟨mark2,[],0⟩ h2 (by simp[Link.row]) (by simp[setCells,Link.row,mark2]) ?_
   rw[room_end]
   (try (conv=>whnf));repeat' (first|refine Ok.seq ?_|(refine Ok.region tok ?_;conv=>whnf)|fail)
   refine⟨l.length,rfl,by show ((l.map Link.row).length:Int)=_;simp,by simp,?_⟩
   (conv=>whnf)
   (try (conv=>whnf));repeat' (first|(refine Ok.ret ?_;conv=>whnf)|fail)
   refine Or.inr (Or.inl ?_);(conv=>whnf)
   exact⟨rfl,rfl⟩
set_option maxRecDepth 100000 in
theorem roomNames_at(l:List Str){rl sl:List (List D)}(hl:l.length<=1048576)(h:rl=l.map srow):FSpec Tryz.prog T 92 [.lst 9 rl sl] (fun d rows=>rows=[some (9,(l++[(mark1:Str),mark2]).map srow)]/\d = .own 0 l.length):=by
 subst h
 have hll:(l.map srow).length=l.length:=by simp
 refine FSpec.of_ok tok Tryz.func92 rfl Tryz.call92 (by simp) ?_
 (try (conv=>whnf));repeat' (first|refine Ok.seq ?_|(refine Ok.region tok ?_;conv=>whnf)|refine Ok.block ?_|((first|refine nI ?_|refine⟨_,_,rfl,rfl,?_⟩|refine aJ ?_|refine⟨_,rfl,?_⟩);conv=>whnf)|fail)
 refine Ok.loopU [0,3] [4] 1 0 (fun (k:Nat)=>[.i .i64 (k:Nat)]) (fun _ b=>b) (fun (k:Nat) (_:Vx.Rows)=>[some (9,(l.take k++List.replicate (l.length+2 - k) ([]:Str)).map srow)]) (fun (k:Nat)=>k<=l.length) (fun (k:Nat)=>l.length - k) (0) (Nat.zero_le _) ?_;(conv=>whnf);refine⟨by ((conv=>whnf);first|rfl|(simp[envCat,List.take_of_length_le,SI.row,Node.row,Pfx.row,Link.row,srow];done)|(simp[envCat,List.take_of_length_le,SI.row,Node.row,Pfx.row,Link.row,srow];rw[IntKind.wrap_i64];omega)),?_⟩
 rintro k hk
 have htl:((l.take k++List.replicate (l.length+2 - k) ([]:Str)).map srow).length=l.length+2:=by simp;omega
 by_cases hkl:k<l.length
 . obtain⟨x,hx⟩:∃ x,l[k]? = some x:=⟨_,List.getElem?_eq_getElem hkl⟩
   obtain⟨m,hm⟩:∃ m,l.length+2 - k=m+1:=⟨l.length+1 - k,by omega⟩
   rw[hm] at htl ⊢
   have hz:(l.take k++List.replicate (m+1) ([]:Str))[k]? = some []:=room_at (by omega)
   have hs:=room_set (z:=([]:Str)) (m:=m) hx
   (conv=>whnf)
   (try (conv=>whnf));repeat' (first|refine Ok.seq ?_|((first|refine Ok.region tok ?_|refine Ok.cond ?_);conv=>whnf)|refine Ok.block ?_|((first|refine Ok.skip ?_|refine ix _ (by assumption) ?_);conv=>whnf)|(refine bI ?_ ?_<;>intro<;>(conv=>whnf)<;>(try (exfalso;omega)))|(refine aJ ?_;conv=>whnf)|fail)
   refine st x hz (by simp[srow]) (by simp[setCells,srow]) ?_
   (try (conv=>whnf));repeat' (first|((first|refine Ok.region tok ?_|refine nI ?_);conv=>whnf)|fail)
   refine⟨k+1,by omega,by omega,?_⟩
   rw[show l.length+2 - (k+1)=m by omega,<- hs]
   (conv=>whnf);(first|rfl|simp[envCat,List.take_of_length_le,SI.row,Node.row,Pfx.row,Link.row,srow])
 . obtain rfl:k=l.length:=by omega
   rw[List.take_length,show l.length+2 - l.length=2 by omega] at htl ⊢
   have h1:(l++List.replicate 2 ([]:Str))[l.length]? = some []:=by simp
   have h2:((l++List.replicate 2 ([]:Str)).set l.length mark1)[l.length+1]? = some []:=by
    rw[List.getElem?_set_ne (by omega)];simp
   have htl2:(((l++List.replicate 2 ([]:Str)).set l.length mark1).map srow).length=l.length+2:=by simp
   have e1:((((l.map srow).length:Nat):Int)).toNat=l.length:=by omega
   have e2:((((l.map srow).length:Nat):Int)+1).toNat=l.length+1:=by omega
   (conv=>whnf)
   (try (conv=>whnf));repeat' (first|refine Ok.seq ?_|((first|refine Ok.region tok ?_|refine Ok.cond ?_|refine Ok.exit ?_);conv=>whnf)|(refine bI ?_ ?_<;>intro<;>(conv=>whnf)<;>(try (exfalso;omega)))|(refine aJ ?_;conv=>whnf)|fail)
   rw[e1]
   refine st mark1 h1 (by simp[srow]) (by simp[setCells,srow,mark1]) ?_
   (try (conv=>whnf));repeat' (first|refine Ok.seq ?_|((first|refine Ok.region tok ?_|refine nI ?_|refine aJ ?_);conv=>whnf)|fail)
   rw[e2]
   refine st mark2 h2 (by simp[srow]) (by simp[setCells,srow,mark2]) ?_
   rw[room_end]
   (try (conv=>whnf));repeat' (first|refine Ok.seq ?_|(refine Ok.region tok ?_;conv=>whnf)|fail)
   refine⟨l.length,rfl,by show ((l.map srow).length:Int)=_;simp,by simp,?_⟩
   (conv=>whnf)
   (try (conv=>whnf));repeat' (first|(refine Ok.ret ?_;conv=>whnf)|fail)
   refine Or.inr (Or.inl ?_);(conv=>whnf)
   exact⟨rfl,rfl⟩
end Go.Proofs.YtcglkonooeddfaaGreatDoor
namespace Go.Proofs.YtcglkonooeddfaaGreatDoor
open Go Go.Vx
structure Ls(α:Type) where
 l:List α
 room:List (List D)
structure Line where
 port:Str
 permit:Prop
 mtch:Ls Node
def Line.row(x:Line):List D:=[.s x.port,.b x.permit,.lst 219 (x.mtch.l.map Node.row) x.mtch.room]
structure Rule where
 prio:Int
 frm:Ls Str
 mtch:Ls Node
 sets:Ls SI
 dst:Ls Str
def Rule.row(x:Rule):List D:=[.i .i64 x.prio,.lst 9 (x.frm.l.map srow) x.frm.room,.lst 219 (x.mtch.l.map Node.row) x.mtch.room,.lst 243 (x.sets.l.map SI.row) x.sets.room,.lst 9 (x.dst.l.map srow) x.dst.room]
structure Box where
 name:Str
 ins:Ls Str
 outs:Ls Str
 guards:Ls Line
 rules:Ls Rule
 owns:Ls Pfx
 routes:Ls Pfx
def Box.row(x:Box):List D:=[.s x.name,.lst 9 (x.ins.l.map srow) x.ins.room,.lst 9 (x.outs.l.map srow) x.outs.room,.lst 112 (x.guards.l.map Line.row) x.guards.room,.lst 115 (x.rules.l.map Rule.row) x.rules.room,.lst 246 (x.owns.l.map Pfx.row) x.owns.room,.lst 246 (x.routes.l.map Pfx.row) x.routes.room]
structure Slc where
 name:Str
 ports:Ls Str
 whr:Ls Node
def Slc.row(x:Slc):List D:=[.s x.name,.lst 9 (x.ports.l.map srow) x.ports.room,.lst 219 (x.whr.l.map Node.row) x.whr.room]
structure Config where
 title:Str
 fields:Ls SI
 routing:Str
 slim:Prop
 boxes:Ls Box
 links:Ls Link
 slices:Ls Slc
def Config.row(x:Config):List D:=[.s x.title,.lst 127 (x.fields.l.map SI.row) x.fields.room,.s x.routing,.b x.slim,.lst 87 (x.boxes.l.map Box.row) x.boxes.room,.lst 91 (x.links.l.map Link.row) x.links.room,.lst 54 (x.slices.l.map Slc.row) x.slices.room]
structure LineB where
 port:Str
 permit:Prop
 mtch:List Node
def Line.b(x:Line):LineB:=⟨x.port,x.permit,x.mtch.l⟩
structure RuleB where
 prio:Int
 frm:List Str
 mtch:List Node
 sets:List SI
 dst:List Str
def Rule.b(x:Rule):RuleB:=⟨x.prio,x.frm.l,x.mtch.l,x.sets.l,x.dst.l⟩
structure BoxB where
 name:Str
 ins:List Str
 outs:List Str
 guards:List LineB
 rules:List RuleB
 owns:List Pfx
 routes:List Pfx
def Box.b(x:Box):BoxB:=⟨x.name,x.ins.l,x.outs.l,x.guards.l.map Line.b,x.rules.l.map Rule.b,x.owns.l,x.routes.l⟩
structure SlcB where
 name:Str
 ports:List Str
 whr:List Node
def Slc.b(x:Slc):SlcB:=⟨x.name,x.ports.l,x.whr.l⟩
structure ConfigB where
 title:Str
 fields:List SI
 routing:Str
 slim:Prop
 boxes:List BoxB
 links:List Link
 slices:List SlcB
def Config.b(x:Config):ConfigB:=⟨x.title,x.fields.l,x.routing,x.slim,x.boxes.l.map Box.b,x.links.l,x.slices.l.map Slc.b⟩
open Classical in
noncomputable def ccnt{α:Type}(P:α->Prop)(l:List α):Nat:=l.countP fun x=>decide (P x)
theorem cnt_pos{α:Type}{P:α->Prop}{l:List α}{k:Nat}{x:α}(hx:l[k]? = some x)(h:P x):ccnt P (l.take (k+1))=ccnt P (l.take k)+1:=by
 unfold ccnt;rw[List.take_add_one,hx];simp[h]
theorem cnt_neg{α:Type}{P:α->Prop}{l:List α}{k:Nat}{x:α}(hx:l[k]? = some x)(h:¬ P x):ccnt P (l.take (k+1))=ccnt P (l.take k):=by
 unfold ccnt;rw[List.take_add_one,hx];simp[h]
theorem ccnt_le{α:Type}(P:α->Prop)(l:List α)(k:Nat):ccnt P (l.take k)<=k:=by
 unfold ccnt
 exact Nat.le_trans List.countP_le_length (by rw[List.length_take];omega)
def asOf{α:Type}(R:α->α->Prop)(u v:List α):Prop:=u.length=v.length/\∀ x ∈ u,ccnt (fun y=>R y x) u=ccnt (fun y=>R y x) v
def eqL{α:Type}(p:Prop)(R:α->α->Prop)(u v:List α):Prop:=(p->asOf R u v)/\(¬ p->u=v)
def eqRuleP(p:Prop)(r s:RuleB):Prop:=r.prio=s.prio/\((p->asOf Eq r.frm s.frm)/\(¬ p->r.frm=s.frm))/\r.mtch=s.mtch/\r.sets=s.sets/\r.dst=s.dst
theorem eqRuleP_ff(r s:RuleB):eqRuleP False r s ↔ r=s:=by
 obtain⟨a,b,c,d,e⟩:=r
 obtain⟨a',b',c',d',e'⟩:=s
 simp[eqRuleP]
set_option maxRecDepth 100000 in
theorem ccount_at(l:List Str)(s:Str){rl sl:List (List D)}(h:rl=l.map srow):FSpec Tryz.prog T 311 [.lst 9 rl sl,.s s] (fun d _=>d = .i .i64 (ccnt (fun y=>y=s) l:Nat)):=by
 subst h
 refine FSpec.of_len Tryz.call311 0 rfl fun hlen=>?_
 have hll:(l.map srow).length=l.length:=by simp
 refine FSpec.of_ok tok Tryz.func311 rfl Tryz.call311 (by simp) ?_
 (try (conv=>whnf));repeat' (first|refine Ok.seq ?_|(refine Ok.region tok ?_;conv=>whnf)|refine Ok.block ?_|fail)
 refine Ok.loopU [0,1] [5,6] 0 0 (fun (k:Nat)=>[.i .i64 (ccnt (fun y=>y=s) (l.take k):Nat),.i .i64 (k:Nat)]) (fun _ b=>b) (fun _ r=>r) (fun (k:Nat)=>k<=l.length) (fun (k:Nat)=>l.length - k) (0) (Nat.zero_le _) ?_;(conv=>whnf);refine⟨by ((conv=>whnf);first|rfl|(simp[envCat, List.take_of_length_le, SI.row, Node.row, Pfx.row, Link.row, srow, Line.row, Rule.row, Box.row, Slc.row];done)|(simp[envCat, List.take_of_length_le, SI.row, Node.row, Pfx.row, Link.row, srow, Line.row, Rule.row, Box.row, Slc.row];rw[IntKind.wrap_i64];omega)),?_⟩
 rintro k hk
 have hc:=ccnt_le (fun y=>y=s) l k
 by_cases hkl:k<l.length
 . obtain⟨x,hx⟩:∃ x,l[k]? = some x:=⟨_,List.getElem?_eq_getElem hkl⟩
   (try (conv=>whnf));repeat' (first|refine Ok.seq ?_|((first|refine Ok.region tok ?_|refine Ok.cond ?_);conv=>whnf)|refine Ok.block ?_|((first|refine Ok.skip ?_|refine nI ?_|refine ix _ (by assumption) ?_);conv=>whnf)|(refine bI ?_ ?_<;>intro<;>(conv=>whnf)<;>(try (exfalso;omega)))|fail)
   . refine⟨k+1,by omega,by omega,?_⟩
     rw[cnt_pos (P:=(fun y=>y=s)) hx (by assumption)]
     (conv=>whnf);simp[envCat]
   . refine⟨k+1,by omega,by omega,?_⟩
     rw[cnt_neg (P:=(fun y=>y=s)) hx (by assumption)]
     (conv=>whnf);simp[envCat]
 . obtain rfl:k=l.length:=by omega
   have hml:l.take l.length=l:=List.take_of_length_le (by simp)
   rw[hml] at hc ⊢
   (conv=>whnf)
   (try (conv=>whnf));repeat' (first|refine Ok.seq ?_|((first|refine Ok.region tok ?_|refine Ok.cond ?_|refine Ok.exit ?_|refine Ok.ret ?_);conv=>whnf)|(refine bI ?_ ?_<;>intro<;>(conv=>whnf)<;>(try (exfalso;omega)))|fail)
   refine Or.inl ?_;(conv=>whnf)
   rfl
set_option maxRecDepth 100000 in
theorem prefixCount_at(l:List Pfx)(s:Pfx){rl sl:List (List D)}(h:rl=l.map Pfx.row):FSpec Tryz.prog T 267 [.lst 246 rl sl,.agg s.row] (fun d _=>d = .i .i64 (ccnt (fun y=>y=s) l:Nat)):=by
 subst h
 refine FSpec.of_len Tryz.call267 0 rfl fun hlen=>?_
 have hll:(l.map Pfx.row).length=l.length:=by simp
 refine FSpec.of_ok tok Tryz.func267 rfl Tryz.call267 (by simp) ?_
 (try (conv=>whnf));repeat' (first|refine Ok.seq ?_|(refine Ok.region tok ?_;conv=>whnf)|refine Ok.block ?_|fail)
 refine Ok.loopU [0,3] [5,6] 0 1 (fun (k:Nat)=>[.i .i64 (ccnt (fun y=>y=s) (l.take k):Nat),.i .i64 (k:Nat)]) (fun _ b=>b) (fun _ r=>r) (fun (k:Nat)=>k<=l.length) (fun (k:Nat)=>l.length - k) (0) (Nat.zero_le _) ?_;(conv=>whnf);refine⟨by ((conv=>whnf);first|rfl|(simp[envCat, List.take_of_length_le, SI.row, Node.row, Pfx.row, Link.row, srow, Line.row, Rule.row, Box.row, Slc.row];done)|(simp[envCat, List.take_of_length_le, SI.row, Node.row, Pfx.row, Link.row, srow, Line.row, Rule.row, Box.row, Slc.row];rw[IntKind.wrap_i64];omega)),?_⟩
 rintro k hk
 have hc:=ccnt_le (fun y=>y=s) l k
 by_cases hkl:k<l.length
 . obtain⟨x,hx⟩:∃ x,l[k]? = some x:=⟨_,List.getElem?_eq_getElem hkl⟩
   (try (conv=>whnf));repeat' (first|refine Ok.seq ?_|((first|refine Ok.region tok ?_|refine Ok.region_draw tok follows (by kernel_rfl) ?_|refine Ok.cond ?_);conv=>whnf)|refine Ok.block ?_|((first|refine Ok.skip ?_|refine ix _ (by assumption) ?_);conv=>whnf)|(refine bI ?_ ?_<;>intro<;>(conv=>whnf)<;>(try (exfalso;omega)))|fail)
   refine⟨_,eqPfx,by kernel_rfl,?_⟩
   (conv=>whnf)
   (try (conv=>whnf));repeat' (first|((first|refine Ok.region tok ?_|refine Ok.cond ?_|refine Ok.skip ?_|refine nI ?_);conv=>whnf)|(refine bI ?_ ?_<;>intro<;>(conv=>whnf)<;>(try (exfalso;omega)))|fail)
   . refine⟨k+1,by omega,by omega,?_⟩
     rw[cnt_pos (P:=(fun y=>y=s)) hx ((Pfx.eqRow x s).1 (by assumption))]
     (conv=>whnf);simp[envCat]
   . refine⟨k+1,by omega,by omega,?_⟩
     rw[cnt_neg (P:=(fun y=>y=s)) hx (fun h=>absurd ((Pfx.eqRow x s).2 h) (by assumption))]
     (conv=>whnf);simp[envCat]
 . obtain rfl:k=l.length:=by omega
   have hml:l.take l.length=l:=List.take_of_length_le (by simp)
   rw[hml] at hc ⊢
   (conv=>whnf)
   (try (conv=>whnf));repeat' (first|refine Ok.seq ?_|((first|refine Ok.region tok ?_|refine Ok.cond ?_|refine Ok.exit ?_|refine Ok.ret ?_);conv=>whnf)|(refine bI ?_ ?_<;>intro<;>(conv=>whnf)<;>(try (exfalso;omega)))|fail)
   refine Or.inl ?_;(conv=>whnf)
   rfl
set_option maxRecDepth 100000 in
theorem linkCount_at(l:List Link)(s:Link){rl sl:List (List D)}(h:rl=l.map Link.row):FSpec Tryz.prog T 209 [.lst 91 rl sl,.agg s.row] (fun d _=>d = .i .i64 (ccnt (fun y=>y=s) l:Nat)):=by
 subst h
 refine FSpec.of_len Tryz.call209 0 rfl fun hlen=>?_
 have hll:(l.map Link.row).length=l.length:=by simp
 refine FSpec.of_ok tok Tryz.func209 rfl Tryz.call209 (by simp) ?_
 (try (conv=>whnf));repeat' (first|refine Ok.seq ?_|(refine Ok.region tok ?_;conv=>whnf)|refine Ok.block ?_|fail)
 refine Ok.loopU [0,3] [5,6] 0 1 (fun (k:Nat)=>[.i .i64 (ccnt (fun y=>y=s) (l.take k):Nat),.i .i64 (k:Nat)]) (fun _ b=>b) (fun _ r=>r) (fun (k:Nat)=>k<=l.length) (fun (k:Nat)=>l.length - k) (0) (Nat.zero_le _) ?_;(conv=>whnf);refine⟨by ((conv=>whnf);first|rfl|(simp[envCat, List.take_of_length_le, SI.row, Node.row, Pfx.row, Link.row, srow, Line.row, Rule.row, Box.row, Slc.row];done)|(simp[envCat, List.take_of_length_le, SI.row, Node.row, Pfx.row, Link.row, srow, Line.row, Rule.row, Box.row, Slc.row];rw[IntKind.wrap_i64];omega)),?_⟩
 rintro k hk
 have hc:=ccnt_le (fun y=>y=s) l k
 by_cases hkl:k<l.length
 . obtain⟨x,hx⟩:∃ x,l[k]? = some x:=⟨_,List.getElem?_eq_getElem hkl⟩
   (try (conv=>whnf));repeat' (first|refine Ok.seq ?_|((first|refine Ok.region tok ?_|refine Ok.region_draw tok follows (by kernel_rfl) ?_|refine Ok.cond ?_);conv=>whnf)|refine Ok.block ?_|((first|refine Ok.skip ?_|refine ix _ (by assumption) ?_);conv=>whnf)|(refine bI ?_ ?_<;>intro<;>(conv=>whnf)<;>(try (exfalso;omega)))|fail)
   refine⟨_,eqLink,by kernel_rfl,?_⟩
   (conv=>whnf)
   (try (conv=>whnf));repeat' (first|((first|refine Ok.region tok ?_|refine Ok.cond ?_|refine Ok.skip ?_|refine nI ?_);conv=>whnf)|(refine bI ?_ ?_<;>intro<;>(conv=>whnf)<;>(try (exfalso;omega)))|fail)
   . refine⟨k+1,by omega,by omega,?_⟩
     rw[cnt_pos (P:=(fun y=>y=s)) hx ((Link.eqRow x s).1 (by assumption))]
     (conv=>whnf);simp[envCat]
   . refine⟨k+1,by omega,by omega,?_⟩
     rw[cnt_neg (P:=(fun y=>y=s)) hx (fun h=>absurd ((Link.eqRow x s).2 h) (by assumption))]
     (conv=>whnf);simp[envCat]
 . obtain rfl:k=l.length:=by omega
   have hml:l.take l.length=l:=List.take_of_length_le (by simp)
   rw[hml] at hc ⊢
   (conv=>whnf)
   (try (conv=>whnf));repeat' (first|refine Ok.seq ?_|((first|refine Ok.region tok ?_|refine Ok.cond ?_|refine Ok.exit ?_|refine Ok.ret ?_);conv=>whnf)|(refine bI ?_ ?_<;>intro<;>(conv=>whnf)<;>(try (exfalso;omega)))|fail)
   refine Or.inl ?_;(conv=>whnf)
   rfl
set_option maxRecDepth 100000 in
set_option maxHeartbeats 4000000 in
theorem eqPrefixes_at(p:Prop)(a b:List Pfx){ra sa rb sb:List (List D)}(ha:ra=a.map Pfx.row)(hb:rb=b.map Pfx.row):FSpec Tryz.prog T 208 [.lst 246 ra sa,.lst 246 rb sb,.b p] (fun d _=>d = .b (eqL p Eq a b)):=by
 subst ha hb
 refine FSpec.of_len Tryz.call208 0 rfl fun hlen=>?_
 have hal:(a.map Pfx.row).length=a.length:=by simp
 have hbl:(b.map Pfx.row).length=b.length:=by simp
 have hma:a.length=a.length:=by simp
 have hmb:b.length=b.length:=by simp
 refine FSpec.of_ok tok Tryz.func208 rfl Tryz.call208 (by simp) ?_
 (try (conv=>whnf));repeat' (first|refine Ok.seq ?_|((first|refine Ok.region tok ?_|refine Ok.cond ?_);conv=>whnf)|refine Ok.block ?_|((first|refine Ok.skip ?_|refine Ok.ret ?_);conv=>whnf)|(refine bI ?_ ?_<;>intro<;>(conv=>whnf)<;>(try (exfalso;omega)))|fail)
 . rename_i h1
   refine Or.inl ?_;(conv=>whnf)
   exact b_eq ⟨fun h=>h.elim,fun h=>by
    by_cases hp:p
    . have:=(h.1 hp).1;omega
    . have:=congrArg List.length (h.2 hp);omega⟩
 refine Ok.loopU [0,1,2] [7] 0 0 (fun (k:Nat)=>[.i .i64 (k:Nat)]) (fun _ b=>b) (fun _ r=>r) (fun (k:Nat)=>k<=a.length/\(p->∀ x ∈ a.take k,ccnt (fun y=>Eq y x) a=ccnt (fun y=>Eq y x) b)/\(¬ p->a.take k=b.take k)) (fun (k:Nat)=>a.length - k) (0) (⟨Nat.zero_le _,by simp,by simp⟩) ?_;(conv=>whnf);refine⟨by ((conv=>whnf);first|rfl|(simp[envCat, List.take_of_length_le, SI.row, Node.row, Pfx.row, Link.row, srow, Line.row, Rule.row, Box.row, Slc.row];done)|(simp[envCat, List.take_of_length_le, SI.row, Node.row, Pfx.row, Link.row, srow, Line.row, Rule.row, Box.row, Slc.row];rw[IntKind.wrap_i64];omega)),?_⟩
 rintro k ⟨hk,ht,hf⟩
 by_cases hka:k<a.length
 . obtain⟨x,hx⟩:∃ x,a[k]? = some x:=⟨_,List.getElem?_eq_getElem hka⟩
   obtain⟨y,hy⟩:∃ x,b[k]? = some x:=⟨_,List.getElem?_eq_getElem (by omega)⟩
   have hxm:a[k]? = some x:=by simp[hx]
   have hym:b[k]? = some y:=by simp[hy]
   have htk:a.take (k+1)=a.take k++[x]:=by rw[List.take_add_one,hxm];rfl
   have hxx:x ∈ a:=List.mem_of_getElem? hxm
   by_cases hp:p
   . (try (conv=>whnf));repeat' (first|refine Ok.seq ?_|((first|refine Ok.region tok ?_|refine Ok.region_draw tok follows (by kernel_rfl) ?_|refine Ok.cond ?_);conv=>whnf)|refine Ok.block ?_|((first|refine Ok.skip ?_|refine Ok.ret ?_|refine nI ?_|refine ix _ (by assumption) ?_|refine⟨_,prefixCount_at _ _ rfl,rfl,?_⟩);conv=>whnf)|(refine bI ?_ ?_<;>intro<;>(conv=>whnf)<;>(try (exfalso;omega)))|fail)
     all_goals first
      | contradiction
      | (rename_i hne;refine Or.inl ?_;(conv=>whnf);exact b_eq ⟨fun h=>h.elim,fun h=>hne (by rw[(h.1 hp).2 x hxx])⟩)
      | (rename_i heq;refine⟨k+1,by omega,⟨by omega,fun _ z hz=>by
          rw[htk] at hz
          rcases List.mem_append.1 hz with hz|hz
          . exact ht hp z hz
          . simp at hz;subst hz;have:=Classical.not_not.1 heq;omega,fun h=>absurd hp h⟩,?_⟩;(conv=>whnf);(first|rfl|simp[envCat, List.take_of_length_le, SI.row, Node.row, Pfx.row, Link.row, srow, Line.row, Rule.row, Box.row, Slc.row]))
   . (try (conv=>whnf));repeat' (first|refine Ok.seq ?_|((first|refine Ok.region tok ?_|refine Ok.region_draw tok follows (by kernel_rfl) ?_|refine Ok.cond ?_);conv=>whnf)|refine Ok.block ?_|((first|refine Ok.skip ?_|refine nI ?_|refine ix _ (by assumption) ?_);conv=>whnf)|(refine bI ?_ ?_<;>intro<;>(conv=>whnf)<;>(try (exfalso;omega)))|fail)
     all_goals try contradiction
     refine⟨_,eqPfx,by kernel_rfl,?_⟩
     (conv=>whnf)
     (try (conv=>whnf));repeat' (first|refine Ok.seq ?_|((first|refine Ok.region tok ?_|refine Ok.cond ?_|refine Ok.skip ?_|refine Ok.ret ?_|refine nI ?_);conv=>whnf)|(refine bI ?_ ?_<;>intro<;>(conv=>whnf)<;>(try (exfalso;omega)))|fail)
     all_goals first
      | contradiction
      | (rename_i hne;refine Or.inl ?_;(conv=>whnf);exact b_eq ⟨fun h=>h.elim,fun h=>hne ((Pfx.eqRow x y).2 (by have h2:=h.2 hp;subst h2;rw[hx] at hy;cases hy;rfl))⟩)
      | (rename_i heq;refine⟨k+1,by omega,⟨by omega,fun h=>absurd h hp,fun h=>take_step hxm hym (hf hp) ((Pfx.eqRow x y).1 (Classical.not_not.1 heq))⟩,?_⟩;(conv=>whnf);(first|rfl|simp[envCat, List.take_of_length_le, SI.row, Node.row, Pfx.row, Link.row, srow, Line.row, Rule.row, Box.row, Slc.row]))
 . obtain rfl:k=a.length:=by omega
   (try (conv=>whnf));repeat' (first|refine Ok.seq ?_|((first|refine Ok.region tok ?_|refine Ok.cond ?_|refine Ok.exit ?_|refine Ok.ret ?_);conv=>whnf)|(refine bI ?_ ?_<;>intro<;>(conv=>whnf)<;>(try (exfalso;omega)))|fail)
   refine Or.inl ?_;(conv=>whnf)
   exact b_eq ⟨fun _=>⟨fun hp=>⟨by omega,fun x hx=>ht hp x (by rw[List.take_of_length_le (by omega)];exact hx)⟩,fun hp=>by
    have:=hf hp
    rw[List.take_of_length_le (by omega),List.take_of_length_le (by omega)] at this
    exact this⟩,fun _=>trivial⟩
set_option maxRecDepth 100000 in
set_option maxHeartbeats 4000000 in
theorem eqLinks_at(p:Prop)(a b:List Link){ra sa rb sb:List (List D)}(ha:ra=a.map Link.row)(hb:rb=b.map Link.row):FSpec Tryz.prog T 159 [.lst 91 ra sa,.lst 91 rb sb,.b p] (fun d _=>d = .b (eqL p Eq a b)):=by
 subst ha hb
 refine FSpec.of_len Tryz.call159 0 rfl fun hlen=>?_
 have hal:(a.map Link.row).length=a.length:=by simp
 have hbl:(b.map Link.row).length=b.length:=by simp
 have hma:a.length=a.length:=by simp
 have hmb:b.length=b.length:=by simp
 refine FSpec.of_ok tok Tryz.func159 rfl Tryz.call159 (by simp) ?_
 (try (conv=>whnf));repeat' (first|refine Ok.seq ?_|((first|refine Ok.region tok ?_|refine Ok.cond ?_);conv=>whnf)|refine Ok.block ?_|((first|refine Ok.skip ?_|refine Ok.ret ?_);conv=>whnf)|(refine bI ?_ ?_<;>intro<;>(conv=>whnf)<;>(try (exfalso;omega)))|fail)
 . rename_i h1
   refine Or.inl ?_;(conv=>whnf)
   exact b_eq ⟨fun h=>h.elim,fun h=>by
    by_cases hp:p
    . have:=(h.1 hp).1;omega
    . have:=congrArg List.length (h.2 hp);omega⟩
 refine Ok.loopU [0,1,2] [7] 0 0 (fun (k:Nat)=>[.i .i64 (k:Nat)]) (fun _ b=>b) (fun _ r=>r) (fun (k:Nat)=>k<=a.length/\(p->∀ x ∈ a.take k,ccnt (fun y=>Eq y x) a=ccnt (fun y=>Eq y x) b)/\(¬ p->a.take k=b.take k)) (fun (k:Nat)=>a.length - k) (0) (⟨Nat.zero_le _,by simp,by simp⟩) ?_;(conv=>whnf);refine⟨by ((conv=>whnf);first|rfl|(simp[envCat, List.take_of_length_le, SI.row, Node.row, Pfx.row, Link.row, srow, Line.row, Rule.row, Box.row, Slc.row];done)|(simp[envCat, List.take_of_length_le, SI.row, Node.row, Pfx.row, Link.row, srow, Line.row, Rule.row, Box.row, Slc.row];rw[IntKind.wrap_i64];omega)),?_⟩
 rintro k ⟨hk,ht,hf⟩
 by_cases hka:k<a.length
 . obtain⟨x,hx⟩:∃ x,a[k]? = some x:=⟨_,List.getElem?_eq_getElem hka⟩
   obtain⟨y,hy⟩:∃ x,b[k]? = some x:=⟨_,List.getElem?_eq_getElem (by omega)⟩
   have hxm:a[k]? = some x:=by simp[hx]
   have hym:b[k]? = some y:=by simp[hy]
   have htk:a.take (k+1)=a.take k++[x]:=by rw[List.take_add_one,hxm];rfl
   have hxx:x ∈ a:=List.mem_of_getElem? hxm
   by_cases hp:p
   . (try (conv=>whnf));repeat' (first|refine Ok.seq ?_|((first|refine Ok.region tok ?_|refine Ok.region_draw tok follows (by kernel_rfl) ?_|refine Ok.cond ?_);conv=>whnf)|refine Ok.block ?_|((first|refine Ok.skip ?_|refine Ok.ret ?_|refine nI ?_|refine ix _ (by assumption) ?_|refine⟨_,linkCount_at _ _ rfl,rfl,?_⟩);conv=>whnf)|(refine bI ?_ ?_<;>intro<;>(conv=>whnf)<;>(try (exfalso;omega)))|fail)
     all_goals first
      | contradiction
      | (rename_i hne;refine Or.inl ?_;(conv=>whnf);exact b_eq ⟨fun h=>h.elim,fun h=>hne (by rw[(h.1 hp).2 x hxx])⟩)
      | (rename_i heq;refine⟨k+1,by omega,⟨by omega,fun _ z hz=>by
          rw[htk] at hz
          rcases List.mem_append.1 hz with hz|hz
          . exact ht hp z hz
          . simp at hz;subst hz;have:=Classical.not_not.1 heq;omega,fun h=>absurd hp h⟩,?_⟩;(conv=>whnf);(first|rfl|simp[envCat, List.take_of_length_le, SI.row, Node.row, Pfx.row, Link.row, srow, Line.row, Rule.row, Box.row, Slc.row]))
   . (try (conv=>whnf));repeat' (first|refine Ok.seq ?_|((first|refine Ok.region tok ?_|refine Ok.region_draw tok follows (by kernel_rfl) ?_|refine Ok.cond ?_);conv=>whnf)|refine Ok.block ?_|((first|refine Ok.skip ?_|refine nI ?_|refine ix _ (by assumption) ?_);conv=>whnf)|(refine bI ?_ ?_<;>intro<;>(conv=>whnf)<;>(try (exfalso;omega)))|fail)
     all_goals try contradiction
     refine⟨_,eqLink,by kernel_rfl,?_⟩
     (conv=>whnf)
     (try (conv=>whnf));repeat' (first|refine Ok.seq ?_|((first|refine Ok.region tok ?_|refine Ok.cond ?_|refine Ok.skip ?_|refine Ok.ret ?_|refine nI ?_);conv=>whnf)|(refine bI ?_ ?_<;>intro<;>(conv=>whnf)<;>(try (exfalso;omega)))|fail)
     all_goals first
      | contradiction
      | (rename_i hne;refine Or.inl ?_;(conv=>whnf);exact b_eq ⟨fun h=>h.elim,fun h=>hne ((Link.eqRow x y).2 (by have h2:=h.2 hp;subst h2;rw[hx] at hy;cases hy;rfl))⟩)
      | (rename_i heq;refine⟨k+1,by omega,⟨by omega,fun h=>absurd h hp,fun h=>take_step hxm hym (hf hp) ((Link.eqRow x y).1 (Classical.not_not.1 heq))⟩,?_⟩;(conv=>whnf);(first|rfl|simp[envCat, List.take_of_length_le, SI.row, Node.row, Pfx.row, Link.row, srow, Line.row, Rule.row, Box.row, Slc.row]))
 . obtain rfl:k=a.length:=by omega
   (try (conv=>whnf));repeat' (first|refine Ok.seq ?_|((first|refine Ok.region tok ?_|refine Ok.cond ?_|refine Ok.exit ?_|refine Ok.ret ?_);conv=>whnf)|(refine bI ?_ ?_<;>intro<;>(conv=>whnf)<;>(try (exfalso;omega)))|fail)
   refine Or.inl ?_;(conv=>whnf)
   exact b_eq ⟨fun _=>⟨fun hp=>⟨by omega,fun x hx=>ht hp x (by rw[List.take_of_length_le (by omega)];exact hx)⟩,fun hp=>by
    have:=hf hp
    rw[List.take_of_length_le (by omega),List.take_of_length_le (by omega)] at this
    exact this⟩,fun _=>trivial⟩
end Go.Proofs.YtcglkonooeddfaaGreatDoor
namespace Go.Proofs.YtcglkonooeddfaaGreatDoor
open Go Go.Vx
set_option maxRecDepth 100000 in
theorem mixed_at(a b:List Str){ra sa rb sb:List (List D)}(ha:ra=a.map srow)(hb:rb=b.map srow):FSpec Tryz.prog T 296 [.lst 9 ra sa,.lst 9 rb sb] (fun d _=>d = .b (asOf Eq a b)):=by
 subst ha hb
 refine FSpec.of_len Tryz.call296 0 rfl fun hlen=>?_
 have hal:(a.map srow).length=a.length:=by simp
 have hbl:(b.map srow).length=b.length:=by simp
 refine FSpec.of_ok tok Tryz.func296 rfl Tryz.call296 (by simp) ?_
 (try (conv=>whnf));repeat' (first|refine Ok.seq ?_|((first|refine Ok.region tok ?_|refine Ok.cond ?_);conv=>whnf)|refine Ok.block ?_|((first|refine Ok.skip ?_|refine Ok.ret ?_);conv=>whnf)|(refine bI ?_ ?_<;>intro<;>(conv=>whnf)<;>(try (exfalso;omega)))|fail)
 . rename_i h1
   refine Or.inl ?_;(conv=>whnf)
   exact b_eq ⟨fun h=>h.elim,fun h=>by have:=h.1;omega⟩
 refine Ok.loopU [0,1] [5] 0 0 (fun (k:Nat)=>[.i .i64 (k:Nat)]) (fun _ b=>b) (fun _ r=>r) (fun (k:Nat)=>k<=a.length/\(∀ x ∈ a.take k,ccnt (fun y=>y=x) a=ccnt (fun y=>y=x) b)) (fun (k:Nat)=>a.length - k) (0) (⟨Nat.zero_le _,by simp⟩) ?_;(conv=>whnf);refine⟨by ((conv=>whnf);first|rfl|(simp[envCat, List.take_of_length_le, SI.row, Node.row, Pfx.row, Link.row, srow, Line.row, Rule.row, Box.row, Slc.row];done)|(simp[envCat, List.take_of_length_le, SI.row, Node.row, Pfx.row, Link.row, srow, Line.row, Rule.row, Box.row, Slc.row];rw[IntKind.wrap_i64];omega)),?_⟩
 rintro k ⟨hk,ht⟩
 by_cases hka:k<a.length
 . obtain⟨x,hx⟩:∃ x,a[k]? = some x:=⟨_,List.getElem?_eq_getElem hka⟩
   have htk:a.take (k+1)=a.take k++[x]:=by rw[List.take_add_one,hx];rfl
   have hxx:x ∈ a:=List.mem_of_getElem? hx
   (try (conv=>whnf));repeat' (first|refine Ok.seq ?_|((first|refine Ok.region tok ?_|refine Ok.region_draw tok follows (by kernel_rfl) ?_|refine Ok.cond ?_);conv=>whnf)|refine Ok.block ?_|((first|refine Ok.skip ?_|refine Ok.ret ?_|refine nI ?_|refine ix _ (by assumption) ?_|refine⟨_,ccount_at a x rfl,rfl,?_⟩|refine⟨_,ccount_at b x rfl,rfl,?_⟩);conv=>whnf)|(refine bI ?_ ?_<;>intro<;>(conv=>whnf)<;>(try (exfalso;omega)))|fail)
   . rename_i hne
     refine Or.inl ?_;(conv=>whnf)
     exact b_eq ⟨fun h=>h.elim,fun h=>hne (by rw[h.2 x hxx])⟩
   . rename_i heq
     refine⟨k+1,by omega,⟨by omega,fun z hz=>by
      rw[htk] at hz
      rcases List.mem_append.1 hz with hz|hz
      . exact ht z hz
      . simp at hz;subst hz;have:=Classical.not_not.1 heq;omega⟩,?_⟩
     (conv=>whnf);(first|rfl|simp[envCat, List.take_of_length_le, SI.row, Node.row, Pfx.row, Link.row, srow, Line.row, Rule.row, Box.row, Slc.row])
 . obtain rfl:k=a.length:=by omega
   rw[List.take_length] at ht
   (try (conv=>whnf));repeat' (first|refine Ok.seq ?_|((first|refine Ok.region tok ?_|refine Ok.cond ?_|refine Ok.exit ?_|refine Ok.ret ?_);conv=>whnf)|(refine bI ?_ ?_<;>intro<;>(conv=>whnf)<;>(try (exfalso;omega)))|fail)
   refine Or.inl ?_;(conv=>whnf)
   exact b_eq ⟨fun _=>⟨by omega,ht⟩,fun _=>trivial⟩
set_option maxRecDepth 100000 in
set_option maxHeartbeats 4000000 in
theorem eqRule_at(p:Prop)(r s:Rule):FSpec Tryz.prog T 266 [.agg r.row,.agg s.row,.b p] (fun d _=>d = .b (eqRuleP p r.b s.b)):=by
 refine FSpec.of_ok tok Tryz.func266 rfl Tryz.call266 (by simp) ?_
 (try (conv=>whnf));repeat' (first|refine Ok.seq ?_|((first|refine Ok.region tok ?_|refine Ok.cond ?_|refine Ok.skip ?_|refine Ok.ret ?_);conv=>whnf)|(refine Or.inl ?_;(conv=>whnf);(repeat (refine aI ?_;conv=>whnf));refine⟨_,eqNames_at r.frm.l s.frm.l rfl rfl,rfl,?_⟩;conv=>whnf)|(refine Or.inl ?_;(conv=>whnf);(repeat (refine aI ?_;conv=>whnf));refine⟨_,mixed_at r.frm.l s.frm.l rfl rfl,rfl,?_⟩;conv=>whnf)|(refine Or.inl ?_;(conv=>whnf);(repeat (refine aI ?_;conv=>whnf));refine⟨_,refNodes_at r.mtch.l s.mtch.l rfl rfl,rfl,?_⟩;conv=>whnf)|(refine Or.inl ?_;(conv=>whnf);(repeat (refine aI ?_;conv=>whnf));refine⟨_,refSets_at r.sets.l s.sets.l rfl rfl,rfl,?_⟩;conv=>whnf)|(refine Or.inl ?_;(conv=>whnf);(repeat (refine aI ?_;conv=>whnf));refine⟨_,eqNames_at r.dst.l s.dst.l rfl rfl,rfl,?_⟩;conv=>whnf)|(refine bI ?_ ?_<;>intro<;>(conv=>whnf)<;>(try (exfalso;omega)))|fail)
 all_goals
  refine Or.inl ?_;(conv=>whnf)
 all_goals
  refine b_eq ?_
  simp[eqRuleP,Rule.b, *]
set_option maxRecDepth 100000 in
theorem ruleCount_at(l:List Rule)(r:Rule){rl sl:List (List D)}(h:rl=l.map Rule.row):FSpec Tryz.prog T 265 [.lst 115 rl sl,.agg r.row] (fun d _=>d = .i .i64 (ccnt (fun y=>eqRuleP True y r.b) (l.map Rule.b):Nat)):=by
 subst h
 refine FSpec.of_len Tryz.call265 0 rfl fun hlen=>?_
 have hll:(l.map Rule.row).length=l.length:=by simp
 refine FSpec.of_ok tok Tryz.func265 rfl Tryz.call265 (by simp) ?_
 (try (conv=>whnf));repeat' (first|refine Ok.seq ?_|(refine Ok.region tok ?_;conv=>whnf)|refine Ok.block ?_|fail)
 refine Ok.loopU [0,3] [5,6] 0 1 (fun (k:Nat)=>[.i .i64 (ccnt (fun y=>eqRuleP True y r.b) ((l.map Rule.b).take k):Nat),.i .i64 (k:Nat)]) (fun _ b=>b) (fun _ r=>r) (fun (k:Nat)=>k<=l.length) (fun (k:Nat)=>l.length - k) (0) (Nat.zero_le _) ?_;(conv=>whnf);refine⟨by ((conv=>whnf);first|rfl|(simp[envCat, List.take_of_length_le, SI.row, Node.row, Pfx.row, Link.row, srow, Line.row, Rule.row, Box.row, Slc.row];done)|(simp[envCat, List.take_of_length_le, SI.row, Node.row, Pfx.row, Link.row, srow, Line.row, Rule.row, Box.row, Slc.row];rw[IntKind.wrap_i64];omega)),?_⟩
 rintro k hk
 have hc:=ccnt_le (fun y=>eqRuleP True y r.b) (l.map Rule.b) k
 by_cases hkl:k<l.length
 . obtain⟨x,hx⟩:∃ x,l[k]? = some x:=⟨_,List.getElem?_eq_getElem hkl⟩
   (try (conv=>whnf));repeat' (first|refine Ok.seq ?_|((first|refine Ok.region tok ?_|refine Ok.region_draw tok follows (by kernel_rfl) ?_|refine Ok.cond ?_);conv=>whnf)|refine Ok.block ?_|((first|refine Ok.skip ?_|refine nI ?_|refine ix _ (by assumption) ?_|refine⟨_,eqRule_at True x r,rfl,?_⟩);conv=>whnf)|(refine bI ?_ ?_<;>intro<;>(conv=>whnf)<;>(try (exfalso;omega)))|fail)
   . refine⟨k+1,by omega,by omega,?_⟩
     rw[cnt_pos (P:=(fun y=>eqRuleP True y r.b)) (show (l.map Rule.b)[k]? = some (Rule.b x) by simp[hx]) (by assumption)]
     (conv=>whnf);simp[envCat]
   . refine⟨k+1,by omega,by omega,?_⟩
     rw[cnt_neg (P:=(fun y=>eqRuleP True y r.b)) (show (l.map Rule.b)[k]? = some (Rule.b x) by simp[hx]) (by assumption)]
     (conv=>whnf);simp[envCat]
 . obtain rfl:k=l.length:=by omega
   have hml:(l.map Rule.b).take l.length=(l.map Rule.b):=List.take_of_length_le (by simp)
   rw[hml] at hc ⊢
   (conv=>whnf)
   (try (conv=>whnf));repeat' (first|refine Ok.seq ?_|((first|refine Ok.region tok ?_|refine Ok.cond ?_|refine Ok.exit ?_|refine Ok.ret ?_);conv=>whnf)|(refine bI ?_ ?_<;>intro<;>(conv=>whnf)<;>(try (exfalso;omega)))|fail)
   refine Or.inl ?_;(conv=>whnf)
   rfl
set_option maxRecDepth 100000 in
set_option maxHeartbeats 4000000 in
theorem eqRules_at(p:Prop)(a b:List Rule){ra sa rb sb:List (List D)}(ha:ra=a.map Rule.row)(hb:rb=b.map Rule.row):FSpec Tryz.prog T 207 [.lst 115 ra sa,.lst 115 rb sb,.b p] (fun d _=>d = .b (eqL p (eqRuleP True) (a.map Rule.b) (b.map Rule.b))):=by
 subst ha hb
 refine FSpec.of_len Tryz.call207 0 rfl fun hlen=>?_
 have hal:(a.map Rule.row).length=a.length:=by simp
 have hbl:(b.map Rule.row).length=b.length:=by simp
 have hma:(a.map Rule.b).length=a.length:=by simp
 have hmb:(b.map Rule.b).length=b.length:=by simp
 refine FSpec.of_ok tok Tryz.func207 rfl Tryz.call207 (by simp) ?_
 (try (conv=>whnf));repeat' (first|refine Ok.seq ?_|((first|refine Ok.region tok ?_|refine Ok.cond ?_);conv=>whnf)|refine Ok.block ?_|((first|refine Ok.skip ?_|refine Ok.ret ?_);conv=>whnf)|(refine bI ?_ ?_<;>intro<;>(conv=>whnf)<;>(try (exfalso;omega)))|fail)
 . rename_i h1
   refine Or.inl ?_;(conv=>whnf)
   exact b_eq ⟨fun h=>h.elim,fun h=>by
    by_cases hp:p
    . have:=(h.1 hp).1;omega
    . have:=congrArg List.length (h.2 hp);omega⟩
 refine Ok.loopU [0,1,2] [7] 0 0 (fun (k:Nat)=>[.i .i64 (k:Nat)]) (fun _ b=>b) (fun _ r=>r) (fun (k:Nat)=>k<=a.length/\(p->∀ x ∈ (a.map Rule.b).take k,ccnt (fun y=>(eqRuleP True) y x) (a.map Rule.b)=ccnt (fun y=>(eqRuleP True) y x) (b.map Rule.b))/\(¬ p->(a.map Rule.b).take k=(b.map Rule.b).take k)) (fun (k:Nat)=>a.length - k) (0) (⟨Nat.zero_le _,by simp,by simp⟩) ?_;(conv=>whnf);refine⟨by ((conv=>whnf);first|rfl|(simp[envCat, List.take_of_length_le, SI.row, Node.row, Pfx.row, Link.row, srow, Line.row, Rule.row, Box.row, Slc.row];done)|(simp[envCat, List.take_of_length_le, SI.row, Node.row, Pfx.row, Link.row, srow, Line.row, Rule.row, Box.row, Slc.row];rw[IntKind.wrap_i64];omega)),?_⟩
 rintro k ⟨hk,ht,hf⟩
 by_cases hka:k<a.length
 . obtain⟨x,hx⟩:∃ x,a[k]? = some x:=⟨_,List.getElem?_eq_getElem hka⟩
   obtain⟨y,hy⟩:∃ x,b[k]? = some x:=⟨_,List.getElem?_eq_getElem (by omega)⟩
   have hxm:(a.map Rule.b)[k]? = some x.b:=by simp[hx]
   have hym:(b.map Rule.b)[k]? = some y.b:=by simp[hy]
   have htk:(a.map Rule.b).take (k+1)=(a.map Rule.b).take k++[x.b]:=by rw[List.take_add_one,hxm];rfl
   have hxx:x.b ∈ (a.map Rule.b):=List.mem_of_getElem? hxm
   by_cases hp:p
   . (try (conv=>whnf));repeat' (first|refine Ok.seq ?_|((first|refine Ok.region tok ?_|refine Ok.region_draw tok follows (by kernel_rfl) ?_|refine Ok.cond ?_);conv=>whnf)|refine Ok.block ?_|((first|refine Ok.skip ?_|refine Ok.ret ?_|refine nI ?_|refine ix _ (by assumption) ?_|refine⟨_,ruleCount_at _ _ rfl,rfl,?_⟩);conv=>whnf)|(refine bI ?_ ?_<;>intro<;>(conv=>whnf)<;>(try (exfalso;omega)))|fail)
     all_goals first
      | contradiction
      | (rename_i hne;refine Or.inl ?_;(conv=>whnf);exact b_eq ⟨fun h=>h.elim,fun h=>hne (by rw[(h.1 hp).2 x.b hxx])⟩)
      | (rename_i heq;refine⟨k+1,by omega,⟨by omega,fun _ z hz=>by
          rw[htk] at hz
          rcases List.mem_append.1 hz with hz|hz
          . exact ht hp z hz
          . simp at hz;subst hz;have:=Classical.not_not.1 heq;omega,fun h=>absurd hp h⟩,?_⟩;(conv=>whnf);(first|rfl|simp[envCat, List.take_of_length_le, SI.row, Node.row, Pfx.row, Link.row, srow, Line.row, Rule.row, Box.row, Slc.row]))
   . (try (conv=>whnf));repeat' (first|refine Ok.seq ?_|((first|refine Ok.region tok ?_|refine Ok.region_draw tok follows (by kernel_rfl) ?_|refine Ok.cond ?_);conv=>whnf)|refine Ok.block ?_|((first|refine Ok.skip ?_|refine Ok.ret ?_|refine nI ?_|refine ix _ (by assumption) ?_|refine⟨_,ruleCount_at _ _ rfl,rfl,?_⟩|refine⟨_,eqRule_at False x y,rfl,?_⟩);conv=>whnf)|(refine bI ?_ ?_<;>intro<;>(conv=>whnf)<;>(try (exfalso;omega)))|fail)
     all_goals first
      | contradiction
      | (rename_i hne;refine Or.inl ?_;(conv=>whnf);exact b_eq ⟨fun h=>h.elim,fun h=>hne ((eqRuleP_ff _ _).2 (by have h2:=h.2 hp;rw[h2,hym] at hxm;exact (Option.some.inj hxm).symm))⟩)
      | (rename_i heq;refine⟨k+1,by omega,⟨by omega,fun h=>absurd h hp,fun h=>take_step hxm hym (hf hp) ((eqRuleP_ff _ _).1 (Classical.not_not.1 heq))⟩,?_⟩;(conv=>whnf);(first|rfl|simp[envCat, List.take_of_length_le, SI.row, Node.row, Pfx.row, Link.row, srow, Line.row, Rule.row, Box.row, Slc.row]))
 . obtain rfl:k=a.length:=by omega
   (try (conv=>whnf));repeat' (first|refine Ok.seq ?_|((first|refine Ok.region tok ?_|refine Ok.cond ?_|refine Ok.exit ?_|refine Ok.ret ?_);conv=>whnf)|(refine bI ?_ ?_<;>intro<;>(conv=>whnf)<;>(try (exfalso;omega)))|fail)
   refine Or.inl ?_;(conv=>whnf)
   exact b_eq ⟨fun _=>⟨fun hp=>⟨by omega,fun x hx=>ht hp x (by rw[List.take_of_length_le (by omega)];exact hx)⟩,fun hp=>by
    have:=hf hp
    rw[List.take_of_length_le (by omega),List.take_of_length_le (by omega)] at this
    exact this⟩,fun _=>trivial⟩
end Go.Proofs.YtcglkonooeddfaaGreatDoor
namespace Go.Proofs.YtcglkonooeddfaaGreatDoor
open Go Go.Vx
theorem Line.b_eq(x y:Line):x.b=y.b ↔ x.port=y.port/\(x.permit ↔ y.permit)/\x.mtch.l=y.mtch.l:=by
 simp[Line.b,eq_iff_iff]
theorem Slc.b_eq(x y:Slc):x.b=y.b ↔ x.name=y.name/\x.ports.l=y.ports.l/\x.whr.l=y.whr.l:=by
 simp[Slc.b]
set_option maxRecDepth 100000 in
set_option maxHeartbeats 4000000 in
theorem eqGuards_at(a b:List Line){ra sa rb sb:List (List D)}(ha:ra=a.map Line.row)(hb:rb=b.map Line.row):FSpec Tryz.prog T 206 [.lst 112 ra sa,.lst 112 rb sb] (fun d _=>d = .b (a.map Line.b=b.map Line.b)):=by
 subst ha hb
 refine FSpec.of_len Tryz.call206 0 rfl fun hlen=>?_
 have hal:(a.map Line.row).length=a.length:=by simp
 have hbl:(b.map Line.row).length=b.length:=by simp
 refine FSpec.of_ok tok Tryz.func206 rfl Tryz.call206 (by simp) ?_
 (try (conv=>whnf));repeat' (first|refine Ok.seq ?_|((first|refine Ok.region tok ?_|refine Ok.cond ?_);conv=>whnf)|refine Ok.block ?_|((first|refine Ok.skip ?_|refine Ok.ret ?_);conv=>whnf)|(refine bI ?_ ?_<;>intro<;>(conv=>whnf)<;>(try (exfalso;omega)))|fail)
 . rename_i h1
   refine Or.inl ?_;(conv=>whnf)
   exact b_eq ⟨fun h=>h.elim,fun h=>by have:=congrArg List.length h;simp at this;omega⟩
 refine Ok.loopU [0,1] [5] 0 0 (fun (k:Nat)=>[.i .i64 (k:Nat)]) (fun _ b=>b) (fun _ r=>r) (fun (k:Nat)=>k<=a.length/\(a.map Line.b).take k=(b.map Line.b).take k) (fun (k:Nat)=>a.length - k) (0) (⟨Nat.zero_le _,by simp⟩) ?_;(conv=>whnf);refine⟨by ((conv=>whnf);first|rfl|(simp[envCat, List.take_of_length_le, SI.row, Node.row, Pfx.row, Link.row, srow, Line.row, Rule.row, Box.row, Slc.row];done)|(simp[envCat, List.take_of_length_le, SI.row, Node.row, Pfx.row, Link.row, srow, Line.row, Rule.row, Box.row, Slc.row];rw[IntKind.wrap_i64];omega)),?_⟩
 rintro k ⟨hk,hf⟩
 by_cases hka:k<a.length
 . obtain⟨x,hx⟩:∃ x,a[k]? = some x:=⟨_,List.getElem?_eq_getElem hka⟩
   obtain⟨y,hy⟩:∃ x,b[k]? = some x:=⟨_,List.getElem?_eq_getElem (by omega)⟩
   have hxm:(a.map Line.b)[k]? = some x.b:=by simp[hx]
   have hym:(b.map Line.b)[k]? = some y.b:=by simp[hy]
   have hall:a.map Line.b=b.map Line.b->x.b=y.b:=fun h=>by rw[h,hym] at hxm;exact (Option.some.inj hxm).symm
   have hb:=Line.b_eq x y
   by_cases h1:x.port=y.port
   . by_cases h2:x.permit ↔ y.permit
     . by_cases h3:x.mtch.l=y.mtch.l
       . (try (conv=>whnf));repeat' (first|refine Ok.seq ?_|((first|refine Ok.region tok ?_|refine Ok.region_draw tok follows (by kernel_rfl) ?_|refine Ok.cond ?_);conv=>whnf)|refine Ok.block ?_|((first|refine Ok.skip ?_|refine Ok.ret ?_|refine nI ?_|refine ix _ (by assumption) ?_|refine⟨_,refNodes_at x.mtch.l y.mtch.l rfl rfl,rfl,?_⟩);conv=>whnf)|(refine bI ?_ ?_<;>intro<;>(conv=>whnf)<;>(try (exfalso;omega)))|fail)
         all_goals first
          | contradiction
          | (exfalso;simp_all;done)
          | (refine⟨k+1,by omega,⟨by omega,take_step hxm hym hf (hb.2 ⟨h1,h2,h3⟩)⟩,?_⟩;(conv=>whnf);(first|rfl|simp[envCat, List.take_of_length_le, SI.row, Node.row, Pfx.row, Link.row, srow, Line.row, Rule.row, Box.row, Slc.row]))
       . (try (conv=>whnf));repeat' (first|refine Ok.seq ?_|((first|refine Ok.region tok ?_|refine Ok.region_draw tok follows (by kernel_rfl) ?_|refine Ok.cond ?_);conv=>whnf)|refine Ok.block ?_|((first|refine Ok.skip ?_|refine Ok.ret ?_|refine nI ?_|refine ix _ (by assumption) ?_|refine⟨_,refNodes_at x.mtch.l y.mtch.l rfl rfl,rfl,?_⟩);conv=>whnf)|(refine bI ?_ ?_<;>intro<;>(conv=>whnf)<;>(try (exfalso;omega)))|fail)
         all_goals first
          | (refine Or.inl ?_;(conv=>whnf);exact b_eq ⟨fun h=>h.elim,fun h=>h3 (hb.1 (hall h)).2.2⟩)
          | (exfalso;simp_all;done)
     . (try (conv=>whnf));repeat' (first|refine Ok.seq ?_|((first|refine Ok.region tok ?_|refine Ok.region_draw tok follows (by kernel_rfl) ?_|refine Ok.cond ?_);conv=>whnf)|refine Ok.block ?_|((first|refine Ok.skip ?_|refine Ok.ret ?_|refine nI ?_|refine ix _ (by assumption) ?_|refine⟨_,refNodes_at x.mtch.l y.mtch.l rfl rfl,rfl,?_⟩);conv=>whnf)|(refine bI ?_ ?_<;>intro<;>(conv=>whnf)<;>(try (exfalso;omega)))|fail)
       all_goals first
        | (refine Or.inl ?_;(conv=>whnf);exact b_eq ⟨fun h=>h.elim,fun h=>h2 (hb.1 (hall h)).2.1⟩)
        | (exfalso;simp_all;done)
   . (try (conv=>whnf));repeat' (first|refine Ok.seq ?_|((first|refine Ok.region tok ?_|refine Ok.region_draw tok follows (by kernel_rfl) ?_|refine Ok.cond ?_);conv=>whnf)|refine Ok.block ?_|((first|refine Ok.skip ?_|refine Ok.ret ?_|refine nI ?_|refine ix _ (by assumption) ?_|refine⟨_,refNodes_at x.mtch.l y.mtch.l rfl rfl,rfl,?_⟩);conv=>whnf)|(refine bI ?_ ?_<;>intro<;>(conv=>whnf)<;>(try (exfalso;omega)))|fail)
     all_goals first
      | (refine Or.inl ?_;(conv=>whnf);exact b_eq ⟨fun h=>h.elim,fun h=>h1 (hb.1 (hall h)).1⟩)
      | (exfalso;simp_all;done)
 . obtain rfl:k=a.length:=by omega
   rw[List.take_of_length_le (by simp),List.take_of_length_le (by simp;omega)] at hf
   (try (conv=>whnf));repeat' (first|refine Ok.seq ?_|((first|refine Ok.region tok ?_|refine Ok.cond ?_|refine Ok.exit ?_|refine Ok.ret ?_);conv=>whnf)|(refine bI ?_ ?_<;>intro<;>(conv=>whnf)<;>(try (exfalso;omega)))|fail)
   refine Or.inl ?_;(conv=>whnf)
   exact b_eq ⟨fun _=>hf,fun _=>trivial⟩
def eqBoxP(p:Prop)(a b:BoxB):Prop:=a.name=b.name/\a.ins=b.ins/\a.outs=b.outs/\a.guards=b.guards/\eqL p (eqRuleP True) a.rules b.rules/\eqL p Eq a.owns b.owns/\eqL p Eq a.routes b.routes
set_option maxRecDepth 100000 in
set_option maxHeartbeats 4000000 in
theorem eqBox_at(p:Prop)(a b:Box):FSpec Tryz.prog T 158 [.agg a.row,.agg b.row,.b p] (fun d _=>d = .b (eqBoxP p a.b b.b)):=by
 refine FSpec.of_ok tok Tryz.func158 rfl Tryz.call158 (by simp) ?_
 (try (conv=>whnf));repeat' (first|refine Ok.seq ?_|((first|refine Ok.region tok ?_|refine Ok.cond ?_|refine Ok.skip ?_|refine Ok.ret ?_);conv=>whnf)|(refine Or.inl ?_;(conv=>whnf);(repeat (refine aI ?_;conv=>whnf));refine⟨_,eqNames_at a.ins.l b.ins.l rfl rfl,rfl,?_⟩;conv=>whnf)|(refine Or.inl ?_;(conv=>whnf);(repeat (refine aI ?_;conv=>whnf));refine⟨_,eqNames_at a.outs.l b.outs.l rfl rfl,rfl,?_⟩;conv=>whnf)|(refine Or.inl ?_;(conv=>whnf);(repeat (refine aI ?_;conv=>whnf));refine⟨_,eqGuards_at a.guards.l b.guards.l rfl rfl,rfl,?_⟩;conv=>whnf)|(refine Or.inl ?_;(conv=>whnf);(repeat (refine aI ?_;conv=>whnf));refine⟨_,eqRules_at p a.rules.l b.rules.l rfl rfl,rfl,?_⟩;conv=>whnf)|(refine Or.inl ?_;(conv=>whnf);(repeat (refine aI ?_;conv=>whnf));refine⟨_,eqPrefixes_at p a.owns.l b.owns.l rfl rfl,rfl,?_⟩;conv=>whnf)|(refine Or.inl ?_;(conv=>whnf);(repeat (refine aI ?_;conv=>whnf));refine⟨_,eqPrefixes_at p a.routes.l b.routes.l rfl rfl,rfl,?_⟩;conv=>whnf)|(refine bI ?_ ?_<;>intro<;>(conv=>whnf)<;>(try (exfalso;omega)))|fail)
 all_goals
  refine Or.inl ?_;(conv=>whnf)
 all_goals
  refine b_eq ?_
  simp_all[eqBoxP,Box.b]
set_option maxRecDepth 100000 in
theorem eqSlice_at(a b:Slc):FSpec Tryz.prog T 211 [.agg a.row,.agg b.row] (fun d _=>d = .b (a.b=b.b)):=by
 refine FSpec.of_ok tok Tryz.func211 rfl Tryz.call211 (by simp) ?_
 (try (conv=>whnf));repeat' (first|refine Ok.seq ?_|((first|refine Ok.region tok ?_|refine Ok.ret ?_);conv=>whnf)|(refine Or.inl ?_;(conv=>whnf);(repeat (refine aI ?_;conv=>whnf));refine⟨_,eqNames_at a.ports.l b.ports.l rfl rfl,rfl,?_⟩;conv=>whnf)|(refine Or.inl ?_;(conv=>whnf);(repeat (refine aI ?_;conv=>whnf));refine⟨_,refNodes_at a.whr.l b.whr.l rfl rfl,rfl,?_⟩;conv=>whnf)|(refine bI ?_ ?_<;>intro<;>(conv=>whnf)<;>(try (exfalso;omega)))|fail)
 all_goals
  refine Or.inl ?_;(conv=>whnf)
 all_goals
  refine b_eq ?_
  simp[Slc.b_eq, *]
set_option maxRecDepth 100000 in
theorem sliceCount_at(l:List Slc)(r:Slc){rl sl:List (List D)}(h:rl=l.map Slc.row):FSpec Tryz.prog T 210 [.lst 54 rl sl,.agg r.row] (fun d _=>d = .i .i64 (ccnt (fun y=>y=r.b) (l.map Slc.b):Nat)):=by
 subst h
 refine FSpec.of_len Tryz.call210 0 rfl fun hlen=>?_
 have hll:(l.map Slc.row).length=l.length:=by simp
 refine FSpec.of_ok tok Tryz.func210 rfl Tryz.call210 (by simp) ?_
 (try (conv=>whnf));repeat' (first|refine Ok.seq ?_|(refine Ok.region tok ?_;conv=>whnf)|refine Ok.block ?_|fail)
 refine Ok.loopU [0,3] [5,6] 0 1 (fun (k:Nat)=>[.i .i64 (ccnt (fun y=>y=r.b) ((l.map Slc.b).take k):Nat),.i .i64 (k:Nat)]) (fun _ b=>b) (fun _ r=>r) (fun (k:Nat)=>k<=l.length) (fun (k:Nat)=>l.length - k) (0) (Nat.zero_le _) ?_;(conv=>whnf);refine⟨by ((conv=>whnf);first|rfl|(simp[envCat, List.take_of_length_le, SI.row, Node.row, Pfx.row, Link.row, srow, Line.row, Rule.row, Box.row, Slc.row];done)|(simp[envCat, List.take_of_length_le, SI.row, Node.row, Pfx.row, Link.row, srow, Line.row, Rule.row, Box.row, Slc.row];rw[IntKind.wrap_i64];omega)),?_⟩
 rintro k hk
 have hc:=ccnt_le (fun y=>y=r.b) (l.map Slc.b) k
 by_cases hkl:k<l.length
 . obtain⟨x,hx⟩:∃ x,l[k]? = some x:=⟨_,List.getElem?_eq_getElem hkl⟩
   (try (conv=>whnf));repeat' (first|refine Ok.seq ?_|((first|refine Ok.region tok ?_|refine Ok.region_draw tok follows (by kernel_rfl) ?_|refine Ok.cond ?_);conv=>whnf)|refine Ok.block ?_|((first|refine Ok.skip ?_|refine nI ?_|refine ix _ (by assumption) ?_|refine⟨_,eqSlice_at x r,rfl,?_⟩);conv=>whnf)|(refine bI ?_ ?_<;>intro<;>(conv=>whnf)<;>(try (exfalso;omega)))|fail)
   . refine⟨k+1,by omega,by omega,?_⟩
     rw[cnt_pos (P:=(fun y=>y=r.b)) (show (l.map Slc.b)[k]? = some (Slc.b x) by simp[hx]) (by assumption)]
     (conv=>whnf);simp[envCat]
   . refine⟨k+1,by omega,by omega,?_⟩
     rw[cnt_neg (P:=(fun y=>y=r.b)) (show (l.map Slc.b)[k]? = some (Slc.b x) by simp[hx]) (by assumption)]
     (conv=>whnf);simp[envCat]
 . obtain rfl:k=l.length:=by omega
   have hml:(l.map Slc.b).take l.length=(l.map Slc.b):=List.take_of_length_le (by simp)
   rw[hml] at hc ⊢
   (conv=>whnf)
   (try (conv=>whnf));repeat' (first|refine Ok.seq ?_|((first|refine Ok.region tok ?_|refine Ok.cond ?_|refine Ok.exit ?_|refine Ok.ret ?_);conv=>whnf)|(refine bI ?_ ?_<;>intro<;>(conv=>whnf)<;>(try (exfalso;omega)))|fail)
   refine Or.inl ?_;(conv=>whnf)
   rfl
set_option maxRecDepth 100000 in
set_option maxHeartbeats 4000000 in
theorem eqSlices_at(p:Prop)(a b:List Slc){ra sa rb sb:List (List D)}(ha:ra=a.map Slc.row)(hb:rb=b.map Slc.row):FSpec Tryz.prog T 160 [.lst 54 ra sa,.lst 54 rb sb,.b p] (fun d _=>d = .b (eqL p Eq (a.map Slc.b) (b.map Slc.b))):=by
 subst ha hb
 refine FSpec.of_len Tryz.call160 0 rfl fun hlen=>?_
 have hal:(a.map Slc.row).length=a.length:=by simp
 have hbl:(b.map Slc.row).length=b.length:=by simp
 have hma:(a.map Slc.b).length=a.length:=by simp
 have hmb:(b.map Slc.b).length=b.length:=by simp
 refine FSpec.of_ok tok Tryz.func160 rfl Tryz.call160 (by simp) ?_
 (try (conv=>whnf));repeat' (first|refine Ok.seq ?_|((first|refine Ok.region tok ?_|refine Ok.cond ?_);conv=>whnf)|refine Ok.block ?_|((first|refine Ok.skip ?_|refine Ok.ret ?_);conv=>whnf)|(refine bI ?_ ?_<;>intro<;>(conv=>whnf)<;>(try (exfalso;omega)))|fail)
 . rename_i h1
   refine Or.inl ?_;(conv=>whnf)
   exact b_eq ⟨fun h=>h.elim,fun h=>by
    by_cases hp:p
    . have:=(h.1 hp).1;omega
    . have:=congrArg List.length (h.2 hp);omega⟩
 refine Ok.loopU [0,1,2] [7] 0 0 (fun (k:Nat)=>[.i .i64 (k:Nat)]) (fun _ b=>b) (fun _ r=>r) (fun (k:Nat)=>k<=a.length/\(p->∀ x ∈ (a.map Slc.b).take k,ccnt (fun y=>Eq y x) (a.map Slc.b)=ccnt (fun y=>Eq y x) (b.map Slc.b))/\(¬ p->(a.map Slc.b).take k=(b.map Slc.b).take k)) (fun (k:Nat)=>a.length - k) (0) (⟨Nat.zero_le _,by simp,by simp⟩) ?_;(conv=>whnf);refine⟨by ((conv=>whnf);first|rfl|(simp[envCat, List.take_of_length_le, SI.row, Node.row, Pfx.row, Link.row, srow, Line.row, Rule.row, Box.row, Slc.row];done)|(simp[envCat, List.take_of_length_le, SI.row, Node.row, Pfx.row, Link.row, srow, Line.row, Rule.row, Box.row, Slc.row];rw[IntKind.wrap_i64];omega)),?_⟩
 rintro k ⟨hk,ht,hf⟩
 by_cases hka:k<a.length
 . obtain⟨x,hx⟩:∃ x,a[k]? = some x:=⟨_,List.getElem?_eq_getElem hka⟩
   obtain⟨y,hy⟩:∃ x,b[k]? = some x:=⟨_,List.getElem?_eq_getElem (by omega)⟩
   have hxm:(a.map Slc.b)[k]? = some x.b:=by simp[hx]
   have hym:(b.map Slc.b)[k]? = some y.b:=by simp[hy]
   have htk:(a.map Slc.b).take (k+1)=(a.map Slc.b).take k++[x.b]:=by rw[List.take_add_one,hxm];rfl
   have hxx:x.b ∈ (a.map Slc.b):=List.mem_of_getElem? hxm
   by_cases hp:p
   . (try (conv=>whnf));repeat' (first|refine Ok.seq ?_|((first|refine Ok.region tok ?_|refine Ok.region_draw tok follows (by kernel_rfl) ?_|refine Ok.cond ?_);conv=>whnf)|refine Ok.block ?_|((first|refine Ok.skip ?_|refine Ok.ret ?_|refine nI ?_|refine ix _ (by assumption) ?_|refine⟨_,sliceCount_at _ _ rfl,rfl,?_⟩);conv=>whnf)|(refine bI ?_ ?_<;>intro<;>(conv=>whnf)<;>(try (exfalso;omega)))|fail)
     all_goals first
      | contradiction
      | (rename_i hne;refine Or.inl ?_;(conv=>whnf);exact b_eq ⟨fun h=>h.elim,fun h=>hne (by rw[(h.1 hp).2 x.b hxx])⟩)
      | (rename_i heq;refine⟨k+1,by omega,⟨by omega,fun _ z hz=>by
          rw[htk] at hz
          rcases List.mem_append.1 hz with hz|hz
          . exact ht hp z hz
          . simp at hz;subst hz;have:=Classical.not_not.1 heq;omega,fun h=>absurd hp h⟩,?_⟩;(conv=>whnf);(first|rfl|simp[envCat, List.take_of_length_le, SI.row, Node.row, Pfx.row, Link.row, srow, Line.row, Rule.row, Box.row, Slc.row]))
   . (try (conv=>whnf));repeat' (first|refine Ok.seq ?_|((first|refine Ok.region tok ?_|refine Ok.region_draw tok follows (by kernel_rfl) ?_|refine Ok.cond ?_);conv=>whnf)|refine Ok.block ?_|((first|refine Ok.skip ?_|refine Ok.ret ?_|refine nI ?_|refine ix _ (by assumption) ?_|refine⟨_,sliceCount_at _ _ rfl,rfl,?_⟩|refine⟨_,eqSlice_at x y,rfl,?_⟩);conv=>whnf)|(refine bI ?_ ?_<;>intro<;>(conv=>whnf)<;>(try (exfalso;omega)))|fail)
     all_goals first
      | contradiction
      | (rename_i hne;refine Or.inl ?_;(conv=>whnf);exact b_eq ⟨fun h=>h.elim,fun h=>hne (by have h2:=h.2 hp;rw[h2,hym] at hxm;exact (Option.some.inj hxm).symm)⟩)
      | (rename_i heq;refine⟨k+1,by omega,⟨by omega,fun h=>absurd h hp,fun h=>take_step hxm hym (hf hp) (Classical.not_not.1 heq)⟩,?_⟩;(conv=>whnf);(first|rfl|simp[envCat, List.take_of_length_le, SI.row, Node.row, Pfx.row, Link.row, srow, Line.row, Rule.row, Box.row, Slc.row]))
 . obtain rfl:k=a.length:=by omega
   (try (conv=>whnf));repeat' (first|refine Ok.seq ?_|((first|refine Ok.region tok ?_|refine Ok.cond ?_|refine Ok.exit ?_|refine Ok.ret ?_);conv=>whnf)|(refine bI ?_ ?_<;>intro<;>(conv=>whnf)<;>(try (exfalso;omega)))|fail)
   refine Or.inl ?_;(conv=>whnf)
   exact b_eq ⟨fun _=>⟨fun hp=>⟨by omega,fun x hx=>ht hp x (by rw[List.take_of_length_le (by omega)];exact hx)⟩,fun hp=>by
    have:=hf hp
    rw[List.take_of_length_le (by omega),List.take_of_length_le (by omega)] at this
    exact this⟩,fun _=>trivial⟩
end Go.Proofs.YtcglkonooeddfaaGreatDoor
namespace Go.Proofs.YtcglkonooeddfaaGreatDoor
open Go Go.Vx
def eqBoxesP(p:Prop)(u v:List BoxB):Prop:=u.length=v.length/\∀ (i:Nat) x y,u[i]? = some x->v[i]? = some y->eqBoxP p x y
def equalP(p:Prop)(a b:ConfigB):Prop:=a.title=b.title/\a.routing=b.routing/\(a.slim ↔ b.slim)/\a.fields=b.fields/\eqBoxesP p a.boxes b.boxes/\eqL p Eq a.links b.links/\eqL p Eq a.slices b.slices
end Go.Proofs.YtcglkonooeddfaaGreatDoor
