/- The walks and the plain laws that a law of networks needs, part 4 of 6. -/
import Derived.Test.YtcglkonooeddfaaGreatDoorQCC
import Derived.Shelf.SlSortFuncK.WholeK
import Derived.Shelf.GgSortFunc.Tiny
import Derived.Ground.GgsProg
import Derived.Deep.QuietTactic
import Derived.Lib.RowBridge
import Derived.Lib.SortBridge
set_option linter.unusedVariables false
set_option linter.unusedSimpArgs false
set_option maxRecDepth 100000
set_option maxHeartbeats 16000000
namespace Go.Proofs.YtcglkonooeddfaaGreatDoor
open Go Go.Vx
theorem text_at(t:Str)(ht:CT t):FSpec Tryz.prog T 111 [.agg (crow t)] (fun r _=>r = .s t):=by
 have hlen:=ht.len
 refine FSpec.of_ok tok Tryz.func111 rfl Tryz.call111 (by simp) ?_
 (try (conv=>whnf));repeat' (first|refine Ok.seq ?_|(refine Ok.region tok ?_;conv=>whnf)|refine Ok.block ?_|((first|refine⟨_,_,rfl,rfl,?_⟩|refine aJ ?_|refine⟨_,rfl,?_⟩);conv=>whnf)|fail)
 refine Ok.loopU [1,3,9] [10] 1 1 (fun (i:Nat)=>[.i .i64 (i:Nat)]) (fun (i:Nat) (_:List (List D))=>[crow t]) (fun (i:Nat) (_:Vx.Rows)=>[some (5,(t.take i++List.replicate (t.length - i) 0).map bcell)]) (fun (i:Nat)=>i<=t.length) (fun (i:Nat)=>t.length - i) (0) (Nat.zero_le _) ?_;(conv=>whnf);refine⟨by ((conv=>whnf);first|rfl|(simp[envCat,tkL0,cells9,bcell];done)|(simp[envCat,tkL0,cells9,bcell];rw[IntKind.wrap_i64];omega)),?_⟩
 rintro i hi
 have hll:(t.take i++List.replicate (t.length - i) (0:UInt8)).length=t.length:=by simp;omega
 have hlm:((t.take i++List.replicate (t.length - i) (0:UInt8)).map bcell).length=t.length:=by rw[lMp0,hll]
 (conv=>whnf)
 by_cases hit:i<t.length
 . obtain⟨b,hb⟩:∃ b,t[i]? = some b:=⟨_,gEt0 hit⟩
   obtain⟨q,r,hqr,hr,hq⟩:=split64 i (by omega)
   have hrem:=rem64 hqr hr
   have hquo:=quo64 hqr hr (by omega)
   have hrr:((r:Nat):Int)=((r:Nat):Int)/\r<64:=⟨rfl,hr⟩
   have hca:=at_word (f:=car t) hqr hr
   have hoa:=at_word (f:=one t) hqr hr
   rw[(at_b hb).1] at hca
   rw[(at_b hb).2] at hoa
   have hfa:=fill_at hit
   have hfs:=fill_set hb
   rcases ht.cub b (mOf0 hb) with rfl|rfl|rfl
   . have hc:=hca.2 rfl
     have ho:¬ _:=fun e=>absurd (hoa.1 e) (by decide)
     clear hca hoa
     rcases hq with rfl|rfl|rfl|rfl
     all_goals
      (try (conv=>whnf));repeat' (first|refine Ok.seq ?_|((first|refine Ok.region tok ?_|refine Ok.cond ?_);conv=>whnf)|refine Ok.block ?_|(refine Ok.skip ?_;conv=>whnf)|(refine bI ?_ ?_<;>intro<;>(conv=>whnf)<;>(try (exfalso;omega)))|fail)
      refine Or.inr (Or.inr (Or.inl ?_));(conv=>whnf);refine⟨_,_,Tryz.func167,rfl,Tryz.call167,?_⟩;(conv=>whnf)
      (try (conv=>whnf));repeat' (first|((with_reducible_and_instances (first|refine nShr (by assumption) ?_|refine nAnd1' rfl ?_));conv=>whnf)|refine Ok.seq ?_|((first|refine Ok.region tok ?_|refine⟨_,(hquo.symm).symm,?_⟩|refine⟨_,(hrem.symm).symm,?_⟩|refine Ok.cond ?_|refine Ok.ret ?_);conv=>whnf)|(refine bI ?_ ?_<;>intro<;>(conv=>whnf)<;>(try (exfalso;omega)))|((first|refine aJ ?_|refine⟨_,rfl,?_⟩);conv=>whnf)|fail)
      refine Or.inr (Or.inr (Or.inl ?_));(conv=>whnf);refine⟨_,_,Tryz.func167,rfl,Tryz.call167,?_⟩;(conv=>whnf)
      (try (conv=>whnf));repeat' (first|((with_reducible_and_instances (first|refine nShr (by assumption) ?_|refine nAnd1' rfl ?_));conv=>whnf)|refine Ok.seq ?_|((first|refine Ok.region tok ?_|refine⟨_,(hquo.symm).symm,?_⟩|refine⟨_,(hrem.symm).symm,?_⟩|refine Ok.cond ?_|refine Ok.ret ?_);conv=>whnf)|(refine bI ?_ ?_<;>intro<;>(conv=>whnf)<;>(try (exfalso;omega)))|((first|refine aJ ?_|refine⟨_,rfl,?_⟩);conv=>whnf)|fail)
      refine st 48 hfa (by simp[bcell]) (by simp[setCells,bcell]) ?_
      (try (conv=>whnf));repeat' (first|((first|refine Ok.region tok ?_|refine nI ?_);conv=>whnf)|fail)
      refine⟨i+1,by omega,by omega,?_⟩
      (conv=>whnf)
      simp only[toNat_cast,hfs,envCat]
      rfl
   . have hc:=hca.2 rfl
     have ho:=hoa.2 rfl
     clear hca hoa
     rcases hq with rfl|rfl|rfl|rfl
     all_goals
      (try (conv=>whnf));repeat' (first|refine Ok.seq ?_|((first|refine Ok.region tok ?_|refine Ok.cond ?_);conv=>whnf)|refine Ok.block ?_|(refine Ok.skip ?_;conv=>whnf)|(refine bI ?_ ?_<;>intro<;>(conv=>whnf)<;>(try (exfalso;omega)))|fail)
      refine Or.inr (Or.inr (Or.inl ?_));(conv=>whnf);refine⟨_,_,Tryz.func167,rfl,Tryz.call167,?_⟩;(conv=>whnf)
      (try (conv=>whnf));repeat' (first|((with_reducible_and_instances (first|refine nShr (by assumption) ?_|refine nAnd1' rfl ?_));conv=>whnf)|refine Ok.seq ?_|((first|refine Ok.region tok ?_|refine⟨_,(hquo.symm).symm,?_⟩|refine⟨_,(hrem.symm).symm,?_⟩|refine Ok.cond ?_|refine Ok.ret ?_);conv=>whnf)|(refine bI ?_ ?_<;>intro<;>(conv=>whnf)<;>(try (exfalso;omega)))|((first|refine aJ ?_|refine⟨_,rfl,?_⟩);conv=>whnf)|fail)
      refine Or.inr (Or.inr (Or.inl ?_));(conv=>whnf);refine⟨_,_,Tryz.func167,rfl,Tryz.call167,?_⟩;(conv=>whnf)
      (try (conv=>whnf));repeat' (first|((with_reducible_and_instances (first|refine nShr (by assumption) ?_|refine nAnd1' rfl ?_));conv=>whnf)|refine Ok.seq ?_|((first|refine Ok.region tok ?_|refine⟨_,(hquo.symm).symm,?_⟩|refine⟨_,(hrem.symm).symm,?_⟩|refine Ok.cond ?_|refine Ok.ret ?_);conv=>whnf)|(refine bI ?_ ?_<;>intro<;>(conv=>whnf)<;>(try (exfalso;omega)))|((first|refine aJ ?_|refine⟨_,rfl,?_⟩);conv=>whnf)|fail)
      refine st 49 hfa (by simp[bcell]) (by simp[setCells,bcell]) ?_
      (try (conv=>whnf));repeat' (first|((first|refine Ok.region tok ?_|refine nI ?_);conv=>whnf)|fail)
      refine⟨i+1,by omega,by omega,?_⟩
      (conv=>whnf)
      simp only[toNat_cast,hfs,envCat]
      rfl
   . have hc:¬ _:=fun e=>absurd (hca.1 e) (by decide)
     clear hca hoa
     rcases hq with rfl|rfl|rfl|rfl
     all_goals
      (try (conv=>whnf));repeat' (first|refine Ok.seq ?_|((first|refine Ok.region tok ?_|refine Ok.cond ?_);conv=>whnf)|refine Ok.block ?_|(refine Ok.skip ?_;conv=>whnf)|(refine bI ?_ ?_<;>intro<;>(conv=>whnf)<;>(try (exfalso;omega)))|fail)
      refine Or.inr (Or.inr (Or.inl ?_));(conv=>whnf);refine⟨_,_,Tryz.func167,rfl,Tryz.call167,?_⟩;(conv=>whnf)
      (try (conv=>whnf));repeat' (first|((with_reducible_and_instances (first|refine nShr (by assumption) ?_|refine nAnd1' rfl ?_));conv=>whnf)|refine Ok.seq ?_|((first|refine Ok.region tok ?_|refine⟨_,(hquo.symm).symm,?_⟩|refine⟨_,(hrem.symm).symm,?_⟩|refine Ok.cond ?_|refine Ok.ret ?_);conv=>whnf)|(refine bI ?_ ?_<;>intro<;>(conv=>whnf)<;>(try (exfalso;omega)))|((first|refine aJ ?_|refine⟨_,rfl,?_⟩);conv=>whnf)|fail)
      refine st 120 hfa (by simp[bcell]) (by simp[setCells,bcell]) ?_
      (try (conv=>whnf));repeat' (first|((first|refine Ok.region tok ?_|refine nI ?_);conv=>whnf)|fail)
      refine⟨i+1,by omega,by omega,?_⟩
      (conv=>whnf)
      simp only[toNat_cast,hfs,envCat]
      rfl
 . have he:i=t.length:=by omega
   subst he
   rw[List.take_length,Nat.sub_self,List.replicate_zero,List.append_nil] at *
   (try (conv=>whnf));repeat' (first|refine Ok.seq ?_|((first|refine Ok.region tok ?_|refine Ok.cond ?_|refine Ok.exit ?_);conv=>whnf)|(refine bI ?_ ?_<;>intro<;>(conv=>whnf)<;>(try (exfalso;omega)))|(refine aJ ?_;conv=>whnf)|fail)
   refine⟨t,take_all bcell t,?_⟩
   (try (conv=>whnf));repeat' (first|(refine Ok.ret ?_;conv=>whnf)|fail)
   refine Or.inl ?_;(conv=>whnf)
   rfl
end Go.Proofs.YtcglkonooeddfaaGreatDoor
namespace Go.Proofs.YtcglkonooeddfaaGreatDoor
open Go Go.Vx
def CN(c:Str):Prop:=CT c/\c ≠ []
theorem within2_at(c d:Str)(hc:CT c)(hd:CT d):FSpec Tryz.prog T 110 [.agg (crow c),.agg (crow d)] (fun r _=>r = .b (inT c d)):=by
 refine FSpec.of_ok tok Tryz.func110 rfl Tryz.call110 (by simp) ?_
 (try (conv=>whnf));repeat' (first|refine Ok.seq ?_|((first|refine Ok.region tok ?_|refine Ok.ret ?_);conv=>whnf)|(refine Or.inl ?_;(conv=>whnf);(repeat (refine aI ?_;conv=>whnf));refine⟨_,within_at c d hc hd,rfl,?_⟩;conv=>whnf)|fail)
 all_goals
  refine Or.inl ?_;(conv=>whnf)
  rfl
theorem withinC_at{c d:Str}(hc:CN c)(hd:CN d):FSpec Tryz.prog T 110 [.agg (crow c),.agg (crow d)] (fun r _=>r = .b (inL c d)):=by
 have:=within2_at c d hc.1 hd.1
 rwa [show inT c d=inL c d from propext ⟨fun h=>h.2,fun h=>⟨hc.2,h⟩⟩] at this
theorem greatestC_at(l:List Str){rl room:List (List D)}(hl:l.length<=1048576)(hok:∀ x ∈ l,CN x)(h:rl=l.map crow):FSpec Tryz.prog T 109 [.lst 138 rl room,.fn 110 [] []]
    (fun d rows=>∃ W:List Str,Kept inL l l.length W/\d = .own 0 (grG inL l).length/\rows=[some (138,W.map crow)]):=by
 subst h
 have hll:(l.map crow).length=l.length:=by simp
 refine FSpec.of_ok tok Tryz.func109 rfl Tryz.call109 (by simp) ?_
 (try (conv=>whnf));repeat' (first|refine Ok.seq ?_|(refine Ok.region tok ?_;conv=>whnf)|refine Ok.block ?_|(refine Ok.scope ?_)|(refine Ok.label ?_;conv=>whnf)|fail)
 refine Ok.ghost 5 138 rfl ?_
 (conv=>whnf)
 refine Ok.loopU [1,13,14] [5,15] 1 0 (fun (x:Nat × List Str)=>[.own 0 (grG inL (l.take x.1)).length,.i .i64 (x.1:Nat)]) (fun _ b=>b) (fun (x:Nat × List Str) (_:Vx.Rows)=>[some (138,x.2.map crow)]) (fun (x:Nat × List Str)=>Kept inL l x.1 x.2) (fun (x:Nat × List Str)=>l.length - x.1) ((0,[])) (Kept.zero) ?_;(conv=>whnf);refine⟨by ((conv=>whnf);first|rfl|(simp[envCat,tkL0,cells9];done)|(simp[envCat,tkL0,cells9];rw[IntKind.wrap_i64];omega)),?_⟩
 rintro⟨i,W⟩ hK
 dsimp only at hK ⊢
 have hWl:(W.map crow).length=W.length:=by simp
 have hKn:=hK.n
 have hKw:=hK.w
 have hKi:=hK.le
 (conv=>whnf)
 by_cases hil:i<l.length
 . obtain⟨x,hx⟩:∃ x,l[i]? = some x:=⟨_,gEt0 hil⟩
   have hxo:=hok x (mOf0 hx)
   have hmem:∀ y ∈ grG inL (l.take i),CN y:=fun y hy=>hok y (List.take_subset _ _ (grG_sub inL _ y hy))
   (try (conv=>whnf));repeat' (first|refine Ok.seq ?_|((first|refine Ok.region tok ?_|refine Ok.cond ?_);conv=>whnf)|refine Ok.block ?_|((first|refine Ok.skip ?_|refine ix _ (by assumption) ?_);conv=>whnf)|(refine bI ?_ ?_<;>intro<;>(conv=>whnf)<;>(try (exfalso;omega)))|fail)
   generalize hKK:grG inL (l.take i)=K at *
   refine Ok.loopU [1,5,7,13,14,15,19,20] [21] 1 1 (fun (j:Nat)=>[.i .i64 (j:Nat)]) (fun _ b=>b) (fun _ r=>r) (fun (j:Nat)=>j<=K.length/\∀ y ∈ K.take j,¬ inL x y) (fun (j:Nat)=>K.length - j) (0) (⟨Nat.zero_le _,by simp⟩) ?_;(conv=>whnf);refine⟨by ((conv=>whnf);first|rfl|(simp[envCat,tkL0,cells9];done)|(simp[envCat,tkL0,cells9];rw[IntKind.wrap_i64];omega)),?_⟩
   rintro j ⟨hj,hno⟩
   (conv=>whnf)
   by_cases hjl:j<K.length
   . obtain⟨y,hy⟩:∃ y,K[j]? = some y:=⟨_,gEt0 hjl⟩
     have hyo:=hmem y (mOf0 hy)
     have hWj:W[((j:Nat):Int).toNat]? = some y:=by
      have:=hK.get (j:=j) (by rw[hKK];exact hjl)
      rw[hKK,hy] at this
      exact this
     (try (conv=>whnf));repeat' (first|refine Ok.seq ?_|((first|refine Ok.region tok ?_|refine Ok.cond ?_);conv=>whnf)|refine Ok.block ?_|((first|refine Ok.skip ?_|refine Ok.exit ?_|refine nI ?_);conv=>whnf)|(refine Or.inl ?_;(conv=>whnf);(repeat (refine aI ?_;conv=>whnf));refine⟨_,withinC_at hxo hyo,rfl,?_⟩;conv=>whnf)|(refine rd rfl (by assumption) ?_;conv=>whnf)|(refine bI ?_ ?_<;>intro<;>(conv=>whnf)<;>(try (exfalso;omega)))|(refine aJ ?_;conv=>whnf)|fail)
     . rename_i hxy
       have hin:∃ y ∈ grG inL (l.take i),inL x y:=⟨y,by rw[hKK];exact mOf0 hy,hxy⟩
       obtain⟨hs,he⟩:=hK.skip hx hin
       refine⟨(i+1,W),by dsimp only;omega,hs,?_⟩
       dsimp only
       rw[he,hKK]
       (conv=>whnf)
       rfl
     . rename_i hxy
       refine⟨j+1,by omega,⟨by omega,fun z hz=>?_⟩,?_⟩
       . rw[List.take_add_one,hy] at hz
         rcases mAp0.1 hz with hz|hz
         . exact hno z hz
         . simp at hz;rw[hz];exact hxy
       . (conv=>whnf)
         rfl
   . have hje:j=K.length:=by omega
     subst hje
     rw[List.take_length] at hno
     (try (conv=>whnf));repeat' (first|refine Ok.seq ?_|((first|refine Ok.region tok ?_|refine Ok.cond ?_|refine Ok.exit ?_);conv=>whnf)|(refine bI ?_ ?_<;>intro<;>(conv=>whnf)<;>(try (exfalso;omega)))|fail)
     refine⟨0,rfl,rfl,by omega,?_⟩
     (try (conv=>whnf));repeat' (first|refine Ok.seq ?_|(refine Ok.region tok ?_;conv=>whnf)|refine Ok.block ?_|fail)
     refine Ok.loopU [1,7,13,14,15,32,33] [10,34] 1 1 (fun (z:Nat × List Str)=>[.own 0 (leftOf inL K x z.1).length,.i .i64 (z.1:Nat)]) (fun _ b=>b) (fun (z:Nat × List Str) (_:Vx.Rows)=>[some (138,z.2.map crow)]) (fun (z:Nat × List Str)=>Mid inL K x W z.1 z.2) (fun (z:Nat × List Str)=>K.length - z.1) ((0,W)) (Mid.zero) ?_;(conv=>whnf);refine⟨by ((conv=>whnf);first|rfl|(simp[envCat,tkL0,cells9];done)|(simp[envCat,tkL0,cells9];rw[IntKind.wrap_i64];omega)),?_⟩
     rintro⟨k,W'⟩ hM
     dsimp only at hM ⊢
     have hMk:=hM.le
     have hMl:=hM.len
     have hWl':(W'.map crow).length=W'.length:=by simp
     have hkept:W.take K.length=K:=by
      have:=hK.tk
      rw[hKK] at this
      exact this
     (conv=>whnf)
     by_cases hkl:k<K.length
     . obtain⟨y,hy⟩:∃ y,K[k]? = some y:=⟨_,gEt0 hkl⟩
       have hyo:=hmem y (mOf0 hy)
       have hWj:W'[((k:Nat):Int).toNat]? = some y:=by
        rw[toNat_cast,hM.get hkept hkl,hy]
       by_cases hyx:inL y x
       . obtain⟨hd,he⟩:=hM.drop hy hyx
         (try (conv=>whnf));repeat' (first|refine Ok.seq ?_|((first|refine Ok.region tok ?_|refine Ok.cond ?_);conv=>whnf)|refine Ok.block ?_|((first|refine Ok.skip ?_|refine nI ?_);conv=>whnf)|(refine Or.inl ?_;(conv=>whnf);(repeat (refine aI ?_;conv=>whnf));refine⟨_,withinC_at hyo hxo,rfl,?_⟩;conv=>whnf)|(refine rd rfl (by assumption) ?_;conv=>whnf)|(refine bI ?_ ?_<;>intro<;>(conv=>whnf)<;>(try (exfalso;omega)))|(refine aJ ?_;conv=>whnf)|fail)
         . exact absurd hyx (by assumption)
         . refine⟨(k+1,W'),by dsimp only;omega,hd,?_⟩
           dsimp only
           rw[he]
           (conv=>whnf)
           rfl
       . obtain⟨hd,he,hlt⟩:=hM.keep hKn hy hyx
         have hlt2:(leftOf inL K x k).length<(W'.map crow).length:=by omega
         have hnle:¬ (leftOf inL K x k).length=(W'.map crow).length:=by omega
         (try (conv=>whnf));repeat' (first|refine Ok.seq ?_|((first|refine Ok.region tok ?_|refine Ok.cond ?_);conv=>whnf)|refine Ok.block ?_|((first|refine Ok.skip ?_|refine nI ?_);conv=>whnf)|(refine Or.inl ?_;(conv=>whnf);(repeat (refine aI ?_;conv=>whnf));refine⟨_,withinC_at hyo hxo,rfl,?_⟩;conv=>whnf)|((first|refine Alt2.r (aI ?_)|refine rd rfl (by assumption) ?_|refine⟨_,.inl ⟨rfl,rfl⟩,?_⟩|refine⟨_,_,rfl,rfl,?_⟩);conv=>whnf)|(refine bI ?_ ?_<;>intro<;>(conv=>whnf)<;>(try (exfalso;omega)))|((first|refine aJ ?_|refine⟨_,rfl,?_⟩);conv=>whnf)|fail)
         . refine⟨(k+1,W'.set (leftOf inL K x k).length y),by dsimp only;omega,hd,?_⟩
           dsimp only
           rw[he,List.length_append,List.map_set]
           (conv=>whnf)
           rfl
         . rename_i hh
           exact absurd hyx hh
     . have hke:k=K.length:=by omega
       subst hke
       obtain⟨se,sl,sg⟩:=hK.step hx (by rw[hKK];exact hno) (by rw[hKK];exact hM)
       rw[hKK] at se sl sg
       by_cases hm:(leftOf inL K x K.length).length=W'.length
       . have hm2:(leftOf inL K x K.length).length=(W'.map crow).length:=by omega
         (try (conv=>whnf));repeat' (first|refine Ok.seq ?_|((first|refine Ok.region tok ?_|refine Ok.cond ?_|refine Ok.exit ?_|refine nI ?_|refine Alt2.l (aI ?_)|refine⟨_,.inl ⟨rfl,rfl⟩,?_⟩|refine⟨_,_,rfl,rfl,?_⟩);conv=>whnf)|(refine bI ?_ ?_<;>intro<;>(conv=>whnf)<;>(try (exfalso;omega)))|(refine aJ ?_;conv=>whnf)|fail)
         refine⟨(i+1,W'++[x]),by dsimp only;omega,sg hm,?_⟩
         dsimp only
         rw[se,List.map_append]
         (conv=>whnf)
         simp[envCat,hm]
       . have hle2:=hM.tk
         have hlt:(leftOf inL K x K.length).length<W'.length:=by
          have:=congrArg List.length hM.tk
          rw[List.length_take] at this
          omega
         have hlt2:(leftOf inL K x K.length).length<(W'.map crow).length:=by omega
         (try (conv=>whnf));repeat' (first|refine Ok.seq ?_|((first|refine Ok.region tok ?_|refine Ok.cond ?_|refine Ok.exit ?_|refine nI ?_|refine Alt2.r (aI ?_)|refine⟨_,.inl ⟨rfl,rfl⟩,?_⟩|refine⟨_,_,rfl,rfl,?_⟩);conv=>whnf)|(refine bI ?_ ?_<;>intro<;>(conv=>whnf)<;>(try (exfalso;omega)))|((first|refine aJ ?_|refine⟨_,rfl,?_⟩);conv=>whnf)|fail)
         refine⟨(i+1,W'.set (leftOf inL K x K.length).length x),by dsimp only;omega,sl hlt,?_⟩
         dsimp only
         rw[se,List.length_append,List.map_set]
         (conv=>whnf)
         rfl
 . have hie:i=l.length:=by omega
   subst hie
   rw[List.take_length] at *
   (try (conv=>whnf));repeat' (first|refine Ok.seq ?_|((first|refine Ok.region tok ?_|refine Ok.cond ?_|refine Ok.exit ?_|refine Ok.ret ?_);conv=>whnf)|(refine bI ?_ ?_<;>intro<;>(conv=>whnf)<;>(try (exfalso;omega)))|fail)
   refine Or.inr (Or.inl ?_);(conv=>whnf)
   exact⟨W,hK,rfl,rfl⟩
structure TR where
 t:Term
 room:List (List D)
@[reducible] def trow(x:TR):List D:=[.i .i64 (x.t.p.length:Int),.i .u64 ((wof (car x.t.p) 0).toNat:Int),.i .u64 ((wof (car x.t.p) 1).toNat:Int),.i .u64 ((wof (car x.t.p) 2).toNat:Int),.i .u64 ((wof (car x.t.p) 3).toNat:Int),.i .u64 ((wof (one x.t.p) 0).toNat:Int),.i .u64 ((wof (one x.t.p) 1).toNat:Int),.i .u64 ((wof (one x.t.p) 2).toNat:Int),.i .u64 ((wof (one x.t.p) 3).toNat:Int),.lst 138 (x.t.less.map crow) x.room,.s x.t.key]
structure TN(x:TR):Prop where
 p:CN x.t.p
 less:∀ m ∈ x.t.less,CN m
 n:x.t.less.length<=1048576
def covR(a b:TR):Prop:=covT a.t b.t
theorem covered_at{a b:TR}(ha:TN a)(hb:TN b):FSpec Tryz.prog T 115 [.agg (trow a),.agg (trow b)] (fun r _=>r = .b (covR a b)):=by
 refine FSpec.of_ok tok Tryz.func115 rfl Tryz.call115 (by simp) ?_
 (try (conv=>whnf));repeat' (first|refine Ok.seq ?_|((first|refine Ok.region tok ?_|refine Ok.cond ?_);conv=>whnf)|refine Ok.block ?_|((first|refine Ok.skip ?_|refine Ok.ret ?_);conv=>whnf)|(refine Or.inl ?_;(conv=>whnf);(repeat (refine aI ?_;conv=>whnf));refine⟨_,within_at a.t.p b.t.p ha.p.1 hb.p.1,rfl,?_⟩;conv=>whnf)|(refine Ok.scope ?_)|(refine Ok.label ?_;conv=>whnf)|(refine bI ?_ ?_<;>intro<;>(conv=>whnf)<;>(try (exfalso;omega)))|fail)
 . rename_i h
   refine Or.inl ?_;(conv=>whnf)
   show D.b False=_
   exact congrArg D.b (propext ⟨fun h=>h.elim,fun h2=>h h2.1⟩)
 . rename_i h
   have hin:inT a.t.p b.t.p:=Classical.not_not.1 h
   have hbn:=hb.n
   have han:=ha.n
   have hbl:(b.t.less.map crow).length=b.t.less.length:=by simp
   have hal:(a.t.less.map crow).length=a.t.less.length:=by simp
   refine Ok.loopU [2,18,19] [20] 0 2 (fun (i:Nat)=>[.i .i64 (i:Nat)]) (fun _ b=>b) (fun _ r=>r) (fun (i:Nat)=>i<=b.t.less.length/\∀ m ∈ b.t.less.take i,∀ c,meetT m a.t.p=some c->∃ n ∈ a.t.less,inT c n) (fun (i:Nat)=>b.t.less.length - i) (0) (⟨Nat.zero_le _,by simp⟩) ?_;(conv=>whnf);refine⟨by ((conv=>whnf);first|rfl|(simp[envCat,tkL0,cells9];done)|(simp[envCat,tkL0,cells9];rw[IntKind.wrap_i64];omega)),?_⟩
   rintro i ⟨hi,hall⟩
   (conv=>whnf)
   by_cases hil:i<b.t.less.length
   . obtain⟨m,hm⟩:∃ m,b.t.less[i]? = some m:=⟨_,gEt0 hil⟩
     have hmo:=hb.less m (mOf0 hm)
     have step:(∀ c,meetT m a.t.p=some c->∃ n ∈ a.t.less,inT c n)->∀ z ∈ b.t.less.take (i+1),∀ c,meetT z a.t.p=some c->∃ n ∈ a.t.less,inT c n:=fun h z hz=>by
      rw[List.take_add_one,hm] at hz
      rcases mAp0.1 hz with hz|hz
      . exact hall z hz
      . simp at hz;rw[hz];exact h
     cases hmt:meetT m a.t.p with
     | none=>
      have hsp:=meet_at m a.t.p hmo.1 ha.p.1
      rw[hmt] at hsp
      (try (conv=>whnf));repeat' (first|refine Ok.seq ?_|((first|refine Ok.region tok ?_|refine Ok.cond ?_);conv=>whnf)|refine Ok.block ?_|((first|refine Ok.skip ?_|refine Ok.exit ?_|refine nI ?_|refine ix _ (by assumption) ?_);conv=>whnf)|(refine Or.inr (Or.inl ?_);(conv=>whnf);(repeat (refine aI ?_;conv=>whnf));refine⟨_,hsp,?_⟩;rintro _ _ ⟨rfl,rfl⟩;conv=>whnf)|(refine bI ?_ ?_<;>intro<;>(conv=>whnf)<;>(try (exfalso;omega)))|fail)
      . refine⟨i+1,by omega,⟨by omega,step fun c hc=>by rw[hmt] at hc;cases hc⟩,?_⟩
        (conv=>whnf)
        rfl
      . rename_i h2
        exact absurd (by simp) h2
     | some c=>
      have hsp:=meet_at m a.t.p hmo.1 ha.p.1
      have hcc:=meetT_ct hmt hmo.1 ha.p.1
      rw[hmt] at hsp
      (try (conv=>whnf));repeat' (first|refine Ok.seq ?_|((first|refine Ok.region tok ?_|refine Ok.cond ?_);conv=>whnf)|refine Ok.block ?_|((first|refine Ok.skip ?_|refine Ok.exit ?_|refine nI ?_|refine ix _ (by assumption) ?_);conv=>whnf)|(refine Or.inr (Or.inl ?_);(conv=>whnf);(repeat (refine aI ?_;conv=>whnf));refine⟨_,hsp,?_⟩;rintro _ _ ⟨rfl,rfl⟩;conv=>whnf)|(refine bI ?_ ?_<;>intro<;>(conv=>whnf)<;>(try (exfalso;omega)))|fail)
      . rename_i h2
        exact absurd rfl h2
      . refine Ok.loopU [2,7,18,19,20,34,35] [36] 0 4 (fun (j:Nat)=>[.i .i64 (j:Nat)]) (fun _ b=>b) (fun _ r=>r) (fun (j:Nat)=>j<=a.t.less.length/\∀ n ∈ a.t.less.take j,¬ inT c n) (fun (j:Nat)=>a.t.less.length - j) (0) (⟨Nat.zero_le _,by simp⟩) ?_;(conv=>whnf);refine⟨by ((conv=>whnf);first|rfl|(simp[envCat,tkL0,cells9];done)|(simp[envCat,tkL0,cells9];rw[IntKind.wrap_i64];omega)),?_⟩
        rintro j ⟨hj,hno⟩
        (conv=>whnf)
        by_cases hjl:j<a.t.less.length
        . obtain⟨n,hn⟩:∃ n,a.t.less[j]? = some n:=⟨_,gEt0 hjl⟩
          have hno':=ha.less n (mOf0 hn)
          (try (conv=>whnf));repeat' (first|refine Ok.seq ?_|((first|refine Ok.region tok ?_|refine Ok.cond ?_);conv=>whnf)|refine Ok.block ?_|((first|refine Ok.skip ?_|refine Ok.exit ?_|refine nI ?_|refine ix _ (by assumption) ?_);conv=>whnf)|(refine Or.inl ?_;(conv=>whnf);(repeat (refine aI ?_;conv=>whnf));refine⟨_,within_at c n hcc.1 hno'.1,rfl,?_⟩;conv=>whnf)|(refine bI ?_ ?_<;>intro<;>(conv=>whnf)<;>(try (exfalso;omega)))|fail)
          . rename_i hcn
            refine⟨i+1,by omega,⟨by omega,step fun c' hc'=>?_⟩,?_⟩
            . rw[hmt] at hc'
              cases hc'
              exact⟨n,mOf0 hn,hcn⟩
            . (conv=>whnf)
              rfl
          . rename_i hcn
            refine⟨j+1,by omega,⟨by omega,fun z hz=>?_⟩,?_⟩
            . rw[List.take_add_one,hn] at hz
              rcases mAp0.1 hz with hz|hz
              . exact hno z hz
              . simp at hz;rw[hz];exact hcn
            . (conv=>whnf)
              rfl
        . have hje:j=a.t.less.length:=by omega
          subst hje
          rw[List.take_length] at hno
          (try (conv=>whnf));repeat' (first|refine Ok.seq ?_|((first|refine Ok.region tok ?_|refine Ok.cond ?_|refine Ok.exit ?_|refine Ok.ret ?_);conv=>whnf)|(refine bI ?_ ?_<;>intro<;>(conv=>whnf)<;>(try (exfalso;omega)))|fail)
          refine Or.inl ?_;(conv=>whnf)
          show D.b False=_
          refine congrArg D.b (propext ⟨fun h=>h.elim,fun h2=>?_⟩)
          obtain⟨n,hn,hcn⟩:=h2.2 m (mOf0 hm) c hmt
          exact hno n hn hcn
   . have hie:i=b.t.less.length:=by omega
     subst hie
     rw[List.take_length] at hall
     (try (conv=>whnf));repeat' (first|refine Ok.seq ?_|((first|refine Ok.region tok ?_|refine Ok.cond ?_|refine Ok.exit ?_|refine Ok.ret ?_);conv=>whnf)|(refine bI ?_ ?_<;>intro<;>(conv=>whnf)<;>(try (exfalso;omega)))|fail)
     refine Or.inl ?_;(conv=>whnf)
     show D.b True=_
     exact congrArg D.b (propext ⟨fun _=>⟨hin,hall⟩,fun _=>trivial⟩)
theorem greatestT_at(l:List TR){rl room:List (List D)}(hl:l.length<=1048576)(hok:∀ x ∈ l,TN x)(h:rl=l.map trow):FSpec Tryz.prog T 114 [.lst 142 rl room,.fn 115 [] []]
    (fun d rows=>∃ W:List TR,Kept covR l l.length W/\d = .own 0 (grG covR l).length/\rows=[some (142,W.map trow)]):=by
 subst h
 have hll:(l.map trow).length=l.length:=by simp
 refine FSpec.of_ok tok Tryz.func114 rfl Tryz.call114 (by simp) ?_
 (try (conv=>whnf));repeat' (first|refine Ok.seq ?_|(refine Ok.region tok ?_;conv=>whnf)|refine Ok.block ?_|(refine Ok.scope ?_)|(refine Ok.label ?_;conv=>whnf)|fail)
 refine Ok.ghost 5 142 rfl ?_
 (conv=>whnf)
 refine Ok.loopU [1,13,14] [5,15] 1 0 (fun (x:Nat × List TR)=>[.own 0 (grG covR (l.take x.1)).length,.i .i64 (x.1:Nat)]) (fun _ b=>b) (fun (x:Nat × List TR) (_:Vx.Rows)=>[some (142,x.2.map trow)]) (fun (x:Nat × List TR)=>Kept covR l x.1 x.2) (fun (x:Nat × List TR)=>l.length - x.1) ((0,[])) (Kept.zero) ?_;(conv=>whnf);refine⟨by ((conv=>whnf);first|rfl|(simp[envCat,tkL0,cells9];done)|(simp[envCat,tkL0,cells9];rw[IntKind.wrap_i64];omega)),?_⟩
 rintro⟨i,W⟩ hK
 dsimp only at hK ⊢
 have hWl:(W.map trow).length=W.length:=by simp
 have hKn:=hK.n
 have hKw:=hK.w
 have hKi:=hK.le
 (conv=>whnf)
 by_cases hil:i<l.length
 . obtain⟨x,hx⟩:∃ x,l[i]? = some x:=⟨_,gEt0 hil⟩
   have hxo:=hok x (mOf0 hx)
   have hmem:∀ y ∈ grG covR (l.take i),TN y:=fun y hy=>hok y (List.take_subset _ _ (grG_sub covR _ y hy))
   (try (conv=>whnf));repeat' (first|refine Ok.seq ?_|((first|refine Ok.region tok ?_|refine Ok.cond ?_);conv=>whnf)|refine Ok.block ?_|((first|refine Ok.skip ?_|refine ix _ (by assumption) ?_);conv=>whnf)|(refine bI ?_ ?_<;>intro<;>(conv=>whnf)<;>(try (exfalso;omega)))|fail)
   generalize hKK:grG covR (l.take i)=K at *
   refine Ok.loopU [1,5,7,13,14,15,19,20] [21] 1 1 (fun (j:Nat)=>[.i .i64 (j:Nat)]) (fun _ b=>b) (fun _ r=>r) (fun (j:Nat)=>j<=K.length/\∀ y ∈ K.take j,¬ covR x y) (fun (j:Nat)=>K.length - j) (0) (⟨Nat.zero_le _,by simp⟩) ?_;(conv=>whnf);refine⟨by ((conv=>whnf);first|rfl|(simp[envCat,tkL0,cells9];done)|(simp[envCat,tkL0,cells9];rw[IntKind.wrap_i64];omega)),?_⟩
   rintro j ⟨hj,hno⟩
   (conv=>whnf)
   by_cases hjl:j<K.length
   . obtain⟨y,hy⟩:∃ y,K[j]? = some y:=⟨_,gEt0 hjl⟩
     have hyo:=hmem y (mOf0 hy)
     have hWj:W[((j:Nat):Int).toNat]? = some y:=by
      have:=hK.get (j:=j) (by rw[hKK];exact hjl)
      rw[hKK,hy] at this
      exact this
     (try (conv=>whnf));repeat' (first|refine Ok.seq ?_|((first|refine Ok.region tok ?_|refine Ok.cond ?_);conv=>whnf)|refine Ok.block ?_|((first|refine Ok.skip ?_|refine Ok.exit ?_|refine nI ?_);conv=>whnf)|(refine Or.inl ?_;(conv=>whnf);(repeat (refine aI ?_;conv=>whnf));refine⟨_,covered_at hxo hyo,rfl,?_⟩;conv=>whnf)|(refine rd rfl (by assumption) ?_;conv=>whnf)|(refine bI ?_ ?_<;>intro<;>(conv=>whnf)<;>(try (exfalso;omega)))|(refine aJ ?_;conv=>whnf)|fail)
     . rename_i hxy
       have hin:∃ y ∈ grG covR (l.take i),covR x y:=⟨y,by rw[hKK];exact mOf0 hy,hxy⟩
       obtain⟨hs,he⟩:=hK.skip hx hin
       refine⟨(i+1,W),by dsimp only;omega,hs,?_⟩
       dsimp only
       rw[he,hKK]
       (conv=>whnf)
       rfl
     . rename_i hxy
       refine⟨j+1,by omega,⟨by omega,fun z hz=>?_⟩,?_⟩
       . rw[List.take_add_one,hy] at hz
         rcases mAp0.1 hz with hz|hz
         . exact hno z hz
         . simp at hz;rw[hz];exact hxy
       . (conv=>whnf)
         rfl
   . have hje:j=K.length:=by omega
     subst hje
     rw[List.take_length] at hno
     (try (conv=>whnf));repeat' (first|refine Ok.seq ?_|((first|refine Ok.region tok ?_|refine Ok.cond ?_|refine Ok.exit ?_);conv=>whnf)|(refine bI ?_ ?_<;>intro<;>(conv=>whnf)<;>(try (exfalso;omega)))|fail)
     refine⟨0,rfl,rfl,by omega,?_⟩
     (try (conv=>whnf));repeat' (first|refine Ok.seq ?_|(refine Ok.region tok ?_;conv=>whnf)|refine Ok.block ?_|fail)
     refine Ok.loopU [1,7,13,14,15,32,33] [10,34] 1 1 (fun (z:Nat × List TR)=>[.own 0 (leftOf covR K x z.1).length,.i .i64 (z.1:Nat)]) (fun _ b=>b) (fun (z:Nat × List TR) (_:Vx.Rows)=>[some (142,z.2.map trow)]) (fun (z:Nat × List TR)=>Mid covR K x W z.1 z.2) (fun (z:Nat × List TR)=>K.length - z.1) ((0,W)) (Mid.zero) ?_;(conv=>whnf);refine⟨by ((conv=>whnf);first|rfl|(simp[envCat,tkL0,cells9];done)|(simp[envCat,tkL0,cells9];rw[IntKind.wrap_i64];omega)),?_⟩
     rintro⟨k,W'⟩ hM
     dsimp only at hM ⊢
     have hMk:=hM.le
     have hMl:=hM.len
     have hWl':(W'.map trow).length=W'.length:=by simp
     have hkept:W.take K.length=K:=by
      have:=hK.tk
      rw[hKK] at this
      exact this
     (conv=>whnf)
     by_cases hkl:k<K.length
     . obtain⟨y,hy⟩:∃ y,K[k]? = some y:=⟨_,gEt0 hkl⟩
       have hyo:=hmem y (mOf0 hy)
       have hWj:W'[((k:Nat):Int).toNat]? = some y:=by
        rw[toNat_cast,hM.get hkept hkl,hy]
       by_cases hyx:covR y x
       . obtain⟨hd,he⟩:=hM.drop hy hyx
         (try (conv=>whnf));repeat' (first|refine Ok.seq ?_|((first|refine Ok.region tok ?_|refine Ok.cond ?_);conv=>whnf)|refine Ok.block ?_|((first|refine Ok.skip ?_|refine nI ?_);conv=>whnf)|(refine Or.inl ?_;(conv=>whnf);(repeat (refine aI ?_;conv=>whnf));refine⟨_,covered_at hyo hxo,rfl,?_⟩;conv=>whnf)|(refine rd rfl (by assumption) ?_;conv=>whnf)|(refine bI ?_ ?_<;>intro<;>(conv=>whnf)<;>(try (exfalso;omega)))|(refine aJ ?_;conv=>whnf)|fail)
         . exact absurd hyx (by assumption)
         . refine⟨(k+1,W'),by dsimp only;omega,hd,?_⟩
           dsimp only
           rw[he]
           (conv=>whnf)
           rfl
       . obtain⟨hd,he,hlt⟩:=hM.keep hKn hy hyx
         have hlt2:(leftOf covR K x k).length<(W'.map trow).length:=by omega
         have hnle:¬ (leftOf covR K x k).length=(W'.map trow).length:=by omega
         (try (conv=>whnf));repeat' (first|refine Ok.seq ?_|((first|refine Ok.region tok ?_|refine Ok.cond ?_);conv=>whnf)|refine Ok.block ?_|((first|refine Ok.skip ?_|refine nI ?_);conv=>whnf)|(refine Or.inl ?_;(conv=>whnf);(repeat (refine aI ?_;conv=>whnf));refine⟨_,covered_at hyo hxo,rfl,?_⟩;conv=>whnf)|((first|refine Alt2.r (aI ?_)|refine rd rfl (by assumption) ?_|refine⟨_,.inl ⟨rfl,rfl⟩,?_⟩|refine⟨_,_,rfl,rfl,?_⟩);conv=>whnf)|(refine bI ?_ ?_<;>intro<;>(conv=>whnf)<;>(try (exfalso;omega)))|((first|refine aJ ?_|refine⟨_,rfl,?_⟩);conv=>whnf)|fail)
         . refine⟨(k+1,W'.set (leftOf covR K x k).length y),by dsimp only;omega,hd,?_⟩
           dsimp only
           rw[he,List.length_append,List.map_set]
           (conv=>whnf)
           rfl
         . rename_i hh
           exact absurd hyx hh
     . have hke:k=K.length:=by omega
       subst hke
       obtain⟨se,sl,sg⟩:=hK.step hx (by rw[hKK];exact hno) (by rw[hKK];exact hM)
       rw[hKK] at se sl sg
       by_cases hm:(leftOf covR K x K.length).length=W'.length
       . have hm2:(leftOf covR K x K.length).length=(W'.map trow).length:=by omega
         (try (conv=>whnf));repeat' (first|refine Ok.seq ?_|((first|refine Ok.region tok ?_|refine Ok.cond ?_|refine Ok.exit ?_|refine nI ?_|refine Alt2.l (aI ?_)|refine⟨_,.inl ⟨rfl,rfl⟩,?_⟩|refine⟨_,_,rfl,rfl,?_⟩);conv=>whnf)|(refine bI ?_ ?_<;>intro<;>(conv=>whnf)<;>(try (exfalso;omega)))|(refine aJ ?_;conv=>whnf)|fail)
         refine⟨(i+1,W'++[x]),by dsimp only;omega,sg hm,?_⟩
         dsimp only
         rw[se,List.map_append]
         (conv=>whnf)
         simp[envCat,hm]
       . have hle2:=hM.tk
         have hlt:(leftOf covR K x K.length).length<W'.length:=by
          have:=congrArg List.length hM.tk
          rw[List.length_take] at this
          omega
         have hlt2:(leftOf covR K x K.length).length<(W'.map trow).length:=by omega
         (try (conv=>whnf));repeat' (first|refine Ok.seq ?_|((first|refine Ok.region tok ?_|refine Ok.cond ?_|refine Ok.exit ?_|refine nI ?_|refine Alt2.r (aI ?_)|refine⟨_,.inl ⟨rfl,rfl⟩,?_⟩|refine⟨_,_,rfl,rfl,?_⟩);conv=>whnf)|(refine bI ?_ ?_<;>intro<;>(conv=>whnf)<;>(try (exfalso;omega)))|((first|refine aJ ?_|refine⟨_,rfl,?_⟩);conv=>whnf)|fail)
         refine⟨(i+1,W'.set (leftOf covR K x K.length).length x),by dsimp only;omega,sl hlt,?_⟩
         dsimp only
         rw[se,List.length_append,List.map_set]
         (conv=>whnf)
         rfl
 . have hie:i=l.length:=by omega
   subst hie
   rw[List.take_length] at *
   (try (conv=>whnf));repeat' (first|refine Ok.seq ?_|((first|refine Ok.region tok ?_|refine Ok.cond ?_|refine Ok.exit ?_|refine Ok.ret ?_);conv=>whnf)|(refine bI ?_ ?_<;>intro<;>(conv=>whnf)<;>(try (exfalso;omega)))|fail)
   refine Or.inr (Or.inl ?_);(conv=>whnf)
   exact⟨W,hK,rfl,rfl⟩
end Go.Proofs.YtcglkonooeddfaaGreatDoor
namespace Go.Proofs.YtcglkonooeddfaaGreatDoor
open Go Go.Vx Go.Shelf Go.RowKit Go.Lib Go.Sort
theorem bExtra:Builder.Extra Tryz.prog Tryz.vxStr_ren where
 sizeBuilder:=by kernel_rfl
 liesBuilder:=by kernel_rfl
 t5:=by kernel_rfl
 a5:=fun _=>by kernel_rfl
 z5:=fun _=>by kernel_rfl
 v5:=fun _=>by kernel_rfl
 infoByte:=by kernel_rfl
 cellsByte:=by kernel_rfl
 sizeByte:=by kernel_rfl
 neB5:=by decide
theorem strAt:StrC Tryz.prog 105 5:=strC Tryz.vxStr bExtra Tryz.call105
theorem bSize:∃ j,Tryz.prog.info? 189=some j/\j.size=2:=Option.map_eq_some_iff.1 (by kernel_rfl:(Tryz.prog.info? 189).map (·.size)=some 2)
theorem bPtr:Tryz.prog.underlying 187=some (.pointer 189):=by kernel_rfl
theorem bUns:Tryz.prog.underlying 268=some .unsafePointer:=by kernel_rfl
theorem bLies:liesAt Tryz.prog Tryz.prog.depth 189 (2 / Tryz.prog.cellsOf 189) 0 189 1=true:=by kernel_rfl
theorem copy_used(b:Nat)(w:World)(h0:w.cell? ⟨b,0,none⟩=some (.pointer (some ⟨b,0,none⟩))) :
    Calls Tryz.prog 161 #[.pointer (some ⟨b,0,none⟩)] w fun e w'=>e = .returned (.tuple #[])/\w'=w:=by
 obtain⟨j,hj,hjs⟩:=bSize
 go_enter Tryz.func161,Tryz.ntmps161
 go_wp2
 rw[Lib.run_neq_ptr_same w _ bPtr hj]
 go_wp2
 go_end0
 exact⟨rfl,rfl⟩
theorem copy_fresh(b:Nat)(w:World)(h0:w.cell? ⟨b,0,none⟩=some (.pointer none))(hsh:w.shape? b=some (189,2))(hfz:w.frozen? ⟨b,0,none⟩=false) :
    Calls Tryz.prog 161 #[.pointer (some ⟨b,0,none⟩)] w fun e w'=>e = .returned (.tuple #[])/\w'=w.setCell ⟨b,0,none⟩ (.pointer (some ⟨b,0,none⟩)):=by
 obtain⟨j,hj,hjs⟩:=bSize
 go_enter Tryz.func161,Tryz.ntmps161
 go_wp2
 rw[Lib.run_to_unsafe w ⟨b,0,none⟩ bPtr bUns hj (by rw[hjs];decide) hsh (Nat.zero_lt_succ 1)]
 simp only[Result.andThen]
 rw[Oper.upon_value]
 go_wp2
 rw[run_callFunc_extern Tryz.func212 (by kernel_rfl) (by kernel_rfl) (by kernel_rfl) (e:=Extern.AbiNoEscape.same) (by kernel_rfl)]
 rw[Lib.run_noEscape]
 simp only[Result.andThen]
 rw[Oper.upon_value]
 go_wp2
 rw[Lib.run_from_unsafe w ⟨b,0,none⟩ bUns bPtr hj hsh bLies]
 simp only[Result.andThen]
 rw[Oper.upon_value]
 go_wp2
 go_end0
 exact⟨rfl,rfl⟩
theorem copyAt:CopyC Tryz.prog 161 189:=⟨Tryz.call161,copy_fresh,copy_used⟩
theorem swo_bytes{α:Type}(key:α->List UInt8):SWO (fun x y:α=>Op.bytesLess (key x) (key y)) where
 irrefl:=fun x=>by
  cases h:Op.bytesLess (key x) (key x) with
  | false=>rfl
  | true=>exact absurd h (bl_irrefl _)
 trans:=fun x y z h k=>bl_trans h k
 ntrans:=fun x y z h k=>by
  cases h2:Op.bytesLess (key x) (key z) with
  | false=>rfl
  | true=>
   exfalso
   by_cases e:key x=key y
   . rw[e,k] at h2;cases h2
   . rcases bl_total e with q|q
     . rw[h] at q;cases q
     . have:=bl_trans q h2
       rw[k] at this
       cases this
theorem less_told(blk c Bs size:Nat)(W:World)(G:Nat->List UInt8)(hs:W.cell? ⟨Bs,0,none⟩=some (.slice (some ⟨blk,0,none⟩) size c))
    (hc:∀ t,t<size->W.cell? ⟨blk,0+(t*10+9),none⟩=some (.string (bstr (G t))))(i j:Nat)(hi:i<size)(hj:j<size)(_hsz:size<4611686018427387904) :
    Calls Tryz.prog 113 #[.int .i64 i,.int .i64 j,.pointer (some ⟨Bs,0,none⟩)] W fun e w'=>e = .returned (.bool (Op.bytesLess (G i) (G j)))/\∃ q,w'=W.drewN q:=by
 have ci:=hc i hi
 have cj:=hc j hj
 rw[Nat.zero_add] at ci cj
 go_enter Tryz.func113,Tryz.ntmps113
 go_wp2
 go_quiet (fail)
 go_wp2
 go_ret
 refine⟨?_,nq,rfl⟩
 show Ending.returned (.bool (Op.bytesLess (bstr (G i)).toList (bstr (G j)).toList))=_
 rw[bstr_toList,bstr_toList]
noncomputable def sitoldT:TypeInfo:=(Tryz.prog.info? 204).get (by kernel_rfl)
noncomputable def sitoldE:TypeInfo:=(Tryz.prog.info? 206).get (by kernel_rfl)
theorem sitoldK(n:Nat)(h2:2<=n):Lib.swapperK n sitoldE 25=9:=by
 have a:sitoldE.hasPointers=true:=by kernel_rfl
 have b:(sitoldE.bytes == 8)=false:=by kernel_rfl
 have c:(n == 0)=false:=by simp;omega
 have d:(n == 1)=false:=by simp;omega
 simp[Lib.swapperK,a,b,c,d]
theorem sort_told:SortC Tryz.prog 112 204 10 9 113 where
 call:=Tryz.call112
 conc:=by kernel_rfl
 big:=fun α _ enc key hk h1 hkey blk c Bs d h2 hsz w hH hblk hBs hB1 hB2=>by
  have hless:LessReadsK Tryz.prog 113 #[.pointer (some ⟨Bs,0,none⟩)] enc 10 (fun x y=>Op.bytesLess (key x) (key y)) blk 0 d.size w:=by
   intro m os dk hs i j hi hj
   have e:sortWorldK enc 10 w blk 0 m dk os=putRowK enc 10 (grow (Sort.ahead w m) os) blk 0 dk:=by
    unfold sortWorldK;rw[putRowK_grow _ _ (Sort.ahead w m) _ blk 0 _ hblk]
   have hHg:HoldsK enc 10 (grow (Sort.ahead w m) os) blk 0 d:=holdsK_grow _ _ _ _ blk 0 d hblk (holdsK_ahead _ _ _ _ _ _ _ hH)
   refine less_told blk c Bs d.size _ (fun t=>key dk[t]!) ?_ (fun t ht=>?_) i j hi hj (by omega)
   . rw[e,cell?_putRowK_other _ _ _ blk 0 dk _ (by exact hB2),cell?_grow _ _ _ (by exact hB1)];exact hBs
   . rw[e]
     have h3:=((holdsK_putRowK _ _ _ blk 0 d dk hHg hs).cell (i:=t) (c:=9) (by omega) (by omega)).1
     refine h3.trans ?_
     exact congrArg some (List.getElem!_of_getElem? (hkey dk[t]!))
  exact Any.sort_Slice_cells_sorted Tryz.vxSort 204 206 sitoldT sitoldE (by kernel_rfl) (by kernel_rfl) (by kernel_rfl) (by kernel_rfl) 25 (fun _=>by kernel_rfl) enc 10 hk (by kernel_rfl) (fun _=>by kernel_rfl)
   h1 _ (swo_bytes key) 113 _
   (enters_of Tryz.func113 (by kernel_rfl) rfl) blk 0 c d h2 hsz 225 (by rw[sitoldK _ h2];kernel_rfl) false
   (fun args W=>run_callFunc_extern Tryz.func225 (by kernel_rfl) (by kernel_rfl) (by kernel_rfl) (e:=Extern.ReflectliteSwapper.swap false) (by kernel_rfl) args W) w hless hH hblk
 tiny:=fun p n c lb w h1=>by
  rcases Nat.eq_zero_or_pos n with h|h
  . subst h
    exact Any.sort_Slice_tiny Tryz.vxSort 204 206 sitoldT sitoldE (by kernel_rfl) (by kernel_rfl) (by kernel_rfl) (by kernel_rfl) 25 (fun _=>by kernel_rfl) p 0 c h1 217 (by kernel_rfl) (.func 113) #[] lb w
  . obtain rfl:n=1:=by omega
    exact Any.sort_Slice_tiny Tryz.vxSort 204 206 sitoldT sitoldE (by kernel_rfl) (by kernel_rfl) (by kernel_rfl) (by kernel_rfl) 25 (fun _=>by kernel_rfl) p 1 c h1 218 (by kernel_rfl) (.func 113) #[] lb w
theorem less_term(blk c Bs size:Nat)(W:World)(G:Nat->List UInt8)(hs:W.cell? ⟨Bs,0,none⟩=some (.slice (some ⟨blk,0,none⟩) size c))
    (hc:∀ t,t<size->W.cell? ⟨blk,0+(t*11+10),none⟩=some (.string (bstr (G t))))(i j:Nat)(hi:i<size)(hj:j<size)(_hsz:size<4611686018427387904) :
    Calls Tryz.prog 116 #[.int .i64 i,.int .i64 j,.pointer (some ⟨Bs,0,none⟩)] W fun e w'=>e = .returned (.bool (Op.bytesLess (G i) (G j)))/\∃ q,w'=W.drewN q:=by
 have ci:=hc i hi
 have cj:=hc j hj
 rw[Nat.zero_add] at ci cj
 go_enter Tryz.func116,Tryz.ntmps116
 go_wp2
 go_quiet (fail)
 go_wp2
 go_ret
 refine⟨?_,nq,rfl⟩
 show Ending.returned (.bool (Op.bytesLess (bstr (G i)).toList (bstr (G j)).toList))=_
 rw[bstr_toList,bstr_toList]
noncomputable def sitermT:TypeInfo:=(Tryz.prog.info? 64).get (by kernel_rfl)
noncomputable def sitermE:TypeInfo:=(Tryz.prog.info? 142).get (by kernel_rfl)
theorem sitermK(n:Nat)(h2:2<=n):Lib.swapperK n sitermE 25=9:=by
 have a:sitermE.hasPointers=true:=by kernel_rfl
 have b:(sitermE.bytes == 8)=false:=by kernel_rfl
 have c:(n == 0)=false:=by simp;omega
 have d:(n == 1)=false:=by simp;omega
 simp[Lib.swapperK,a,b,c,d]
theorem sort_term:SortC Tryz.prog 112 64 11 10 116 where
 call:=Tryz.call112
 conc:=by kernel_rfl
 big:=fun α _ enc key hk h1 hkey blk c Bs d h2 hsz w hH hblk hBs hB1 hB2=>by
  have hless:LessReadsK Tryz.prog 116 #[.pointer (some ⟨Bs,0,none⟩)] enc 11 (fun x y=>Op.bytesLess (key x) (key y)) blk 0 d.size w:=by
   intro m os dk hs i j hi hj
   have e:sortWorldK enc 11 w blk 0 m dk os=putRowK enc 11 (grow (Sort.ahead w m) os) blk 0 dk:=by
    unfold sortWorldK;rw[putRowK_grow _ _ (Sort.ahead w m) _ blk 0 _ hblk]
   have hHg:HoldsK enc 11 (grow (Sort.ahead w m) os) blk 0 d:=holdsK_grow _ _ _ _ blk 0 d hblk (holdsK_ahead _ _ _ _ _ _ _ hH)
   refine less_term blk c Bs d.size _ (fun t=>key dk[t]!) ?_ (fun t ht=>?_) i j hi hj (by omega)
   . rw[e,cell?_putRowK_other _ _ _ blk 0 dk _ (by exact hB2),cell?_grow _ _ _ (by exact hB1)];exact hBs
   . rw[e]
     have h3:=((holdsK_putRowK _ _ _ blk 0 d dk hHg hs).cell (i:=t) (c:=10) (by omega) (by omega)).1
     refine h3.trans ?_
     exact congrArg some (List.getElem!_of_getElem? (hkey dk[t]!))
  exact Any.sort_Slice_cells_sorted Tryz.vxSort 64 142 sitermT sitermE (by kernel_rfl) (by kernel_rfl) (by kernel_rfl) (by kernel_rfl) 25 (fun _=>by kernel_rfl) enc 11 hk (by kernel_rfl) (fun _=>by kernel_rfl)
   h1 _ (swo_bytes key) 116 _
   (enters_of Tryz.func116 (by kernel_rfl) rfl) blk 0 c d h2 hsz 225 (by rw[sitermK _ h2];kernel_rfl) false
   (fun args W=>run_callFunc_extern Tryz.func225 (by kernel_rfl) (by kernel_rfl) (by kernel_rfl) (e:=Extern.ReflectliteSwapper.swap false) (by kernel_rfl) args W) w hless hH hblk
 tiny:=fun p n c lb w h1=>by
  rcases Nat.eq_zero_or_pos n with h|h
  . subst h
    exact Any.sort_Slice_tiny Tryz.vxSort 64 142 sitermT sitermE (by kernel_rfl) (by kernel_rfl) (by kernel_rfl) (by kernel_rfl) 25 (fun _=>by kernel_rfl) p 0 c h1 217 (by kernel_rfl) (.func 116) #[] lb w
  . obtain rfl:n=1:=by omega
    exact Any.sort_Slice_tiny Tryz.vxSort 64 142 sitermT sitermE (by kernel_rfl) (by kernel_rfl) (by kernel_rfl) (by kernel_rfl) 25 (fun _=>by kernel_rfl) p 1 c h1 218 (by kernel_rfl) (.func 116) #[] lb w
end Go.Proofs.YtcglkonooeddfaaGreatDoor
namespace Go.Proofs.YtcglkonooeddfaaGreatDoor
open Go Go.Vx
structure LR where
 l:List Str
 room:List (List D)
@[reducible] def lrow(x:LR):List D:=[.lst 138 (x.l.map crow) x.room]
def allL(lss:List LR):List Str:=(lss.map LR.l).flatten
theorem allL_take{lss:List LR}{i:Nat}{x:LR}(h:lss[i]? = some x):allL (lss.take (i+1))=allL (lss.take i)++x.l:=by
 unfold allL
 rw[take_snoc h]
 simp
theorem allL_le(lss:List LR)(i:Nat):(allL (lss.take i)).length<=(allL lss).length:=by
 unfold allL
 conv=>rhs;rw[<- List.take_append_drop i lss]
 rw[List.map_append,List.flatten_append,List.length_append]
 omega
theorem allL_le2{lss:List LR}{i:Nat}{x:LR}(h:lss[i]? = some x)(j:Nat):(allL (lss.take i)++x.l.take j).length<=(allL lss).length:=by
 have h1:=allL_le lss (i+1)
 rw[allL_take h] at h1
 simp at h1 ⊢
 omega
@[reducible] def trow2(x:Str × Str):List D:=[.i .i64 (x.1.length:Int),.i .u64 ((wof (car x.1) 0).toNat:Int),.i .u64 ((wof (car x.1) 1).toNat:Int),.i .u64 ((wof (car x.1) 2).toNat:Int),.i .u64 ((wof (car x.1) 3).toNat:Int),.i .u64 ((wof (one x.1) 0).toNat:Int),.i .u64 ((wof (one x.1) 1).toNat:Int),.i .u64 ((wof (one x.1) 2).toNat:Int),.i .u64 ((wof (one x.1) 3).toNat:Int),.s x.2]
def dup(c:Str):Str × Str:=(c,c)
theorem take_all2{α:Type}{l:List α}{n:Nat}(h:l.length=n):l.take n=l:=tkL0 (by omega)
theorem drop_all2{α:Type}{l:List α}{n:Nat}(h:l.length=n):l.drop n=[]:=List.drop_of_length_le (by omega)
def kf(p:Str)(ks:List Str)(i:Nat):Str:=p++(ks.take i).flatten
theorem kf_zero(p:Str)(ks:List Str):kf p ks 0=p:=by simp[kf]
theorem kf_step{p:Str}{ks:List Str}{i:Nat}{c:Str}(h:ks[i]? = some c):kf p ks (i+1)=kf p ks i++c:=by
 unfold kf
 rw[take_snoc h]
 simp
theorem kf_len{p:Str}{ks:List Str}{i n:Nat}(hp:p.length<=256)(h:∀ c ∈ ks,c.length<=256)(hi:i<=n):(kf p ks i).length<=256+n*256:=by
 have h1:=flat_len (l:=ks.take i) (n:=256) fun x hx=>h x (List.mem_of_mem_take hx)
 have h2:(ks.take i).length*256<=n*256:=Nat.mul_le_mul_right _ (by simp;omega)
 unfold kf
 rw[List.length_append]
 omega
theorem kf_key{p:Str}{ks:List Str}{n:Nat}(h:ks.length=n):Term.key ⟨p,ks⟩=kf p ks n:=by
 unfold kf Term.key
 rw[<- h,List.take_length]
theorem kf_ne{p:Str}{ks:List Str}{n:Nat}(h:p ≠ []):kf p ks n ≠ []:=fun e=>h (List.append_eq_nil_iff.1 e).1
theorem byteT:ByteT Tryz.prog 5:=by unfold ByteT;kernel_rfl
@[reducible] def tzero:List D:=[.i .i64 0,.i .u64 0,.i .u64 0,.i .u64 0,.i .u64 0,.i .u64 0,.i .u64 0,.i .u64 0,.i .u64 0,.nilS,.s []]
def NewT(p:Str)(less:List Str)(d:D)(rows:Vx.Rows):Prop:=
 rows=[]/\((termT p less=none/\d = .tup [.agg (trow ⟨⟨[],[]⟩,[]⟩),.b False])\/∃ t rm,termT p less=some t/\d = .tup [.agg (trow ⟨t,rm⟩),.b True])
theorem newTerm_at(p:Str)(lss:List LR){rl room:List (List D)}(hp:CN p)(hok:∀ x ∈ lss,∀ m ∈ x.l,CT m)(hn:(allL lss).length<=100000)(h1:lss.length<=100000)(h:rl=lss.map lrow) :
    FSpec Tryz.prog T 63 [.agg (crow p),.lst 133 rl room] (NewT p (allL lss)):=by
 subst h
 have hll:(lss.map lrow).length=lss.length:=by simp
 refine FSpec.of_ok tok Tryz.func63 rfl Tryz.call63 (by simp) ?_
 (try (conv=>whnf));repeat' (first|refine Ok.seq ?_|(refine Ok.region tok ?_;conv=>whnf)|refine Ok.block ?_|fail)
 refine Ok.ghost 6 138 rfl ?_
 (conv=>whnf)
 refine Ok.loopU [2,4,21,22] [6,23] 1 2 (fun (i:Nat)=>[.own 0 (metL p (allL (lss.take i))).length,.i .i64 (i:Nat)]) (fun _ b=>b) (fun (i:Nat) (_:Vx.Rows)=>[some (138,(metL p (allL (lss.take i))).map crow)]) (fun (i:Nat)=>i<=lss.length) (fun (i:Nat)=>lss.length - i) (0) (Nat.zero_le _) ?_;(conv=>whnf);refine⟨by ((conv=>whnf);first|rfl|(simp[envCat,tkL0,cells9,crow,trow2,kf_zero];done)|(simp[envCat,tkL0,cells9,crow,trow2,kf_zero];rw[IntKind.wrap_i64];omega)),?_⟩
 rintro i hi
 (conv=>whnf)
 by_cases hil:i<lss.length
 . obtain⟨x,hx⟩:∃ x,lss[i]? = some x:=⟨_,gEt0 hil⟩
   have hxo:=hok x (mOf0 hx)
   have hxl:(x.l.map crow).length=x.l.length:=by simp
   have hat:=allL_take hx
   have hxl2:x.l.length<=100000:=by have:=allL_le2 hx x.l.length;rw[List.take_length,List.length_append] at this;omega
   (try (conv=>whnf));repeat' (first|refine Ok.seq ?_|((first|refine Ok.region tok ?_|refine Ok.cond ?_);conv=>whnf)|refine Ok.block ?_|((first|refine Ok.skip ?_|refine ix _ (by assumption) ?_);conv=>whnf)|(refine bI ?_ ?_<;>intro<;>(conv=>whnf)<;>(try (exfalso;omega)))|fail)
   refine Ok.loopU [2,4,21,22,23,27,28] [6,29] 1 2 (fun (j:Nat)=>[.own 0 (metL p (allL (lss.take i)++x.l.take j)).length,.i .i64 (j:Nat)]) (fun _ b=>b) (fun (j:Nat) (_:Vx.Rows)=>[some (138,(metL p (allL (lss.take i)++x.l.take j)).map crow)]) (fun (j:Nat)=>j<=x.l.length) (fun (j:Nat)=>x.l.length - j) (0) (Nat.zero_le _) ?_;(conv=>whnf);refine⟨by ((conv=>whnf);first|rfl|(simp[envCat,tkL0,cells9,crow,trow2,kf_zero];done)|(simp[envCat,tkL0,cells9,crow,trow2,kf_zero];rw[IntKind.wrap_i64];omega)),?_⟩
   rintro j hj
   have hle:=allL_le2 hx j
   have hle2:=metL_le p (allL (lss.take i)++x.l.take j)
   generalize hM:metL p (allL (lss.take i)++x.l.take j)=M at *
   have hMl:(M.map crow).length=M.length:=by simp
   (conv=>whnf)
   by_cases hjl:j<x.l.length
   . obtain⟨m,hm⟩:∃ m,x.l[j]? = some m:=⟨_,gEt0 hjl⟩
     have hmo:=hxo m (mOf0 hm)
     have hsp:=meet_at m p hmo hp.1
     have hnext:metL p (allL (lss.take i)++x.l.take (j+1))=M++metL p [m]:=by rw[take_snoc hm,<- List.append_assoc,metL_app,hM]
     cases hmt:meetT m p with
     | none=>
      rw[hmt] at hsp
      (try (conv=>whnf));repeat' (first|refine Ok.seq ?_|((first|refine Ok.region tok ?_|refine Ok.cond ?_);conv=>whnf)|refine Ok.block ?_|((first|refine Ok.skip ?_|refine nI ?_|refine ix _ (by assumption) ?_);conv=>whnf)|(refine Or.inr (Or.inl ?_);(conv=>whnf);(repeat (refine aI ?_;conv=>whnf));refine⟨_,hsp,?_⟩;rintro _ _ ⟨rfl,rfl⟩;conv=>whnf)|((first|refine Alt2.l (aI ?_)|refine⟨_,.inl ⟨rfl,rfl⟩,?_⟩|refine⟨_,_,rfl,rfl,?_⟩);conv=>whnf)|(refine bI ?_ ?_<;>intro<;>(conv=>whnf)<;>(try (exfalso;omega)))|(refine aJ ?_;conv=>whnf)|fail)
      . rename_i h2
        exact absurd h2 (by simp)
      . refine⟨j+1,by omega,by omega,?_⟩
        rw[hnext,metL_none hmt,List.append_nil]
        (conv=>whnf)
        rfl
     | some c=>
      rw[hmt] at hsp
      (try (conv=>whnf));repeat' (first|refine Ok.seq ?_|((first|refine Ok.region tok ?_|refine Ok.cond ?_);conv=>whnf)|refine Ok.block ?_|((first|refine Ok.skip ?_|refine nI ?_|refine ix _ (by assumption) ?_);conv=>whnf)|(refine Or.inr (Or.inl ?_);(conv=>whnf);(repeat (refine aI ?_;conv=>whnf));refine⟨_,hsp,?_⟩;rintro _ _ ⟨rfl,rfl⟩;conv=>whnf)|((first|refine Alt2.l (aI ?_)|refine⟨_,.inl ⟨rfl,rfl⟩,?_⟩|refine⟨_,_,rfl,rfl,?_⟩);conv=>whnf)|(refine bI ?_ ?_<;>intro<;>(conv=>whnf)<;>(try (exfalso;omega)))|(refine aJ ?_;conv=>whnf)|fail)
      . refine⟨j+1,by omega,by omega,?_⟩
        rw[hnext,metL_some hmt]
        (conv=>whnf)
        simp[envCat]
      . rename_i h2
        exact absurd rfl h2
   . have hje:j=x.l.length:=by omega
     subst hje
     (try (conv=>whnf));repeat' (first|refine Ok.seq ?_|((first|refine Ok.region tok ?_|refine Ok.cond ?_|refine Ok.exit ?_|refine nI ?_);conv=>whnf)|(refine bI ?_ ?_<;>intro<;>(conv=>whnf)<;>(try (exfalso;omega)))|fail)
     refine⟨i+1,by omega,by omega,?_⟩
     rw[hat]
     rw[List.take_length] at hM
     rw[hM]
     (conv=>whnf)
     rfl
 . have hie:i=lss.length:=by omega
   subst hie
   rw[List.take_length]
   generalize hM:metL p (allL lss)=M
   have hML:M.length<=100000:=by have:=metL_le p (allL lss);rw[hM] at this;omega
   have hMl:(M.map crow).length=M.length:=by simp
   have hMok:∀ c ∈ M,CN c/\c.length=p.length:=by
    intro c hc
    rw[<- hM] at hc
    obtain⟨m,hm1,hm2⟩:=List.mem_filterMap.1 hc
    have hmc:CT m:=by
     unfold allL at hm1
     obtain⟨y,hy1,hy2⟩:=List.mem_flatten.1 hm1
     obtain⟨z,hz1,rfl⟩:=List.mem_map.1 hy1
     exact hok z hz1 m hy2
    have h3:=meetT_ct hm2 hmc hp.1
    have h4:=meetL_len ((meetT_eq h3.2.2).symm.trans hm2)
    exact⟨⟨h3.1,fun e=>hp.2 (by rw[e] at h4;exact List.eq_nil_of_length_eq_zero (by simpa using h4.2))⟩,h4.2.symm⟩
   (try (conv=>whnf));repeat' (first|refine Ok.seq ?_|((first|refine Ok.region tok ?_|refine Ok.cond ?_);conv=>whnf)|refine Ok.block ?_|(refine Ok.exit ?_;conv=>whnf)|(refine Or.inr (Or.inr (Or.inr (Or.inl ?_)));(conv=>whnf);(repeat (refine aI ?_;conv=>whnf));refine⟨_,greatestC_at M (by omega) (fun c hc=>(hMok c hc).1) (take_all crow M) , ?_⟩;rintro _ _ ⟨W,hW,rfl,rfl⟩<;>(refine And.intro (by simp[gRowsP,grounds,D.ground,cells9,crow,trow2,kf_zero]) ?_;conv=>whnf))|(refine bI ?_ ?_<;>intro<;>(conv=>whnf)<;>(try (exfalso;omega)))|fail)
   have hWk:=hW.n
   have hWt:=hW.tk
   have hWw:=hW.w
   rw[List.take_length] at hWk hWt
   have hKM:∀ c ∈ grG inL M,c ∈ M:=grG_sub inL M
   have hvoid:p ∈ grG inL M->termT p (allL lss)=none:=fun h=>termT_void (by rw[hM];exact h)
   have hsome:∀ ks:List Str,p ∉ grG inL M->ks.Perm (grG inL M)->ks.Pairwise (fun t u=>Op.bytesLess u t ≠ true)->termT p (allL lss)=some ⟨p,ks⟩:=fun ks h1 h2 h3=>termT_some (by rw[hM];exact h1) (by rw[hM];exact h2) h3
   generalize hK:grG inL M=K at *
   have hKok:∀ c ∈ K,CN c/\c.length=p.length:=fun c hc=>hMok c (hKM c hc)
   have hKl:K.length<=100000:=by omega
   have hWl:(W.map crow).length=W.length:=by simp
   have hWg:∀ i,i<K.length->W[i]? = K[i]?:=fun i hi=>by
    have:=congrArg (fun z:List Str=>z[i]?) hWt
    simp only[List.getElem?_take,if_pos hi] at this
    exact this
   refine Ok.loopU [2,4,6,48,49] [50] 2 2 (fun (i:Nat)=>[.i .i64 (i:Nat)]) (fun _ b=>b) (fun _ r=>r) (fun (i:Nat)=>i<=K.length/\∀ m ∈ K.take i,m ≠ p) (fun (i:Nat)=>K.length - i) (0) (⟨Nat.zero_le _,by simp⟩) ?_;(conv=>whnf);refine⟨by ((conv=>whnf);first|rfl|(simp[envCat,tkL0,cells9,crow,trow2,kf_zero];done)|(simp[envCat,tkL0,cells9,crow,trow2,kf_zero];rw[IntKind.wrap_i64];omega)),?_⟩
   rintro i ⟨hi2,hne⟩
   (conv=>whnf)
   by_cases hil2:i<K.length
   . obtain⟨c,hc⟩:∃ c,K[i]? = some c:=⟨_,gEt0 hil2⟩
     have hWi:W[((i:Nat):Int).toNat]? = some c:=by rw[toNat_cast,hWg i hil2,hc]
     have hcK:=hKok c (mOf0 hc)
     (try (conv=>whnf));repeat' (first|refine Ok.seq ?_|((first|refine Ok.region tok ?_|refine Ok.cond ?_);conv=>whnf)|refine Ok.block ?_|((first|refine Ok.skip ?_|refine rd rfl (by assumption) ?_);conv=>whnf)|(refine bI ?_ ?_<;>intro<;>(conv=>whnf)<;>(try (exfalso;omega)))|(refine aJ ?_;conv=>whnf)|fail)
     refine⟨_,eqCube,by kernel_rfl,?_⟩
     (conv=>whnf)
     (try (conv=>whnf));repeat' (first|refine Ok.seq ?_|((first|refine Ok.region tok ?_|refine Ok.cond ?_|refine Ok.skip ?_|refine Ok.ret ?_|refine nI ?_);conv=>whnf)|(refine bI ?_ ?_<;>intro<;>(conv=>whnf)<;>(try (exfalso;omega)))|fail)
     . rename_i he
       refine Or.inl ?_;(conv=>whnf)
       refine⟨rfl,.inl ⟨hvoid ?_,?_⟩⟩
       . rw[<- crow_inj hcK.1.1 hp.1 he]
         exact mOf0 hc
       . simp[oneD,Term.key]
     . rename_i he
       refine⟨i+1,by omega,⟨by omega,fun z hz=>?_⟩,?_⟩
       . rw[take_snoc hc] at hz
         rcases mAp0.1 hz with hz|hz
         . exact hne z hz
         . simp at hz
           rw[hz]
           intro e
           rw[e] at he
           exact he (eqDs_self p)
       . (conv=>whnf)
         rfl
   . have hie2:i=K.length:=by omega
     subst hie2
     rw[List.take_length] at hne
     have hpK:p ∉ K:=fun h=>hne p h rfl
     (try (conv=>whnf));repeat' (first|refine Ok.seq ?_|((first|refine Ok.region tok ?_|refine Ok.cond ?_);conv=>whnf)|refine Ok.block ?_|((first|refine Ok.exit ?_|refine⟨_,_,rfl,rfl,?_⟩);conv=>whnf)|(refine bI ?_ ?_<;>intro<;>(conv=>whnf)<;>(try (exfalso;omega)))|((first|refine aJ ?_|refine⟨_,rfl,?_⟩);conv=>whnf)|fail)
     refine Ok.loopU [2,4,6,15,62,63] [64] 3 3 (fun (i:Nat)=>[.i .i64 (i:Nat)]) (fun _ b=>b) (fun (i:Nat) (_:Vx.Rows)=>[some (138,M.map crow),some (138,W.map crow),some (206,((K.map dup).take i++List.replicate (K.length - i) ([],[])).map trow2)]) (fun (i:Nat)=>i<=K.length) (fun (i:Nat)=>K.length - i) (0) (Nat.zero_le _) ?_;(conv=>whnf);refine⟨by ((conv=>whnf);first|rfl|(simp[envCat,tkL0,cells9,crow,trow2,kf_zero];done)|(simp[envCat,tkL0,cells9,crow,trow2,kf_zero];rw[IntKind.wrap_i64];omega)),?_⟩
     rintro i hi3
     have hdl:(K.map dup).length=K.length:=by simp
     have hrl:((K.map dup).take i++List.replicate (K.length - i) (([],[]):Str × Str)).length=K.length:=by simp;omega
     have hrl2:(((K.map dup).take i++List.replicate (K.length - i) (([],[]):Str × Str)).map trow2).length=K.length:=by rw[lMp0,hrl]
     (conv=>whnf)
     by_cases hil3:i<K.length
     . obtain⟨c,hc⟩:∃ c,K[i]? = some c:=⟨_,gEt0 hil3⟩
       have hWi:W[((i:Nat):Int).toNat]? = some c:=by rw[toNat_cast,hWg i hil3,hc]
       have hcK:=hKok c (mOf0 hc)
       have hdi:(K.map dup)[i]? = some (dup c):=by simp[hc]
       have hz:=room_at2 (ks:=K.map dup) (i:=i) (([],[]):Str × Str) hdl (by omega)
       have hst:=room_set2 (z:=(([],[]):Str × Str)) hdl hdi
       generalize hL:(K.map dup).take i++List.replicate (K.length - i) (([],[]):Str × Str)=L at *
       have hL2:∀ y:Str × Str,(L.set i y)[i]? = some y:=fun y=>List.getElem?_set_self (by omega)
       have hL3:∀ y:Str × Str,((L.set i y).map trow2).length=K.length:=fun y=>by simp[hrl]
       (try (conv=>whnf));repeat' (first|refine Ok.seq ?_|((first|refine Ok.region tok ?_|refine Ok.region_plan (id:=24) tok follows [(5,6,[]),(0,9,[]),(4,9,[]),(5,9,[6]),(6,9,[]),(0,12,[]),(2,12,[]),(4,12,[]),(5,12,[]),(6,12,[]),(9,12,[])] [.q 0,.q 1,.q 2,.q 3,.q 4,.q 5,.l 6,.q 7,.q 8,.l 9,.q 10,.q 11,.l 12] (by kernel_rfl) ?_|refine Ok.cond ?_);conv=>whnf)|refine Ok.block ?_|(refine Ok.skip ?_;conv=>whnf)|(refine Or.inl ?_;(conv=>whnf);(repeat (refine aI ?_;conv=>whnf));refine⟨_,text_at c hcK.1.1,rfl,?_⟩;conv=>whnf)|(refine rd rfl (by assumption) ?_;conv=>whnf)|(refine bI ?_ ?_<;>intro<;>(conv=>whnf)<;>(try (exfalso;omega)))|(refine aJ ?_;conv=>whnf)|fail)
       refine st (c,[]) hz (by simp) (by simp[setCells]) ?_
       rw[toNat_cast]
       (try (conv=>whnf));repeat' (first|(refine aJ ?_;conv=>whnf)|fail)
       refine st (c,c) (hL2 (c,[])) (by simp) (by simp[setCells]) ?_
       rw[toNat_cast,set_set_same,show ((c,c):Str × Str)=dup c from rfl,hst]
       (try (conv=>whnf));repeat' (first|((first|refine Ok.region tok ?_|refine nI ?_);conv=>whnf)|fail)
       refine⟨i+1,by omega,by omega,?_⟩
       (conv=>whnf)
       rfl
     . have hie3:i=K.length:=by omega
       subst hie3
       rw[Nat.sub_self,List.replicate_zero,List.append_nil,tkL0 (by simp)]
       have hkeys:∀ x ∈ ((K.map dup).map trow2).take K.length,∃ l,x[9]? = some (.s l):=by
        intro x hx
        obtain⟨y,_,rfl⟩:=List.mem_map.1 (List.mem_of_mem_take hx)
        exact⟨y.2,rfl⟩
       have hdl2:K.length<=((K.map dup).map trow2).length:=by simp
       (try (conv=>whnf));repeat' (first|(refine Ok.sortSlice tok sort_told (by (conv=>whnf);exact⟨rfl,rfl⟩) rfl rfl rfl hdl2 rfl (by decide) (by decide) hkeys (by omega) ?_)|refine Ok.seq ?_|((first|refine Ok.region tok ?_|refine Ok.cond ?_|refine Ok.exit ?_);conv=>whnf)|(refine bI ?_ ?_<;>intro<;>(conv=>whnf)<;>(try (exfalso;omega)))|fail)
       intro ys hperm hup
       rw[take_all2 (by simp:((K.map dup).map trow2).length=K.length)] at hperm
       rw[drop_all2 (by simp:((K.map dup).map trow2).length=K.length),List.append_nil]
       obtain⟨zs,hz1,rfl⟩:=perm_map_ex hperm _ rfl
       obtain⟨ks,hks,rfl⟩:=perm_map_ex hz1 _ rfl
       have hsort:ks.Pairwise fun t u=>Op.bytesLess u t ≠ true:=by
        unfold RowsUp at hup
        rw[List.pairwise_map,List.pairwise_map] at hup
        refine hup.imp fun {a b} h=>?_
        have h2:=h a b rfl rfl
        rw[h2]
        decide
       have hterm:=hsome ks hpK hks hsort
       have hkl:ks.length=K.length:=hks.length_eq
       have hkok:∀ c ∈ ks,CN c/\c.length=p.length:=fun c hc=>hKok c (hks.mem_iff.1 hc)
       clear hup hperm hz1 hsort hsome hvoid hkeys
       have hpl:=hp.1.len
       (conv=>whnf)
       refine Ok.seq ?_
       (refine Ok.region tok ?_;conv=>whnf)
       refine Ok.ghostB 3 1 5 rfl rfl ?_
       (conv=>whnf)
       (try (conv=>whnf));repeat' (first|refine Ok.seq ?_|(refine Ok.region tok ?_;conv=>whnf)|(refine Or.inl ?_;(conv=>whnf);(repeat (refine aI ?_;conv=>whnf));refine⟨_,text_at p hp.1,rfl,?_⟩;conv=>whnf)|fail)
       refine Or.inr (Or.inr (Or.inl ?_));(conv=>whnf);refine⟨_,_,Tryz.func104,rfl,Tryz.call104,?_⟩;(conv=>whnf)
       (try (conv=>whnf));repeat' (first|refine Ok.seq ?_|(refine Ok.region tok ?_;conv=>whnf)|fail)
       refine Or.inr (Or.inr (Or.inr (Or.inr ?_)))
       (conv=>whnf)
       refine effW_fresh copyAt rfl ?_
       (conv=>whnf)
       (try (conv=>whnf));repeat' (first|((refine And.intro byteT ?_);conv=>whnf)|refine Ok.seq ?_|(refine Ok.region tok ?_;conv=>whnf)|refine Ok.block ?_|((first|refine Ok.ret ?_|refine⟨_,_,rfl,rfl,?_⟩|refine aJ ?_);conv=>whnf)|fail)
       refine Ok.loopU [2,4,6,18,88,89] [90] 4 4 (fun (i:Nat)=>[.i .i64 (i:Nat)]) (fun (i:Nat) (_:List (List D))=>[crow p,tzero,[.own 2 K.length],[.bp 3 0,.own 3 (kf p ks i).length]]) (fun (i:Nat) (_:Vx.Rows)=>[some (138,M.map crow),some (138,(ks.take i++W.drop i).map crow),some (206,(ks.map dup).map trow2),some (5,(kf p ks i).map bcell)]) (fun (i:Nat)=>i<=K.length) (fun (i:Nat)=>K.length - i) (0) (Nat.zero_le _) ?_;(conv=>whnf);refine⟨by ((conv=>whnf);first|rfl|(simp[envCat,tkL0,cells9,crow,trow2,kf_zero];done)|(simp[envCat,tkL0,cells9,crow,trow2,kf_zero];rw[IntKind.wrap_i64];omega)),?_⟩
       rintro i hi4
       have hfl:(kf p ks i).length<=256+100000*256:=kf_len hpl (fun c hc=>(hkok c hc).1.1.len) (by omega)
       have hbl:((kf p ks i).map bcell).length=(kf p ks i).length:=lMp0 _
       have htl:((ks.map dup).map trow2).length=K.length:=by simp[hkl]
       have hml:((ks.take i++W.drop i).map crow).length=W.length:=by simp;omega
       have hml2:∀ y,(((ks.take i++W.drop i).set i y).map crow).length=W.length:=fun y=>by simp;omega
       (conv=>whnf)
       by_cases hil4:i<K.length
       . obtain⟨c,hc⟩:∃ c,ks[i]? = some c:=⟨_,gEt0 (by omega)⟩
         have hco:=hkok c (mOf0 hc)
         have hcl:=hco.1.1.len
         have hdi:(ks.map dup)[((i:Nat):Int).toNat]? = some (dup c):=by simp[hc]
         obtain⟨y,hy⟩:=over_at (ks:=ks) (W:=W) (i:=i) (by omega) (by omega)
         have hst:=over_set (W:=W) hc (by omega)
         have hnx:=kf_step (p:=p) hc
         (try (conv=>whnf));repeat' (first|refine Ok.seq ?_|((first|refine Ok.region tok ?_|refine Ok.cond ?_);conv=>whnf)|refine Ok.block ?_|((first|refine Ok.skip ?_|refine rd rfl (by assumption) ?_);conv=>whnf)|(refine bI ?_ ?_<;>intro<;>(conv=>whnf)<;>(try (exfalso;omega)))|(refine aJ ?_;conv=>whnf)|fail)
         refine st c hy (by simp) (by simp[setCells,dup]) ?_
         rw[toNat_cast]
         (try (conv=>whnf));repeat' (first|(refine Ok.region tok ?_;conv=>whnf)|fail)
         refine Or.inr (Or.inr (Or.inl ?_));(conv=>whnf);refine⟨_,_,Tryz.func104,rfl,Tryz.call104,?_⟩;(conv=>whnf)
         (try (conv=>whnf));repeat' (first|refine Ok.seq ?_|(refine Ok.region tok ?_;conv=>whnf)|fail)
         refine Or.inr (Or.inr (Or.inr (Or.inr ?_)))
         (conv=>whnf)
         refine effW_used copyAt rfl ?_
         (conv=>whnf)
         have hdc:(dup c).2.length<=256:=hcl
         (try (conv=>whnf));repeat' (first|((refine And.intro byteT ?_);conv=>whnf)|refine Ok.seq ?_|((first|refine Ok.region tok ?_|refine Ok.ret ?_|refine nI ?_|refine⟨_,_,rfl,rfl,?_⟩|refine aJ ?_);conv=>whnf)|fail)
         refine⟨i+1,by omega,by omega,?_⟩
         rw[<- hst,hnx]
         (conv=>whnf)
         simp[envCat,dup]
       . have hie4:i=K.length:=by omega
         subst hie4
         (try (conv=>whnf));repeat' (first|refine Ok.seq ?_|((first|refine Ok.region tok ?_|refine Ok.region_plan (id:=35) tok follows [(0,4,[]),(2,4,[])] [.q 0,.q 1,.l 2,.q 3,.l 4,.q 5] (by kernel_rfl) ?_|refine Ok.cond ?_|refine Ok.exit ?_);conv=>whnf)|(refine bI ?_ ?_<;>intro<;>(conv=>whnf)<;>(try (exfalso;omega)))|fail)
         have hkey:=kf_key (p:=p) hkl
         have hne0:kf p ks K.length ≠ []:=kf_ne hp.2
         have htk:((ks.take K.length++W.drop K.length).map crow).take K.length=ks.map crow:=by
          rw[<- hkl,List.take_length,List.map_append]
          exact List.take_left' (by simp)
         refine Or.inr (Or.inr (Or.inr ?_))
         (conv=>whnf)
         refine effK_string strAt rfl rfl rfl (by rw[hbl];exact Nat.le_refl _) (take_all bcell _) hne0 ?_
         (conv=>whnf)
         (try (conv=>whnf));repeat' (first|(refine Ok.ret ?_;conv=>whnf)|fail)
         refine Or.inl ?_;(conv=>whnf)
         refine⟨rfl,.inr ⟨⟨p,ks⟩,((ks.take K.length++W.drop K.length).map crow).drop K.length,hterm,?_⟩⟩
         rw[htk]
         simp only[oneD,trow,hkey]
end Go.Proofs.YtcglkonooeddfaaGreatDoor
namespace Go.Proofs.YtcglkonooeddfaaGreatDoor
open Go Go.Vx
def szT(l:List Term):Nat:=(l.map fun t=>1+t.less.length).sum
theorem szT_snoc(l:List Term)(t:Term):szT (l++[t])=szT l+(1+t.less.length):=by simp[szT]
theorem szT_le{l:List Term}(h:∀ t ∈ l,t.less.length<=1048576):szT l<=l.length*1048577:=by
 induction l with
 | nil=>simp[szT]
 | cons t l ih=>
  have h1:=ih fun x hx=>h x (by simp[hx])
  have h2:=h t (by simp)
  simp only[szT,List.map_cons,List.sum_cons,List.length_cons] at h1 ⊢
  rw[Nat.add_mul]
  omega
theorem size_at(bits:Int)(l:List TR){rl room:List (List D)}(hl:l.length<=1048576)(hok:∀ x ∈ l,x.t.less.length<=1048576)(h:rl=l.map trow):FSpec Tryz.prog T 117 [.agg [.i .i64 bits,.lst 142 rl room]] (fun d _=>d = .i .i64 (szT (l.map TR.t):Nat)):=by
 subst h
 have hll:(l.map trow).length=l.length:=by simp
 refine FSpec.of_ok tok Tryz.func117 rfl Tryz.call117 (by simp) ?_
 (try (conv=>whnf));repeat' (first|refine Ok.seq ?_|(refine Ok.region tok ?_;conv=>whnf)|refine Ok.block ?_|fail)
 refine Ok.loopU [7,8] [3,9] 0 1 (fun (i:Nat)=>[.i .i64 (szT ((l.take i).map TR.t):Nat),.i .i64 (i:Nat)]) (fun _ b=>b) (fun _ r=>r) (fun (i:Nat)=>i<=l.length) (fun (i:Nat)=>l.length - i) (0) (Nat.zero_le _) ?_;(conv=>whnf);refine⟨by ((conv=>whnf);first|rfl|(simp[envCat,tkL0,cells9,crow,trow];done)|(simp[envCat,tkL0,cells9,crow,trow];rw[IntKind.wrap_i64];omega)),?_⟩
 rintro i hi
 have hs:szT ((l.take i).map TR.t)<=1048576*1048577:=by
  refine Nat.le_trans (szT_le fun t ht=>?_) (Nat.mul_le_mul_right _ (by simp;omega))
  obtain⟨x,hx,rfl⟩:=List.mem_map.1 ht
  exact hok x (List.mem_of_mem_take hx)
 (conv=>whnf)
 by_cases hil:i<l.length
 . obtain⟨x,hx⟩:∃ x,l[i]? = some x:=⟨_,gEt0 hil⟩
   have hxo:=hok x (mOf0 hx)
   have hxl:(x.t.less.map crow).length=x.t.less.length:=by simp
   have hnx:szT ((l.take (i+1)).map TR.t)=szT ((l.take i).map TR.t)+(1+x.t.less.length):=by rw[take_snoc hx,List.map_append];exact szT_snoc _ _
   generalize szT ((l.take i).map TR.t)=S at *
   (try (conv=>whnf));repeat' (first|refine Ok.seq ?_|((first|refine Ok.region tok ?_|refine Ok.cond ?_);conv=>whnf)|refine Ok.block ?_|((first|refine Ok.skip ?_|refine nI ?_|refine ix _ (by assumption) ?_);conv=>whnf)|(refine bI ?_ ?_<;>intro<;>(conv=>whnf)<;>(try (exfalso;omega)))|fail)
   refine⟨i+1,by omega,by omega,?_⟩
   rw[hnx]
   (conv=>whnf)
   simp[envCat]
 . have hie:i=l.length:=by omega
   subst hie
   rw[List.take_length]
   (try (conv=>whnf));repeat' (first|refine Ok.seq ?_|((first|refine Ok.region tok ?_|refine Ok.cond ?_|refine Ok.exit ?_|refine Ok.ret ?_);conv=>whnf)|(refine bI ?_ ?_<;>intro<;>(conv=>whnf)<;>(try (exfalso;omega)))|fail)
   refine Or.inl ?_;(conv=>whnf)
   rfl
theorem grG_map{α β:Type}(f:α->β)(R:β->β->Prop)(l:List α):(grG (fun a b=>R (f a) (f b)) l).map f=grG R (l.map f):=by
 have step:∀ (k:List α) (x:α),(addG (fun a b=>R (f a) (f b)) k x).map f=addG R (k.map f) (f x):=by
  intro k x
  by_cases h:∃ y ∈ k,R (f x) (f y)
  . rw[addG_in h,addG_in (by obtain⟨y,h1,h2⟩:=h;exact⟨f y,List.mem_map_of_mem h1,h2⟩)]
  . have h1:∀ y ∈ k,¬ R (f x) (f y):=fun y hy h2=>h ⟨y,hy,h2⟩
    rw[addG_out (R:=fun a b=>R (f a) (f b)) h1,addG_out (R:=R) (by
     intro y hy
     obtain⟨z,hz,rfl⟩:=List.mem_map.1 hy
     exact h1 z hz)]
    rw[List.map_append,List.filter_map]
    rfl
 have go:∀ (l k:List α),(l.foldl (addG (fun a b=>R (f a) (f b))) k).map f=(l.map f).foldl (addG R) (k.map f):=by
  intro l
  induction l with
  | nil=>intro k;rfl
  | cons x l ih=>intro k;rw[List.foldl_cons,ih,step];rfl
 exact go l []
theorem grG_len{α:Type}(R:α->α->Prop)(l:List α):(grG R l).length<=l.length:=by
 have step:∀ (k:List α) (x:α),(addG R k x).length<=k.length+1:=by
  intro k x
  by_cases h:∃ y ∈ k,R x y
  . rw[addG_in h];omega
  . rw[addG_out (fun y hy h2=>h ⟨y,hy,h2⟩),List.length_append]
    exact Nat.add_le_add_right (List.length_filter_le _ _) 1
 have go:∀ (l k:List α),(l.foldl (addG R) k).length<=k.length+l.length:=by
  intro l
  induction l with
  | nil=>intro k;simp
  | cons x l ih=>
   intro k
   have h1:=ih (addG R k x)
   have h2:=step k x
   simp only[List.foldl_cons,List.length_cons]
   omega
 show (l.foldl (addG R) []).length<=l.length
 have:=go l []
 simpa using this
def passedV:Value:=.iface 196 (.agg #[])
structure TO(n:Nat)(x:TR):Prop where
 tn:TN x
 ok:x.t.Ok n
theorem form_at(bits:Int)(n:Nat)(l:List TR){rl room:List (List D)}(hl:l.length<=1048576)(hok:∀ x ∈ l,TO n x)(h:rl=l.map trow)(hsz:szT (formT (l.map TR.t))<=128) :
    FSpec Tryz.prog T 64 [.i .i64 bits,.lst 142 rl room] (fun d rows=>∃ (ks:List TR) (rm:List (List D)),d = .agg [.i .i64 bits,.lst 142 (ks.map trow) rm]/\rows=[]/\ks.map TR.t=formT (l.map TR.t)/\∀ x ∈ ks,x ∈ l):=by
 subst h
 refine FSpec.of_ok tok Tryz.func64 rfl Tryz.call64 (by simp) ?_
 refine Ok.seq ?_
 (refine Ok.region tok ?_;conv=>whnf)
 refine Ok.seq ?_
 (refine Ok.region tok ?_;conv=>whnf)
 right
 left
 (conv=>whnf)
 refine⟨_,greatestT_at l hl (fun x hx=>(hok x hx).tn) rfl,?_⟩
 rintro d rows ⟨W,hW,rfl,rfl⟩
 have hWk:=hW.n
 have hWt:=hW.tk
 rw[List.take_length] at hWk hWt
 have hKl:(grG covR l).map TR.t=grG covT (l.map TR.t):=grG_map TR.t covT l
 have hKm:∀ x ∈ grG covR l,x ∈ l:=grG_sub covR l
 have hKn:=grG_len covR l
 have hWw:=hW.w
 have hkp:(W.map trow).length=W.length:=by simp
 generalize grG covR l=K at *
 have hkeys:∀ x ∈ (W.map trow).take K.length,∃ l,x[10]? = some (.s l):=by
  intro x hx
  obtain⟨y,_,rfl⟩:=List.mem_map.1 (List.mem_of_mem_take hx)
  exact⟨y.t.key,rfl⟩
 have htk:(W.map trow).take K.length=K.map trow:=by rw[<- List.map_take,hWt]
 (conv=>whnf)
 refine Ok.seq ?_
 refine Ok.sortSlice tok sort_term (by (conv=>whnf);exact⟨rfl,rfl⟩) rfl rfl rfl (by rw[hkp];exact hWk) rfl (by decide) (by decide) hkeys (by omega) ?_
 intro ys hperm hup
 rw[htk] at hperm
 obtain⟨ks,hks,rfl⟩:=perm_map_ex hperm _ rfl
 have hkl:ks.length=K.length:=hks.length_eq
 have hsort:(ks.map TR.t).Pairwise fun t u=>Op.bytesLess u.key t.key ≠ true:=by
  unfold RowsUp at hup
  rw[List.pairwise_map] at hup ⊢
  refine hup.imp fun {a b} h=>?_
  have h2:=h a.t.key b.t.key rfl rfl
  rw[h2]
  decide
 have hform:ks.map TR.t=formT (l.map TR.t):=formT_eq (n:=n) (fun t ht=>by
  obtain⟨x,hx,rfl⟩:=List.mem_map.1 ht
  exact (hok x hx).ok) (by rw[<- hKl];exact hks.map _) hsort
 have hmem:∀ x ∈ ks,x ∈ l:=fun x hx=>hKm x (hks.mem_iff.1 hx)
 have hrow:((ks.map trow++(W.map trow).drop K.length).take K.length)=ks.map trow:=by
  rw[<- hkl]
  exact List.take_left' (by simp)
 have hrl:(ks.map trow++(W.map trow).drop K.length).length=W.length:=by simp;omega
 clear hup hperm hkeys
 rw[<- hform] at hsz
 (conv=>whnf)
 (try (conv=>whnf));repeat' (first|refine Ok.seq ?_|((first|refine Ok.region tok ?_|refine Ok.cond ?_|refine Ok.skip ?_|refine Ok.ret ?_);conv=>whnf)|(refine Or.inl ?_;(conv=>whnf);(repeat (refine aI ?_;conv=>whnf));refine⟨_,size_at bits ks (by omega) (fun x hx=>(hok x (hmem x hx)).tn.n) hrow,rfl,?_⟩;conv=>whnf)|(refine bI ?_ ?_<;>intro<;>(conv=>whnf)<;>(try (exfalso;omega)))|fail)
 refine Or.inl ?_;(conv=>whnf)
 rw[hrow]
 exact⟨ks,_,rfl,rfl,hform,hmem⟩
theorem form_pan(bits:Int)(n:Nat)(l:List TR){rl room:List (List D)}(hl:l.length<=1048576)(hok:∀ x ∈ l,TO n x)(h:rl=l.map trow)(hsz:128<szT (formT (l.map TR.t))) :
    PSpec Tryz.prog T 64 [.i .i64 bits,.lst 142 rl room] passedV:=by
 subst h
 refine PSpec.of_ok Tryz.func64 rfl Tryz.call64 (by simp) ?_
 refine Ok.seq ?_
 (refine Ok.region tok ?_;conv=>whnf)
 refine Ok.seq ?_
 (refine Ok.region tok ?_;conv=>whnf)
 right
 left
 (conv=>whnf)
 refine⟨_,greatestT_at l hl (fun x hx=>(hok x hx).tn) rfl,?_⟩
 rintro d rows ⟨W,hW,rfl,rfl⟩
 have hWk:=hW.n
 have hWt:=hW.tk
 rw[List.take_length] at hWk hWt
 have hKl:(grG covR l).map TR.t=grG covT (l.map TR.t):=grG_map TR.t covT l
 have hKm:∀ x ∈ grG covR l,x ∈ l:=grG_sub covR l
 have hKn:=grG_len covR l
 have hWw:=hW.w
 have hkp:(W.map trow).length=W.length:=by simp
 generalize grG covR l=K at *
 have hkeys:∀ x ∈ (W.map trow).take K.length,∃ l,x[10]? = some (.s l):=by
  intro x hx
  obtain⟨y,_,rfl⟩:=List.mem_map.1 (List.mem_of_mem_take hx)
  exact⟨y.t.key,rfl⟩
 have htk:(W.map trow).take K.length=K.map trow:=by rw[<- List.map_take,hWt]
 (conv=>whnf)
 refine Ok.seq ?_
 refine Ok.sortSlice tok sort_term (by (conv=>whnf);exact⟨rfl,rfl⟩) rfl rfl rfl (by rw[hkp];exact hWk) rfl (by decide) (by decide) hkeys (by omega) ?_
 intro ys hperm hup
 rw[htk] at hperm
 obtain⟨ks,hks,rfl⟩:=perm_map_ex hperm _ rfl
 have hkl:ks.length=K.length:=hks.length_eq
 have hsort:(ks.map TR.t).Pairwise fun t u=>Op.bytesLess u.key t.key ≠ true:=by
  unfold RowsUp at hup
  rw[List.pairwise_map] at hup ⊢
  refine hup.imp fun {a b} h=>?_
  have h2:=h a.t.key b.t.key rfl rfl
  rw[h2]
  decide
 have hform:ks.map TR.t=formT (l.map TR.t):=formT_eq (n:=n) (fun t ht=>by
  obtain⟨x,hx,rfl⟩:=List.mem_map.1 ht
  exact (hok x hx).ok) (by rw[<- hKl];exact hks.map _) hsort
 have hmem:∀ x ∈ ks,x ∈ l:=fun x hx=>hKm x (hks.mem_iff.1 hx)
 have hrow:((ks.map trow++(W.map trow).drop K.length).take K.length)=ks.map trow:=by
  rw[<- hkl]
  exact List.take_left' (by simp)
 have hrl:(ks.map trow++(W.map trow).drop K.length).length=W.length:=by simp;omega
 clear hup hperm hkeys
 rw[<- hform] at hsz
 (conv=>whnf)
 (try (conv=>whnf));repeat' (first|(refine Ok.region_throw (fun _=>by kernel_rfl) (by kernel_rfl) (by decide) (by decide) ?_)|refine Ok.seq ?_|((first|refine Ok.region tok ?_|refine Ok.cond ?_);conv=>whnf)|(refine Or.inl ?_;(conv=>whnf);(repeat (refine aI ?_;conv=>whnf));refine⟨_,size_at bits ks (by omega) (fun x hx=>(hok x (hmem x hx)).tn.n) hrow,rfl,?_⟩;conv=>whnf)|(refine bI ?_ ?_<;>intro<;>(conv=>whnf)<;>(try (exfalso;omega)))|fail)
 rfl
end Go.Proofs.YtcglkonooeddfaaGreatDoor
namespace Go.Proofs.YtcglkonooeddfaaGreatDoor
open Go Go.Vx
@[reducible] def srow(s:Str):List D:=[.s s]
noncomputable def PK(p:Str)(less:List Str):List Str:=(metL p less).foldl (putG inL blt) []
open Classical in
theorem putG_len{α:Type}(R L:α->α->Prop)(k:List α)(c:α):(putG R L k c).length<=k.length+1:=by
 unfold putG
 split
 . omega
 . rw[(insG_perm L c _).length_eq,List.length_cons]
   exact Nat.add_le_add_right (List.length_filter_le _ _) 1
theorem PK_len(p:Str)(less:List Str)(i:Nat):(PK p (less.take i)).length<=i:=by
 have go:∀ (l k:List Str),(l.foldl (putG inL blt) k).length<=k.length+l.length:=by
  intro l
  induction l with
  | nil=>intro k;simp
  | cons x l ih=>
   intro k
   have h1:=ih (putG inL blt k x)
   have h2:=putG_len inL blt k x
   simp only[List.foldl_cons,List.length_cons]
   omega
 have h1:=go (metL p (less.take i)) []
 have h2:=metL_le p (less.take i)
 have h3:=List.length_take_le i less
 unfold PK
 simp only[List.length_nil] at h1
 omega
theorem PK_mem{p:Str}{less:List Str}{c:Str}(h:c ∈ PK p less):c ∈ metL p less:=
 (putG_fold (R:=inL) (L:=blt) inL_refl (fun _ _ _=>inL_trans) blt_trans blt_total (metL p less)).1.sub c h
theorem termT_pk0{p:Str}{less:List Str}(h:PK p less=[p]):termT p less=none:=by
 unfold PK at h
 unfold termT
 simp only
 rw[if_pos h]
theorem termT_pk1{p:Str}{less:List Str}(h:PK p less ≠ [p]):termT p less=some ⟨p,PK p less⟩:=by
 unfold PK at h
 unfold termT
 simp only
 rw[if_neg h]
 rfl
@[reducible] def drow(x:TR):List D:=[.s x.t.p,.lst 9 (x.t.less.map srow) x.room]
end Go.Proofs.YtcglkonooeddfaaGreatDoor
namespace Go.Proofs.YtcglkonooeddfaaGreatDoor
open Go Go.Vx
theorem tTail_nil:tTail []=[]:=rfl
theorem szS_eq(l:List Term):szT l=szS l:=rfl
structure SpOk(n:Nat)(l:List TR):Prop where
 n256:n<=256
 size:szS (l.map TR.t)<=1048576
 wide:∀ x ∈ l,x.t.wide n
 pos:l ≠ []->0<n
theorem SpOk.len{n:Nat}{l:List TR}(h:SpOk n l):l.length<=1048576:=by
 have h1:=szS_len (l.map TR.t)
 have h2:=h.size
 rw[lMp0] at h1
 omega
theorem SpOk.less{n:Nat}{l:List TR}(h:SpOk n l){x:TR}(hx:x ∈ l):x.t.less.length<=1048576:=by
 have h1:=szS_mem (List.mem_map_of_mem (f:=TR.t) hx)
 have h2:=h.size
 omega
theorem SpOk.w256{n:Nat}{l:List TR}(h:SpOk n l):∀ t ∈ l.map TR.t,t.p.length<=256/\∀ m ∈ t.less,m.length<=256:=by
 intro t ht
 obtain⟨x,hx,rfl⟩:=List.mem_map.1 ht
 have h1:=h.wide x hx
 have h2:=h.n256
 exact⟨by rw[h1.1];exact h2,fun m hm=>by rw[h1.2 m hm];exact h2⟩
theorem SpOk.sep{n:Nat}{l:List TR}(h:SpOk n l)(i:Nat):(sepT ((l.map TR.t).take i)).length<=257*1048576:=by
 have h1:=sepT_len (l:=(l.map TR.t).take i) fun t ht=>h.w256 t (List.mem_of_mem_take ht)
 have h2:=szS_take (l.map TR.t) i
 have h3:=h.size
 omega
theorem SpOk.pre{n:Nat}{l:List TR}(h:SpOk n l)(i:Nat):(preT (l.map TR.t) i).length<=257*1048576+1:=by
 unfold preT
 split
 . simp
 . have:=h.sep i
   rw[List.length_append,List.length_singleton]
   omega
theorem SpOk.tail{n:Nat}{l:List TR}(h:SpOk n l){x:TR}(hx:x ∈ l)(j:Nat):(tTail (x.t.less.take j)).length<=257*1048576:=by
 have h1:=tTail_len (l:=x.t.less.take j) fun m hm=>(h.w256 x.t (List.mem_map_of_mem hx)).2 m (List.mem_of_mem_take hm)
 have h2:=h.less hx
 have h3:(x.t.less.take j).length<=x.t.less.length:=by simp;omega
 omega
def noneB(b:Int):Int:=if b<1\/256<b then 0 else b
theorem none_at(b:Int):FSpec Tryz.prog T 58 [.i .i64 b] (fun r rows=>r = .agg [.i .i64 (noneB b),.lst 142 [] []]/\rows=[]):=by
 refine FSpec.of_ok tok Tryz.func58 rfl Tryz.call58 (by simp) ?_
 (try (conv=>whnf));repeat' (first|refine Ok.seq ?_|((first|refine Ok.region tok ?_|refine Ok.cond ?_|refine Ok.skip ?_|refine Ok.ret ?_);conv=>whnf)|(refine bI ?_ ?_<;>intro<;>(conv=>whnf)<;>(try (exfalso;omega)))|fail)
 all_goals
  refine Or.inl ?_;(conv=>whnf)
  refine⟨?_,rfl⟩
  unfold noneB
  first|rw[if_pos (by omega)];rfl|rw[if_neg (by omega)];rfl
end Go.Proofs.YtcglkonooeddfaaGreatDoor
namespace Go.Proofs.YtcglkonooeddfaaGreatDoor
open Go Go.Vx
def bcl(i:Nat):D:=match i with|0=>.nilB 189|_+1=>.bp 1 0
theorem text2_at(n:Nat)(l:List TR){rl room:List (List D)}(hok:SpOk n l)(h:rl=l.map trow):FSpec Tryz.prog T 57 [.agg [.i .i64 (n:Int),.lst 142 rl room]] (fun d _=>d = .s (textS (l.map TR.t))):=by
 subst h
 have hll:(l.map trow).length=l.length:=by simp
 have hln:=hok.len
 have hn:=hok.n256
 refine FSpec.of_ok tok Tryz.func57 rfl Tryz.call57 (by simp) ?_
 (try (conv=>whnf));repeat' (first|refine Ok.seq ?_|((first|refine Ok.region tok ?_|refine Ok.cond ?_);conv=>whnf)|refine Ok.block ?_|((first|refine Ok.skip ?_|refine Ok.ret ?_);conv=>whnf)|(refine bI ?_ ?_<;>intro<;>(conv=>whnf)<;>(try (exfalso;omega)))|fail)
 . rename_i h
   refine Or.inl ?_;(conv=>whnf)
   have:l=[]:=List.eq_nil_of_length_eq_zero (by omega)
   subst this
   unfold textS
   rw[if_pos (by rfl)]
   rfl
 . rename_i h
   have hne:l.map TR.t ≠ []:=fun e=>h (by have:=congrArg List.length e;simp at this;simp[this])
   have hl0:l ≠ []:=fun e=>hne (by rw[e];rfl)
   have hpos:=hok.pos hl0
   refine Ok.ghostB 1 1 5 rfl rfl ?_
   (conv=>whnf)
   refine Ok.loopU [1,3,12,13] [14] 1 2 (fun (i:Nat)=>[.i .i64 (i:Nat)]) (fun (i:Nat) (_:List (List D))=>[[.i .i64 (n:Int),.lst 142 (l.map trow) room],[bcl i,.own 0 (sepT ((l.map TR.t).take i)).length]]) (fun (i:Nat) (_:Vx.Rows)=>[some (5,(sepT ((l.map TR.t).take i)).map bcell)]) (fun (i:Nat)=>i<=l.length) (fun (i:Nat)=>l.length - i) (0) (Nat.zero_le _) ?_;(conv=>whnf);refine⟨by ((conv=>whnf);first|rfl|(simp[envCat,tkL0,srow,drow,trow,bcell,sepT_nil,tTail_nil];done)|(simp[envCat,tkL0,srow,drow,trow,bcell,sepT_nil,tTail_nil];rw[IntKind.wrap_i64];omega)),?_⟩
   rintro i hi
   have hsl:=hok.sep i
   have hsm:((sepT ((l.map TR.t).take i)).map bcell).length=(sepT ((l.map TR.t).take i)).length:=lMp0 _
   by_cases hil:i<l.length
   . obtain⟨x,hx⟩:∃ x,l[i]? = some x:=⟨_,gEt0 hil⟩
     have hxm:=mOf0 hx
     have hxw:=hok.wide x hxm
     have hpl:x.t.p.length<=256:=by rw[hxw.1];exact hn
     have hxl:(x.t.less.map crow).length=x.t.less.length:=by simp
     have hxn:=hok.less hxm
     have hxt:(l.map TR.t)[i]? = some x.t:=by simp[hx]
     have hstep:=sepT_step hxt
     have hpre:=hok.pre i
     have hkl:x.t.key.length=n*(x.t.less.length+1):=key_len hxw.1 hxw.2
     have hkb:n*(x.t.less.length+1)<=256*1048577:=Nat.mul_le_mul hn (by omega)
     have hkn:n<=n*(x.t.less.length+1):=Nat.le_mul_of_pos_right n (by omega)
     have hkh:x.t.p=(x.t.key.take n).drop 0:=by rw[List.drop_zero];exact (key_head hxw.1).symm
     have hka:∀ (j:Nat) (m:Str),x.t.less[j]? = some m->m=(x.t.key.take (n*(j+1)+n)).drop (n*(j+1)):=fun j m hm=>(key_at hxw.1 hxw.2 hm).symm
     by_cases hi0:i=0
     . have hp0:preT (l.map TR.t) i=[]:=by rw[hi0];rfl
       have hs0:sepT ((l.map TR.t).take i)=[]:=by rw[hi0];rfl
       have hb0:bcl i = .nilB 189:=by rw[hi0];rfl
       rw[hs0] at hsl hsm ⊢
       rw[hb0]
       rw[hp0] at hpre hstep
       (conv=>whnf)
       (try (conv=>whnf));repeat' (first|refine Ok.seq ?_|((first|refine Ok.region tok ?_|refine Ok.cond ?_);conv=>whnf)|refine Ok.block ?_|((first|refine Ok.skip ?_|refine ix _ (by assumption) ?_|refine⟨_,by assumption,?_⟩|refine⟨_,_,rfl,rfl,?_⟩);conv=>whnf)|(refine bI ?_ ?_<;>intro<;>(conv=>whnf)<;>(try (exfalso;omega)))|(refine aJ ?_;conv=>whnf)|fail)
       refine Or.inr (Or.inr (Or.inl ?_));(conv=>whnf);refine⟨_,_,Tryz.func104,rfl,Tryz.call104,?_⟩;(conv=>whnf)
       (try (conv=>whnf));repeat' (first|refine Ok.seq ?_|(refine Ok.region tok ?_;conv=>whnf)|fail)
       refine Or.inr (Or.inr (Or.inr (Or.inr ?_)))
       (conv=>whnf)
       refine effW_fresh copyAt rfl ?_
       (conv=>whnf)
       (try (conv=>whnf));repeat' (first|((refine And.intro byteT ?_);conv=>whnf)|refine Ok.seq ?_|(refine Ok.region tok ?_;conv=>whnf)|refine Ok.block ?_|((first|refine Ok.ret ?_|refine⟨_,_,rfl,rfl,?_⟩|refine aJ ?_);conv=>whnf)|fail)
       refine Ok.loopU [1,3,5,12,13,14] [6] 1 3 (fun (j:Nat)=>[.i .i64 (n*(j+1):Nat)]) (fun (j:Nat) (_:List (List D))=>[[.i .i64 (n:Int),.lst 142 (l.map trow) room],[.bp 1 0,.own 0 (([]:Str)++x.t.p++tTail (x.t.less.take j)).length],trow x]) (fun (j:Nat) (_:Vx.Rows)=>[some (5,(([]:Str)++x.t.p++tTail (x.t.less.take j)).map bcell)]) (fun (j:Nat)=>j<=x.t.less.length) (fun (j:Nat)=>x.t.less.length - j) (0) (Nat.zero_le _) ?_;(conv=>whnf);refine⟨by ((conv=>whnf);first|rfl|(simp[envCat,tkL0,srow,drow,trow,bcell,sepT_nil,tTail_nil];done)|(simp[envCat,tkL0,srow,drow,trow,bcell,sepT_nil,tTail_nil];rw[IntKind.wrap_i64];omega)),?_⟩
       rintro j hj
       have htl:=hok.tail hxm j
       have hFl:(([]:Str)++x.t.p++tTail (x.t.less.take j)).length<=257*1048576+1+256+257*1048576:=by rw[List.length_append,List.length_append];omega
       have hFm:((([]:Str)++x.t.p++tTail (x.t.less.take j)).map bcell).length=(([]:Str)++x.t.p++tTail (x.t.less.take j)).length:=lMp0 _
       have hjn:n*(j+1+1)=n*(j+1)+n:=Nat.mul_succ n (j+1)
       (conv=>whnf)
       by_cases hjl:j<x.t.less.length
       . obtain⟨m,hm⟩:∃ m,x.t.less[j]? = some m:=⟨_,gEt0 hjl⟩
         have hml:m.length<=256:=by rw[hxw.2 m (mOf0 hm)];exact hn
         have hts:=tTail_snoc hm
         have hj2:n*(j+1)+n<=n*(x.t.less.length+1):=by rw[<- hjn];exact Nat.mul_le_mul_left n (by omega)
         have hma:=hka j m hm
         generalize hF:([]:Str)++x.t.p++tTail (x.t.less.take j)=F at *
         have hF2:((F++[45]).map bcell).length=(F++[45]).length:=lMp0 _
         generalize hJ:n*(j+1)=J at *
         (try (conv=>whnf));repeat' (first|refine Ok.seq ?_|((first|refine Ok.region tok ?_|refine Ok.cond ?_);conv=>whnf)|refine Ok.block ?_|(refine Ok.skip ?_;conv=>whnf)|(refine bI ?_ ?_<;>intro<;>(conv=>whnf)<;>(try (exfalso;omega)))|fail)
         refine Or.inr (Or.inr (Or.inl ?_));(conv=>whnf);refine⟨_,_,Tryz.func103,rfl,Tryz.call103,?_⟩;(conv=>whnf)
         (try (conv=>whnf));repeat' (first|refine Ok.seq ?_|(refine Ok.region tok ?_;conv=>whnf)|fail)
         refine Or.inr (Or.inr (Or.inr (Or.inr ?_)))
         (conv=>whnf)
         refine effW_used copyAt rfl ?_
         (conv=>whnf)
         (try (conv=>whnf));repeat' (first|refine Ok.seq ?_|((first|refine Ok.region tok ?_|refine Ok.ret ?_|refine nI ?_|refine⟨_,by assumption,?_⟩|refine Alt2.l (aI ?_)|refine⟨_,.inl ⟨rfl,rfl⟩,?_⟩|refine⟨_,_,rfl,rfl,?_⟩|refine aJ ?_);conv=>whnf)|fail)
         try refine⟨J,J+n,rfl,(by show ((J:Nat):Int)+(n:Int)=((J+n:Nat):Int);omega),by omega,by omega,m,hma,?_⟩
         (try (conv=>whnf));repeat' (first|fail)
         refine Or.inr (Or.inr (Or.inl ?_));(conv=>whnf);refine⟨_,_,Tryz.func104,rfl,Tryz.call104,?_⟩;(conv=>whnf)
         (try (conv=>whnf));repeat' (first|refine Ok.seq ?_|(refine Ok.region tok ?_;conv=>whnf)|fail)
         refine Or.inr (Or.inr (Or.inr (Or.inr ?_)))
         (conv=>whnf)
         refine effW_used copyAt rfl ?_
         (conv=>whnf)
         (try (conv=>whnf));repeat' (first|((refine And.intro byteT ?_);conv=>whnf)|refine Ok.seq ?_|((first|refine Ok.region tok ?_|refine Ok.ret ?_|refine nI ?_|refine⟨_,_,rfl,rfl,?_⟩|refine aJ ?_);conv=>whnf)|fail)
         refine⟨j+1,by omega,by omega,?_⟩
         rw[hjn,hts,<- List.append_assoc,<- List.append_assoc,hF]
         (conv=>whnf)
         simp[envCat,bcell]
       . have hje:j=x.t.less.length:=by omega
         subst hje
         rw[List.take_length]
         (try (conv=>whnf));repeat' (first|refine Ok.seq ?_|((first|refine Ok.region tok ?_|refine Ok.cond ?_|refine Ok.exit ?_|refine nI ?_);conv=>whnf)|(refine bI ?_ ?_<;>intro<;>(conv=>whnf)<;>(try (exfalso;omega)))|fail)
         refine⟨i+1,by omega,by omega,?_⟩
         rw[hstep]
         unfold ttxt
         rw[<- List.append_assoc]
         (conv=>whnf)
         rfl
     . have hp0:preT (l.map TR.t) i=sepT ((l.map TR.t).take i)++[43]:=by unfold preT;rw[if_neg hi0]
       have hb0:bcl i = .bp 1 0:=by cases i with|zero=>exact absurd rfl hi0|succ k=>rfl
       rw[hb0]
       rw[hp0] at hpre hstep
       have hpre2:((sepT ((l.map TR.t).take i)++[43]).map bcell).length=(sepT ((l.map TR.t).take i)++[43]).length:=lMp0 _
       (conv=>whnf)
       (try (conv=>whnf));repeat' (first|refine Ok.seq ?_|((first|refine Ok.region tok ?_|refine Ok.cond ?_);conv=>whnf)|refine Ok.block ?_|((first|refine Ok.skip ?_|refine ix _ (by assumption) ?_);conv=>whnf)|(refine bI ?_ ?_<;>intro<;>(conv=>whnf)<;>(try (exfalso;omega)))|fail)
       refine Or.inr (Or.inr (Or.inl ?_));(conv=>whnf);refine⟨_,_,Tryz.func103,rfl,Tryz.call103,?_⟩;(conv=>whnf)
       (try (conv=>whnf));repeat' (first|refine Ok.seq ?_|(refine Ok.region tok ?_;conv=>whnf)|fail)
       refine Or.inr (Or.inr (Or.inr (Or.inr ?_)))
       (conv=>whnf)
       refine effW_used copyAt rfl ?_
       (conv=>whnf)
       (try (conv=>whnf));repeat' (first|refine Ok.seq ?_|((first|refine Ok.region tok ?_|refine Ok.ret ?_|refine⟨_,by assumption,?_⟩|refine Alt2.l (aI ?_)|refine⟨_,.inl ⟨rfl,rfl⟩,?_⟩|refine⟨_,_,rfl,rfl,?_⟩|refine aJ ?_);conv=>whnf)|fail)
       refine Or.inr (Or.inr (Or.inl ?_));(conv=>whnf);refine⟨_,_,Tryz.func104,rfl,Tryz.call104,?_⟩;(conv=>whnf)
       (try (conv=>whnf));repeat' (first|refine Ok.seq ?_|(refine Ok.region tok ?_;conv=>whnf)|fail)
       refine Or.inr (Or.inr (Or.inr (Or.inr ?_)))
       (conv=>whnf)
       refine effW_used copyAt rfl ?_
       (conv=>whnf)
       (try (conv=>whnf));repeat' (first|((refine And.intro byteT ?_);conv=>whnf)|refine Ok.seq ?_|(refine Ok.region tok ?_;conv=>whnf)|refine Ok.block ?_|((first|refine Ok.ret ?_|refine⟨_,_,rfl,rfl,?_⟩|refine aJ ?_);conv=>whnf)|fail)
       refine Ok.loopU [1,3,5,12,13,14] [6] 1 3 (fun (j:Nat)=>[.i .i64 (n*(j+1):Nat)]) (fun (j:Nat) (_:List (List D))=>[[.i .i64 (n:Int),.lst 142 (l.map trow) room],[.bp 1 0,.own 0 ((sepT ((l.map TR.t).take i)++[43])++x.t.p++tTail (x.t.less.take j)).length],trow x]) (fun (j:Nat) (_:Vx.Rows)=>[some (5,((sepT ((l.map TR.t).take i)++[43])++x.t.p++tTail (x.t.less.take j)).map bcell)]) (fun (j:Nat)=>j<=x.t.less.length) (fun (j:Nat)=>x.t.less.length - j) (0) (Nat.zero_le _) ?_;(conv=>whnf);refine⟨by ((conv=>whnf);first|rfl|(simp[envCat,tkL0,srow,drow,trow,bcell,sepT_nil,tTail_nil];done)|(simp[envCat,tkL0,srow,drow,trow,bcell,sepT_nil,tTail_nil];rw[IntKind.wrap_i64];omega)),?_⟩
       rintro j hj
       have htl:=hok.tail hxm j
       have hFl:((sepT ((l.map TR.t).take i)++[43])++x.t.p++tTail (x.t.less.take j)).length<=257*1048576+1+256+257*1048576:=by rw[List.length_append,List.length_append];omega
       have hFm:(((sepT ((l.map TR.t).take i)++[43])++x.t.p++tTail (x.t.less.take j)).map bcell).length=((sepT ((l.map TR.t).take i)++[43])++x.t.p++tTail (x.t.less.take j)).length:=lMp0 _
       have hjn:n*(j+1+1)=n*(j+1)+n:=Nat.mul_succ n (j+1)
       (conv=>whnf)
       by_cases hjl:j<x.t.less.length
       . obtain⟨m,hm⟩:∃ m,x.t.less[j]? = some m:=⟨_,gEt0 hjl⟩
         have hml:m.length<=256:=by rw[hxw.2 m (mOf0 hm)];exact hn
         have hts:=tTail_snoc hm
         have hj2:n*(j+1)+n<=n*(x.t.less.length+1):=by rw[<- hjn];exact Nat.mul_le_mul_left n (by omega)
         have hma:=hka j m hm
         generalize hF:(sepT ((l.map TR.t).take i)++[43])++x.t.p++tTail (x.t.less.take j)=F at *
         have hF2:((F++[45]).map bcell).length=(F++[45]).length:=lMp0 _
         generalize hJ:n*(j+1)=J at *
         (try (conv=>whnf));repeat' (first|refine Ok.seq ?_|((first|refine Ok.region tok ?_|refine Ok.cond ?_);conv=>whnf)|refine Ok.block ?_|(refine Ok.skip ?_;conv=>whnf)|(refine bI ?_ ?_<;>intro<;>(conv=>whnf)<;>(try (exfalso;omega)))|fail)
         refine Or.inr (Or.inr (Or.inl ?_));(conv=>whnf);refine⟨_,_,Tryz.func103,rfl,Tryz.call103,?_⟩;(conv=>whnf)
         (try (conv=>whnf));repeat' (first|refine Ok.seq ?_|(refine Ok.region tok ?_;conv=>whnf)|fail)
         refine Or.inr (Or.inr (Or.inr (Or.inr ?_)))
         (conv=>whnf)
         refine effW_used copyAt rfl ?_
         (conv=>whnf)
         (try (conv=>whnf));repeat' (first|refine Ok.seq ?_|((first|refine Ok.region tok ?_|refine Ok.ret ?_|refine nI ?_|refine⟨_,by assumption,?_⟩|refine Alt2.l (aI ?_)|refine⟨_,.inl ⟨rfl,rfl⟩,?_⟩|refine⟨_,_,rfl,rfl,?_⟩|refine aJ ?_);conv=>whnf)|fail)
         try refine⟨J,J+n,rfl,(by show ((J:Nat):Int)+(n:Int)=((J+n:Nat):Int);omega),by omega,by omega,m,hma,?_⟩
         (try (conv=>whnf));repeat' (first|fail)
         refine Or.inr (Or.inr (Or.inl ?_));(conv=>whnf);refine⟨_,_,Tryz.func104,rfl,Tryz.call104,?_⟩;(conv=>whnf)
         (try (conv=>whnf));repeat' (first|refine Ok.seq ?_|(refine Ok.region tok ?_;conv=>whnf)|fail)
         refine Or.inr (Or.inr (Or.inr (Or.inr ?_)))
         (conv=>whnf)
         refine effW_used copyAt rfl ?_
         (conv=>whnf)
         (try (conv=>whnf));repeat' (first|((refine And.intro byteT ?_);conv=>whnf)|refine Ok.seq ?_|((first|refine Ok.region tok ?_|refine Ok.ret ?_|refine nI ?_|refine⟨_,_,rfl,rfl,?_⟩|refine aJ ?_);conv=>whnf)|fail)
         refine⟨j+1,by omega,by omega,?_⟩
         rw[hjn,hts,<- List.append_assoc,<- List.append_assoc,hF]
         (conv=>whnf)
         simp[envCat,bcell]
       . have hje:j=x.t.less.length:=by omega
         subst hje
         rw[List.take_length]
         (try (conv=>whnf));repeat' (first|refine Ok.seq ?_|((first|refine Ok.region tok ?_|refine Ok.cond ?_|refine Ok.exit ?_|refine nI ?_);conv=>whnf)|(refine bI ?_ ?_<;>intro<;>(conv=>whnf)<;>(try (exfalso;omega)))|fail)
         refine⟨i+1,by omega,by omega,?_⟩
         rw[hstep]
         unfold ttxt
         rw[<- List.append_assoc]
         (conv=>whnf)
         rfl
   . have hie:i=l.length:=by omega
     subst hie
     rw[tkL0 (by simp)] at hsl hsm ⊢
     have hbl:bcl l.length = .bp 1 0:=by
      have:=List.length_pos_iff.2 hl0
      cases hh:l.length with
      | zero=>omega
      | succ k=>rfl
     rw[hbl]
     (conv=>whnf)
     have htne:sepT (l.map TR.t) ≠ []:=by
      obtain⟨x,hx⟩:∃ x,l[l.length - 1]? = some x:=⟨_,gEt0 (by have:=List.length_pos_iff.2 hl0;omega)⟩
      have hxt:(l.map TR.t)[l.length - 1]? = some x.t:=by simp[hx]
      have h1:=sepT_step hxt
      rw[show l.length - 1+1=l.length by have:=List.length_pos_iff.2 hl0;omega,tkL0 (by simp)] at h1
      rw[h1]
      intro e
      have h2:=(List.append_eq_nil_iff.1 (List.append_eq_nil_iff.1 e).2).1
      have h3:=(hok.wide x (mOf0 hx)).1
      rw[h2] at h3
      simp at h3
      omega
     (try (conv=>whnf));repeat' (first|refine Ok.seq ?_|((first|refine Ok.region tok ?_|refine Ok.cond ?_|refine Ok.exit ?_);conv=>whnf)|(refine bI ?_ ?_<;>intro<;>(conv=>whnf)<;>(try (exfalso;omega)))|fail)
     refine Or.inr (Or.inr (Or.inr (Or.inr ?_)))
     (conv=>whnf)
     refine effW_of_effK (effK_string strAt rfl rfl rfl (by rw[hsm];exact Nat.le_refl _) (take_all bcell _) htne ?_)
     (conv=>whnf)
     (try (conv=>whnf));repeat' (first|(refine Ok.ret ?_;conv=>whnf)|fail)
     refine Or.inl ?_;(conv=>whnf)
     unfold textS
     rw[if_neg hne]
     rfl
end Go.Proofs.YtcglkonooeddfaaGreatDoor
namespace Go.Proofs.YtcglkonooeddfaaGreatDoor
open Go Go.Vx
def ov1(a b:UInt8):UInt8:=if a=120 then b else a
def curL(c d:Str)(i:Nat):Str:=List.zipWith ov1 (c.take i) (d.take i)++c.drop i
def pcT(c d:Str)(j:Nat):Option Str:=
 match c[j]?,d[j]? with
 | some a,some b=>if a=120/\b ≠ 120 then some ((curL c d j).set j (97 - b)) else none
 | _,_=>none
def pcsT(c d:Str)(i:Nat):List Str:=(List.range i).filterMap (pcT c d)
def splitT(c d:Str):List Str:=if (meetT c d).isSome then pcsT c d c.length else [c]
theorem pcsT_some{c d:Str}{i:Nat}{x:Str}(h:pcT c d i=some x):pcsT c d (i+1)=pcsT c d i++[x]:=by
 unfold pcsT;rw[List.range_succ,List.filterMap_append];simp[h]
theorem pcsT_none{c d:Str}{i:Nat}(h:pcT c d i=none):pcsT c d (i+1)=pcsT c d i:=by
 unfold pcsT;rw[List.range_succ,List.filterMap_append];simp[h]
theorem pcT_at{c d:Str}{j:Nat}{a b:UInt8}(ha:c[j]? = some a)(hb:d[j]? = some b):pcT c d j=if a=120/\b ≠ 120 then some ((curL c d j).set j (97 - b)) else none:=by
 unfold pcT;rw[ha,hb]
theorem curL_len{c d:Str}(hl:d.length=c.length)(i:Nat):(curL c d i).length=c.length:=by simp[curL];omega
theorem curL_at{c d:Str}{i:Nat}{a:UInt8}(ha:c[i]? = some a)(hd:i<d.length):(curL c d i)[i]? = some a:=by
 have hi:i<c.length:=(gSm0.1 ha).1
 have hl:(List.zipWith ov1 (c.take i) (d.take i)).length=i:=by simp;omega
 unfold curL
 rw[List.getElem?_append_right (by omega),hl,Nat.sub_self,List.getElem?_drop]
 exact ha
theorem curL_succ{c d:Str}{i:Nat}{a b:UInt8}(ha:c[i]? = some a)(hb:d[i]? = some b):curL c d (i+1)=(curL c d i).set i (ov1 a b):=by
 have hi:i<c.length:=(gSm0.1 ha).1
 have hi2:i<d.length:=(gSm0.1 hb).1
 have hl:(List.zipWith ov1 (c.take i) (d.take i)).length=i:=by simp;omega
 unfold curL
 rw[List.set_append,if_neg (by omega),hl,Nat.sub_self,List.drop_eq_getElem_cons hi,List.set_cons_zero,take_snoc ha,take_snoc hb]
 rw[List.zipWith_append (by simp;omega)]
 simp
theorem curL_zero(c d:Str):curL c d 0=c:=by simp[curL]
theorem set_self{l:Str}{i:Nat}{a:UInt8}(h:l[i]? = some a):l.set i a=l:=by
 have hi:=(gSm0.1 h).1
 apply List.ext_getElem?
 intro k
 by_cases hk:k=i
 . subst hk;rw[List.getElem?_set_self hi,h]
 . rw[List.getElem?_set_ne (Ne.symm hk)]
theorem curL_same{c d:Str}{i:Nat}{a b:UInt8}(ha:c[i]? = some a)(hb:d[i]? = some b)(h:¬ (a=120/\b ≠ 120)):curL c d (i+1)=curL c d i:=by
 rw[curL_succ ha hb,show ov1 a b=a by
  unfold ov1
  split
  . rename_i he
    by_cases hb2:b=120
    . rw[hb2,he]
    . exact absurd ⟨he,hb2⟩ h
  . rfl]
 exact set_self (curL_at ha (gSm0.1 hb).1)
theorem ct_set{l:Str}{i:Nat}{b:UInt8}(h:CT l)(hb:b=48\/b=49\/b=120):CT (l.set i b):=by
 refine⟨by rw[List.length_set];exact h.len,fun x hx=>?_⟩
 rcases List.mem_or_eq_of_mem_set hx with hx|rfl
 . exact h.cub x hx
 . exact hb
theorem ov1_cub{a b:UInt8}(ha:a=48\/a=49\/a=120)(hb:b=48\/b=49\/b=120):ov1 a b=48\/ov1 a b=49\/ov1 a b=120:=by
 unfold ov1;split
 . exact hb
 . exact ha
theorem curL_ct{c d:Str}(hc:CT c)(hd:CT d)(hl:d.length=c.length)(i:Nat):CT (curL c d i):=by
 induction i with
 | zero=>rw[curL_zero];exact hc
 | succ i ih=>
  by_cases hi:i<c.length
  . have ha:=gEt0 hi
    have hb:=gEt0 (show i<d.length by omega)
    rw[curL_succ ha hb]
    exact ct_set ih (ov1_cub (hc.cub _ (mOf0 ha)) (hd.cub _ (mOf0 hb)))
  . rw[show curL c d (i+1)=curL c d i by
      unfold curL
      rw[tkL0 (show c.length<=i+1 by omega),tkL0 (show d.length<=i+1 by omega),tkL0 (show c.length<=i by omega),tkL0 (show d.length<=i by omega),List.drop_of_length_le (show c.length<=i+1 by omega),List.drop_of_length_le (show c.length<=i by omega)]]
    exact ih
theorem opp_cub{b:UInt8}(hb:b=48\/b=49\/b=120)(h:b ≠ 120):97 - b=48\/97 - b=49\/97 - b=120:=by
 rcases hb with rfl|rfl|rfl
 . right;left;rfl
 . left;rfl
 . exact absurd rfl h
theorem pcsT_cn{c d:Str}(hc:CN c)(hd:CT d)(hl:d.length=c.length)(i:Nat):∀ x ∈ pcsT c d i,CN x/\x.length=c.length:=by
 intro x hx
 obtain⟨j,_,hj⟩:=List.mem_filterMap.1 hx
 unfold pcT at hj
 split at hj
 . rename_i a b ha hb
   split at hj
   . rename_i hab
     cases hj
     have h1:=curL_len hl j
     refine⟨⟨ct_set (curL_ct hc.1 hd hl j) (opp_cub (hd.cub _ (mOf0 hb)) hab.2),fun e=>hc.2 ?_⟩,by rw[List.length_set];exact h1⟩
     have:=congrArg List.length e
     rw[List.length_set,h1] at this
     exact List.eq_nil_of_length_eq_zero (by simpa using this)
   . cases hj
 . cases hj
theorem splitT_cn{c d:Str}(hc:CN c)(hd:CT d):∀ x ∈ splitT c d,CN x/\x.length=c.length:=by
 intro x hx
 unfold splitT at hx
 split at hx
 . rename_i h
   obtain⟨m,hm⟩:=Option.isSome_iff_exists.1 h
   rw[meetT_eq hc.2] at hm
   have:=meetL_len hm
   exact pcsT_cn hc hd (by omega) _ x hx
 . simp at hx;subst hx;exact⟨hc,rfl⟩
theorem pcsT_len(c d:Str)(i:Nat):(pcsT c d i).length<=i:=by
 have:=List.length_filterMap_le (pcT c d) (List.range i)
 simpa[pcsT] using this
theorem splitT_len{c d:Str}(hc:c.length<=256):(splitT c d).length<=256:=by
 unfold splitT
 split
 . exact Nat.le_trans (pcsT_len _ _ _) hc
 . simp
end Go.Proofs.YtcglkonooeddfaaGreatDoor
namespace Go.Proofs.YtcglkonooeddfaaGreatDoor
open Go Go.Vx
@[reducible] def w4(f:Nat->Bool):List D:=[.i .u64 ((wof f 0).toNat:Int),.i .u64 ((wof f 1).toNat:Int),.i .u64 ((wof f 2).toNat:Int),.i .u64 ((wof f 3).toNat:Int)]
theorem at_one(f:Nat->Bool)(i:Nat)(hi:i<256):FSpec Tryz.prog T 167 [.ep (w4 f),.i .i64 (i:Int)] (fun d rows=>d = .b (f i=true)/\rows=[]):=by
 refine FSpec.of_ok tok Tryz.func167 rfl Tryz.call167 (by simp) ?_
 obtain⟨q,r,hqr,hr,hq⟩:=split64 i (by omega)
 have hrem:=rem64 hqr hr
 have hquo:=quo64 hqr hr (by omega)
 have hrr:((r:Nat):Int)=((r:Nat):Int)/\r<64:=⟨rfl,hr⟩
 have hca:=at_word (f:=f) hqr hr
 rcases hq with rfl|rfl|rfl|rfl
 all_goals
  (try (conv=>whnf));repeat' (first|((with_reducible_and_instances (first|refine nShr (by assumption) ?_|refine nAnd1' rfl ?_));conv=>whnf)|refine Ok.seq ?_|((first|refine Ok.region tok ?_|refine⟨_,(hquo.symm).symm,?_⟩|refine⟨_,(hrem.symm).symm,?_⟩|refine Ok.ret ?_|refine aJ ?_|refine⟨_,rfl,?_⟩);conv=>whnf)|fail)
  refine Or.inl ?_;(conv=>whnf)
  exact⟨congrArg D.b (propext hca),rfl⟩
theorem at_two(f g:Nat->Bool)(i:Nat)(hi:i<256):FSpec Tryz.prog T 167 [.ep (w4 f++w4 g),.i .i64 (i:Int)] (fun d rows=>d = .b (f i=true)/\rows=[]):=by
 refine FSpec.of_ok tok Tryz.func167 rfl Tryz.call167 (by simp) ?_
 obtain⟨q,r,hqr,hr,hq⟩:=split64 i (by omega)
 have hrem:=rem64 hqr hr
 have hquo:=quo64 hqr hr (by omega)
 have hrr:((r:Nat):Int)=((r:Nat):Int)/\r<64:=⟨rfl,hr⟩
 have hca:=at_word (f:=f) hqr hr
 rcases hq with rfl|rfl|rfl|rfl
 all_goals
  (try (conv=>whnf));repeat' (first|((with_reducible_and_instances (first|refine nShr (by assumption) ?_|refine nAnd1' rfl ?_));conv=>whnf)|refine Ok.seq ?_|((first|refine Ok.region tok ?_|refine⟨_,(hquo.symm).symm,?_⟩|refine⟨_,(hrem.symm).symm,?_⟩|refine Ok.ret ?_|refine aJ ?_|refine⟨_,rfl,?_⟩);conv=>whnf)|fail)
  refine Or.inl ?_;(conv=>whnf)
  exact⟨congrArg D.b (propext hca),rfl⟩
theorem ints_crow(c:Str):∀ d ∈ crow c,∃ k n,d = .i k n:=by
 intro d hd
 simp only[List.mem_cons,List.not_mem_nil,or_false] at hd
 rcases hd with rfl|rfl|rfl|rfl|rfl|rfl|rfl|rfl|rfl<;>exact⟨_,_,rfl⟩
theorem pk2{box:List (List D)}{a b x y:D}(h1:Pk box a x)(h2:Pk box b y):∀ (j:Nat) d e,[a,b][j]? = some d->[x,y][j]? = some e->Pk box d e:=by
 intro j d e hd he
 match j,hd,he with
 | 0,hd,he=>cases hd;cases he;exact h1
 | 1,hd,he=>cases hd;cases he;exact h2
 | j+2,hd,_=>simp at hd
end Go.Proofs.YtcglkonooeddfaaGreatDoor
namespace Go.Proofs.YtcglkonooeddfaaGreatDoor
open Go Go.Vx
theorem car_set{l:Str}{i:Nat}{b:UInt8}(h:l[i]? = some 120)(hb:dig b=true)(j:Nat):car (l.set i b) j=(car l j || decide (j=i)):=by
 have hi:=(gSm0.1 h).1
 by_cases hj:j=i
 . subst hj
   have h2:(l.set j b)[j]? = some b:=List.getElem?_set_self hi
   rw[(at_b h2).1,hb]
   simp
 . have:(l.set i b)[j]? = l[j]?:=List.getElem?_set_ne (Ne.symm hj)
   simp only[car,this,hj,decide_false,Bool.or_false]
theorem one_set{l:Str}{i:Nat}(h:l[i]? = some 120)(j:Nat):one (l.set i 49) j=(one l j || decide (j=i)):=by
 have hi:=(gSm0.1 h).1
 by_cases hj:j=i
 . subst hj
   have h2:(l.set j 49)[j]? = some 49:=List.getElem?_set_self hi
   rw[(at_b h2).2]
   simp
 . have:(l.set i 49)[j]? = l[j]?:=List.getElem?_set_ne (Ne.symm hj)
   simp only[one,this,hj,decide_false,Bool.or_false]
theorem one_set0{l:Str}{i:Nat}(h:l[i]? = some 120)(j:Nat):one (l.set i 48) j=one l j:=by
 have hi:=(gSm0.1 h).1
 by_cases hj:j=i
 . subst hj
   have h2:(l.set j 48)[j]? = some 48:=List.getElem?_set_self hi
   rw[(at_b h2).2,(at_b h).2]
   rfl
 . have:(l.set i 48)[j]? = l[j]?:=List.getElem?_set_ne (Ne.symm hj)
   simp only[one,this]
theorem split_at(c d:Str)(hc:CN c)(hd:CT d):FSpec Tryz.prog T 284 [.agg (crow c),.agg (crow d)] (fun r rows=>∃ rm,r = .lst 138 ((splitT c d).map crow) rm/\rows=[]):=by
 have hcl:=hc.1.len
 have hm:=meet_at c d hc.1 hd
 refine FSpec.of_ok tok Tryz.func284 rfl Tryz.call284 (by simp) ?_
 by_cases hs:(meetT c d).isSome=true
 . have hl:d.length=c.length:=by
     obtain⟨m,hm⟩:=Option.isSome_iff_exists.1 hs
     rw[meetT_eq hc.2] at hm
     have:=meetL_len hm
     omega
   (try (conv=>whnf));repeat' (first|refine Ok.seq ?_|((first|refine Ok.region tok ?_|refine Ok.cond ?_);conv=>whnf)|refine Ok.block ?_|((first|refine Ok.skip ?_|refine Ok.ret ?_);conv=>whnf)|(refine Or.inr (Or.inl ?_);(conv=>whnf);(repeat (refine aI ?_;conv=>whnf));refine⟨_,hm,?_⟩;rintro _ _ ⟨rfl,rfl⟩<;>(conv=>whnf))|(refine bI ?_ ?_<;>intro<;>(conv=>whnf)<;>(try (exfalso;omega)))|fail)
   . exact absurd hs (by assumption)
   refine Ok.ghost 7 138 rfl ?_
   (conv=>whnf)
   have e0:crow c=crow (curL c d 0):=by rw[curL_zero]
   have hll:((List.length c:Nat):Int)=((List.length (curL c d 0):Nat):Int):=by rw[curL_zero]
   refine Ok.loopU [2,3,21] [7,22] 1 3 (fun (i:Nat)=>[.own 0 (pcsT c d i).length,.i .i64 (i:Nat)]) (fun (i:Nat) (_:List (List D))=>[crow (curL c d i),crow d,crow ((meetT c d).getD [])]) (fun (i:Nat) (_:Vx.Rows)=>[some (138,(pcsT c d i).map crow)]) (fun (i:Nat)=>i<=c.length) (fun (i:Nat)=>c.length - i) (0) (Nat.zero_le _) ?_;(conv=>whnf);refine⟨by ((conv=>whnf);first|rfl|(simp[envCat,tkL0,cells9,crow];done)|(simp[envCat,tkL0,cells9,crow];rw[IntKind.wrap_i64];omega)),?_⟩
   rintro i hi
   have hcu:=curL_len hl i
   have hct:=curL_ct hc.1 hd hl i
   have hpl:=pcsT_len c d i
   have hpm:((pcsT c d i).map crow).length=(pcsT c d i).length:=by simp
   (conv=>whnf)
   by_cases hil:i<c.length
   . obtain⟨a,ha⟩:∃ a,c[i]? = some a:=⟨_,gEt0 hil⟩
     obtain⟨b,hb⟩:∃ b,d[i]? = some b:=⟨_,gEt0 (by omega)⟩
     have hz:=curL_at ha (show i<d.length by omega)
     have hac:=hc.1.cub a (mOf0 ha)
     have hbc:=hd.cub b (mOf0 hb)
     have hpc:=pcT_at ha hb
     have hsu:=curL_succ ha hb
     have hsm:=fun h=>curL_same ha hb h
     generalize hL:curL c d i=L at *
     generalize hQ:pcsT c d i=Q at *
     have s1:=at_two (car L) (one L) i (by omega)
     have s2:=at_two (car d) (one d) i (by omega)
     have s3:=at_one (one d) i (by omega)
     rw[(at_b hz).1] at s1
     rw[(at_b hb).1] at s2
     rw[(at_b hb).2] at s3
     obtain⟨q,r,hqr,hr,hq⟩:=split64 i (by omega)
     have hrem:=rem64 hqr hr
     have hquo:=quo64 hqr hr (by omega)
     have hrr:((r:Nat):Int)=((r:Nat):Int)/\r<64:=⟨rfl,hr⟩
     by_cases hab:a=120/\b ≠ 120
     . obtain⟨rfl,hb2⟩:=hab
       rw[if_pos ⟨rfl,hb2⟩] at hpc
       have hsn:=pcsT_some hpc
       rw[hQ] at hsn
       rw[show ov1 120 b=b from rfl] at hsu
       rcases hbc with rfl|rfl|rfl
       . rw[show (97:UInt8) - 48=49 from rfl] at hsn
         have k:=put_word (f:=car L) (g:=car (L.set i 48)) hqr hr (car_set hz rfl)
         have k':=put_word (f:=car L) (g:=car (L.set i 49)) hqr hr (car_set hz rfl)
         have o:=fun k=>wof_ext (f:=one (L.set i 48)) (g:=one L) (k:=k) fun j _=>one_set0 hz _
         have o':=put_word (f:=one L) (g:=one (L.set i 49)) hqr hr (one_set hz)
         rcases hq with rfl|rfl|rfl|rfl
         all_goals
          (try (conv=>whnf));repeat' (first|refine Ok.seq ?_|((first|refine Ok.region tok ?_|refine Ok.cond ?_);conv=>whnf)|refine Ok.block ?_|((first|refine Ok.skip ?_|refine Ok.exit ?_|refine nI ?_);conv=>whnf)|(refine Or.inr (Or.inr (Or.inr (Or.inr ?_)));(conv=>whnf);refine effW.of (effK.peek (by rfl) (pk2 (.bp _ _ ( crow L) rfl (fun d hd=>ints_crow _ d (List.mem_of_mem_drop hd))) (.i _ _)) (s1 ) ?_);rintro _ _ ⟨rfl,rfl⟩;(refine And.intro (by simp[gRowsP,grounds,D.ground]) ?_;conv=>whnf))|(refine Or.inr (Or.inr (Or.inr (Or.inr ?_)));(conv=>whnf);refine effW.of (effK.peek (by rfl) (pk2 (.bp _ _ ( crow d) rfl (fun d hd=>ints_crow _ d (List.mem_of_mem_drop hd))) (.i _ _)) (s2 ) ?_);rintro _ _ ⟨rfl,rfl⟩;(refine And.intro (by simp[gRowsP,grounds,D.ground]) ?_;conv=>whnf))|(refine bI ?_ ?_<;>intro<;>(conv=>whnf)<;>(try (exfalso;omega)))|fail)
          all_goals first
           | contradiction
           | skip
          refine Or.inr (Or.inr (Or.inl ?_));(conv=>whnf);refine⟨_,_,Tryz.func107,rfl,Tryz.call107,?_⟩;(conv=>whnf)
          (try (conv=>whnf));repeat' (first|((with_reducible_and_instances (first|refine nShl1' rfl (by assumption) ?_|refine nOr ?_));conv=>whnf)|refine Ok.seq ?_|((first|refine Ok.region tok ?_|refine Ok.region_plan (id:=0) tok follows [(5,12,[])] [.q 0,.q 1,.q 2,.q 3,.q 4,.q 5,.q 6,.q 7,.q 8,.q 9,.q 10,.q 11,.l 12] (by kernel_rfl) ?_|refine⟨_,(hquo.symm).symm,?_⟩|refine⟨_,(hrem.symm).symm,?_⟩|refine Ok.cond ?_);conv=>whnf)|(refine Or.inr (Or.inr (Or.inr (Or.inr ?_)));(conv=>whnf);refine effW.of (effK.peek (by rfl) (pk2 (.bp _ _ ( crow d) rfl (fun d hd=>ints_crow _ d (List.mem_of_mem_drop hd))) (.i _ _)) (s3 ) ?_);rintro _ _ ⟨rfl,rfl⟩;(refine And.intro (by simp[gRowsP,grounds,D.ground]) ?_;conv=>whnf))|(refine bI ?_ ?_<;>intro<;>(conv=>whnf)<;>(try (exfalso;omega)))|((first|refine aJ ?_|refine⟨_,rfl,?_⟩);conv=>whnf)|fail)
          all_goals first
           | contradiction
           | skip
          refine Or.inr (Or.inr (Or.inl ?_));(conv=>whnf);refine⟨_,_,Tryz.func107,rfl,Tryz.call107,?_⟩;(conv=>whnf)
          (try (conv=>whnf));repeat' (first|((first|(with_reducible_and_instances (first|refine nShl1' rfl (by assumption) ?_|refine nOr ?_))|refine Ok.region tok ?_|refine Ok.region_plan (id:=0) tok follows [(5,12,[])] [.q 0,.q 1,.q 2,.q 3,.q 4,.q 5,.q 6,.q 7,.q 8,.q 9,.q 10,.q 11,.l 12] (by kernel_rfl) ?_|refine⟨_,(hquo.symm).symm,?_⟩|refine⟨_,(hrem.symm).symm,?_⟩|refine nI ?_|refine Alt2.l (aI ?_)|refine⟨_,.inl ⟨rfl,rfl⟩,?_⟩|refine⟨_,_,rfl,rfl,?_⟩|refine aJ ?_|refine⟨_,rfl,?_⟩);conv=>whnf)|fail)
          refine⟨i+1,by omega,by omega,?_⟩
          rw[hsu,hsn]
          have a0:=(k 0).trans (by first|exact if_pos rfl|exact if_neg (by decide))
          have a1:=(k 1).trans (by first|exact if_pos rfl|exact if_neg (by decide))
          have a2:=(k 2).trans (by first|exact if_pos rfl|exact if_neg (by decide))
          have a3:=(k 3).trans (by first|exact if_pos rfl|exact if_neg (by decide))
          have b0:=o 0
          have b1:=o 1
          have b2:=o 2
          have b3:=o 3
          have e0:=(k' 0).trans (by first|exact if_pos rfl|exact if_neg (by decide))
          have e1:=(k' 1).trans (by first|exact if_pos rfl|exact if_neg (by decide))
          have e2:=(k' 2).trans (by first|exact if_pos rfl|exact if_neg (by decide))
          have e3:=(k' 3).trans (by first|exact if_pos rfl|exact if_neg (by decide))
          have f0:=(o' 0).trans (by first|exact if_pos rfl|exact if_neg (by decide))
          have f1:=(o' 1).trans (by first|exact if_pos rfl|exact if_neg (by decide))
          have f2:=(o' 2).trans (by first|exact if_pos rfl|exact if_neg (by decide))
          have f3:=(o' 3).trans (by first|exact if_pos rfl|exact if_neg (by decide))
          (conv=>whnf)
          simp only[envCat,crow,cells9,List.length_set,List.map_append,List.map_cons,List.map_nil,List.length_append,lMp0,List.length_cons,List.length_nil,a0,a1,a2,a3,b0,b1,b2,b3,e0,e1,e2,e3,f0,f1,f2,f3]
          rfl
       . rw[show (97:UInt8) - 49=48 from rfl] at hsn
         have k:=put_word (f:=car L) (g:=car (L.set i 49)) hqr hr (car_set hz rfl)
         have k':=put_word (f:=car L) (g:=car (L.set i 48)) hqr hr (car_set hz rfl)
         have o:=put_word (f:=one L) (g:=one (L.set i 49)) hqr hr (one_set hz)
         have o':=fun k=>wof_ext (f:=one (L.set i 48)) (g:=one L) (k:=k) fun j _=>one_set0 hz _
         rcases hq with rfl|rfl|rfl|rfl
         all_goals
          (try (conv=>whnf));repeat' (first|refine Ok.seq ?_|((first|refine Ok.region tok ?_|refine Ok.cond ?_);conv=>whnf)|refine Ok.block ?_|((first|refine Ok.skip ?_|refine Ok.exit ?_|refine nI ?_);conv=>whnf)|(refine Or.inr (Or.inr (Or.inr (Or.inr ?_)));(conv=>whnf);refine effW.of (effK.peek (by rfl) (pk2 (.bp _ _ ( crow L) rfl (fun d hd=>ints_crow _ d (List.mem_of_mem_drop hd))) (.i _ _)) (s1 ) ?_);rintro _ _ ⟨rfl,rfl⟩;(refine And.intro (by simp[gRowsP,grounds,D.ground]) ?_;conv=>whnf))|(refine Or.inr (Or.inr (Or.inr (Or.inr ?_)));(conv=>whnf);refine effW.of (effK.peek (by rfl) (pk2 (.bp _ _ ( crow d) rfl (fun d hd=>ints_crow _ d (List.mem_of_mem_drop hd))) (.i _ _)) (s2 ) ?_);rintro _ _ ⟨rfl,rfl⟩;(refine And.intro (by simp[gRowsP,grounds,D.ground]) ?_;conv=>whnf))|(refine bI ?_ ?_<;>intro<;>(conv=>whnf)<;>(try (exfalso;omega)))|fail)
          all_goals first
           | contradiction
           | skip
          refine Or.inr (Or.inr (Or.inl ?_));(conv=>whnf);refine⟨_,_,Tryz.func107,rfl,Tryz.call107,?_⟩;(conv=>whnf)
          (try (conv=>whnf));repeat' (first|((with_reducible_and_instances (first|refine nShl1' rfl (by assumption) ?_|refine nOr ?_));conv=>whnf)|refine Ok.seq ?_|((first|refine Ok.region tok ?_|refine Ok.region_plan (id:=0) tok follows [(5,12,[])] [.q 0,.q 1,.q 2,.q 3,.q 4,.q 5,.q 6,.q 7,.q 8,.q 9,.q 10,.q 11,.l 12] (by kernel_rfl) ?_|refine⟨_,(hquo.symm).symm,?_⟩|refine⟨_,(hrem.symm).symm,?_⟩|refine Ok.cond ?_);conv=>whnf)|(refine Or.inr (Or.inr (Or.inr (Or.inr ?_)));(conv=>whnf);refine effW.of (effK.peek (by rfl) (pk2 (.bp _ _ ( crow d) rfl (fun d hd=>ints_crow _ d (List.mem_of_mem_drop hd))) (.i _ _)) (s3 ) ?_);rintro _ _ ⟨rfl,rfl⟩;(refine And.intro (by simp[gRowsP,grounds,D.ground]) ?_;conv=>whnf))|(refine bI ?_ ?_<;>intro<;>(conv=>whnf)<;>(try (exfalso;omega)))|((first|refine aJ ?_|refine⟨_,rfl,?_⟩);conv=>whnf)|fail)
          all_goals first
           | contradiction
           | skip
          refine Or.inr (Or.inr (Or.inl ?_));(conv=>whnf);refine⟨_,_,Tryz.func107,rfl,Tryz.call107,?_⟩;(conv=>whnf)
          (try (conv=>whnf));repeat' (first|((first|(with_reducible_and_instances (first|refine nShl1' rfl (by assumption) ?_|refine nOr ?_))|refine Ok.region tok ?_|refine Ok.region_plan (id:=0) tok follows [(5,12,[])] [.q 0,.q 1,.q 2,.q 3,.q 4,.q 5,.q 6,.q 7,.q 8,.q 9,.q 10,.q 11,.l 12] (by kernel_rfl) ?_|refine⟨_,(hquo.symm).symm,?_⟩|refine⟨_,(hrem.symm).symm,?_⟩|refine nI ?_|refine Alt2.l (aI ?_)|refine⟨_,.inl ⟨rfl,rfl⟩,?_⟩|refine⟨_,_,rfl,rfl,?_⟩|refine aJ ?_|refine⟨_,rfl,?_⟩);conv=>whnf)|fail)
          refine⟨i+1,by omega,by omega,?_⟩
          rw[hsu,hsn]
          have a0:=(k 0).trans (by first|exact if_pos rfl|exact if_neg (by decide))
          have a1:=(k 1).trans (by first|exact if_pos rfl|exact if_neg (by decide))
          have a2:=(k 2).trans (by first|exact if_pos rfl|exact if_neg (by decide))
          have a3:=(k 3).trans (by first|exact if_pos rfl|exact if_neg (by decide))
          have b0:=(o 0).trans (by first|exact if_pos rfl|exact if_neg (by decide))
          have b1:=(o 1).trans (by first|exact if_pos rfl|exact if_neg (by decide))
          have b2:=(o 2).trans (by first|exact if_pos rfl|exact if_neg (by decide))
          have b3:=(o 3).trans (by first|exact if_pos rfl|exact if_neg (by decide))
          have e0:=(k' 0).trans (by first|exact if_pos rfl|exact if_neg (by decide))
          have e1:=(k' 1).trans (by first|exact if_pos rfl|exact if_neg (by decide))
          have e2:=(k' 2).trans (by first|exact if_pos rfl|exact if_neg (by decide))
          have e3:=(k' 3).trans (by first|exact if_pos rfl|exact if_neg (by decide))
          have f0:=o' 0
          have f1:=o' 1
          have f2:=o' 2
          have f3:=o' 3
          (conv=>whnf)
          simp only[envCat,crow,cells9,List.length_set,List.map_append,List.map_cons,List.map_nil,List.length_append,lMp0,List.length_cons,List.length_nil,a0,a1,a2,a3,b0,b1,b2,b3,e0,e1,e2,e3,f0,f1,f2,f3]
          rfl
       . exact absurd rfl hb2
     . rw[if_neg hab] at hpc
       have hsn:=pcsT_none hpc
       rw[hQ] at hsn
       have hsm:=hsm hab
       have hcases:(dig a=true)\/(dig a=false/\dig b=false):=by
        rcases hac with rfl|rfl|rfl
        . left;rfl
        . left;rfl
        . right
          rcases hbc with rfl|rfl|rfl
          . exact absurd ⟨rfl,by decide⟩ hab
          . exact absurd ⟨rfl,by decide⟩ hab
          . exact⟨rfl,rfl⟩
       rcases hcases with hda|⟨hda,hdb⟩
       . rw[hda] at s1
         (try (conv=>whnf));repeat' (first|refine Ok.seq ?_|((first|refine Ok.region tok ?_|refine Ok.cond ?_);conv=>whnf)|refine Ok.block ?_|((first|refine Ok.skip ?_|refine Ok.exit ?_|refine nI ?_);conv=>whnf)|(refine Or.inr (Or.inr (Or.inr (Or.inr ?_)));(conv=>whnf);refine effW.of (effK.peek (by rfl) (pk2 (.bp _ _ ( crow L) rfl (fun d hd=>ints_crow _ d (List.mem_of_mem_drop hd))) (.i _ _)) (s1 ) ?_);rintro _ _ ⟨rfl,rfl⟩;(refine And.intro (by simp[gRowsP,grounds,D.ground]) ?_;conv=>whnf))|(refine Or.inr (Or.inr (Or.inr (Or.inr ?_)));(conv=>whnf);refine effW.of (effK.peek (by rfl) (pk2 (.bp _ _ ( crow d) rfl (fun d hd=>ints_crow _ d (List.mem_of_mem_drop hd))) (.i _ _)) (s2 ) ?_);rintro _ _ ⟨rfl,rfl⟩;(refine And.intro (by simp[gRowsP,grounds,D.ground]) ?_;conv=>whnf))|(refine bI ?_ ?_<;>intro<;>(conv=>whnf)<;>(try (exfalso;omega)))|fail)
         all_goals first
          | contradiction
          | (refine⟨i+1,by omega,by omega,?_⟩
             rw[hsm,hsn]
             (conv=>whnf)
             rfl)
          | (rename_i h;exact absurd rfl h)
       . rw[hda] at s1
         rw[hdb] at s2
         (try (conv=>whnf));repeat' (first|refine Ok.seq ?_|((first|refine Ok.region tok ?_|refine Ok.cond ?_);conv=>whnf)|refine Ok.block ?_|((first|refine Ok.skip ?_|refine Ok.exit ?_|refine nI ?_);conv=>whnf)|(refine Or.inr (Or.inr (Or.inr (Or.inr ?_)));(conv=>whnf);refine effW.of (effK.peek (by rfl) (pk2 (.bp _ _ ( crow L) rfl (fun d hd=>ints_crow _ d (List.mem_of_mem_drop hd))) (.i _ _)) (s1 ) ?_);rintro _ _ ⟨rfl,rfl⟩;(refine And.intro (by simp[gRowsP,grounds,D.ground]) ?_;conv=>whnf))|(refine Or.inr (Or.inr (Or.inr (Or.inr ?_)));(conv=>whnf);refine effW.of (effK.peek (by rfl) (pk2 (.bp _ _ ( crow d) rfl (fun d hd=>ints_crow _ d (List.mem_of_mem_drop hd))) (.i _ _)) (s2 ) ?_);rintro _ _ ⟨rfl,rfl⟩;(refine And.intro (by simp[gRowsP,grounds,D.ground]) ?_;conv=>whnf))|(refine bI ?_ ?_<;>intro<;>(conv=>whnf)<;>(try (exfalso;omega)))|fail)
         all_goals first
          | contradiction
          | (refine⟨i+1,by omega,by omega,?_⟩
             rw[hsm,hsn]
             (conv=>whnf)
             rfl)
          | (rename_i h;exact absurd (fun q=>by cases q) h)
   . have hie:i=c.length:=by omega
     subst hie
     have hsp:splitT c d=pcsT c d c.length:=if_pos hs
     rw[hsp]
     (try (conv=>whnf));repeat' (first|refine Ok.seq ?_|((first|refine Ok.region tok ?_|refine Ok.cond ?_|refine Ok.exit ?_|refine Ok.ret ?_);conv=>whnf)|(refine bI ?_ ?_<;>intro<;>(conv=>whnf)<;>(try (exfalso;omega)))|fail)
     refine Or.inl ?_;(conv=>whnf)
     refine⟨[],?_,rfl⟩
     rw[tkL0 (by simp),List.drop_of_length_le (by simp)]
     rfl
 . have hn:splitT c d=[c]:=by unfold splitT;rw[if_neg hs]
   rw[hn]
   (try (conv=>whnf));repeat' (first|refine Ok.seq ?_|((first|refine Ok.region tok ?_|refine Ok.cond ?_);conv=>whnf)|refine Ok.block ?_|((first|refine Ok.skip ?_|refine Ok.ret ?_);conv=>whnf)|(refine Or.inr (Or.inl ?_);(conv=>whnf);(repeat (refine aI ?_;conv=>whnf));refine⟨_,hm,?_⟩;rintro _ _ ⟨rfl,rfl⟩<;>(conv=>whnf))|(refine bI ?_ ?_<;>intro<;>(conv=>whnf)<;>(try (exfalso;omega)))|fail)
   . refine Or.inl ?_;(conv=>whnf)
     exact⟨_,rfl,rfl⟩
   . rename_i h
     exact absurd (Classical.not_not.1 h) hs
end Go.Proofs.YtcglkonooeddfaaGreatDoor
namespace Go.Proofs.YtcglkonooeddfaaGreatDoor
open Go Go.Vx
structure Tst where
 f:Str
 op:Int
 form:Int
 lo:Int
 hi:Int
 len:Int
 pat:Str
structure Nd where
 kind:Int
 t:Tst
structure Fd where
 name:Str
 bits:Int
@[reducible] def tcells(t:Tst):List D:=[.s t.f,.i .i64 t.op,.i .i64 t.form,.i .i64 t.lo,.i .i64 t.hi,.i .i64 t.len,.s t.pat]
@[reducible] def nrow(x:Nd):List D:=.i .i64 x.kind :: tcells x.t
@[reducible] def frow(x:Fd):List D:=[.s x.name,.i .i64 x.bits]
theorem eqTest:EqT Tryz.prog 217 [.s,.i .i64,.i .i64,.i .i64,.i .i64,.i .i64,.s]:=EqT.of_b tok (ti:=_) rfl rfl (by kernel_rfl)
end Go.Proofs.YtcglkonooeddfaaGreatDoor
namespace Go.Proofs.YtcglkonooeddfaaGreatDoor
open Go Go.Vx
def Ltr(b:UInt8):Prop:=b.toNat=95\/(97<=b.toNat/\b.toNat<=122)\/(65<=b.toNat/\b.toNat<=90)
def Dgt(b:UInt8):Prop:=48<=b.toNat/\b.toNat<=57
def nameAt(i:Nat)(b:UInt8):Prop:=Ltr b\/(i ≠ 0/\Dgt b)
def NameP(s:Str):Prop:=s ≠ []/\s.length<=24/\∀ (i:Nat) b,s[i]? = some b->nameAt i b
theorem b_ff{p:Prop}(h:¬ p):D.b False=D.b p:=by congr 1;exact propext ⟨False.elim,h⟩
theorem b_tt{p:Prop}(h:p):D.b True=D.b p:=by congr 1;exact propext ⟨fun _=>h,fun _=>trivial⟩
theorem name_step{s:Str}{i:Nat}{b:UInt8}(h:∀ (j:Nat) c,j<i->s[j]? = some c->nameAt j c)(hb:s[i]? = some b)(hn:nameAt i b):∀ (j:Nat) c,j<i+1->s[j]? = some c->nameAt j c:=by
 intro j c hj hc
 by_cases hji:j=i
 . subst hji;rw[hb] at hc;cases hc;exact hn
 . exact h j c (by omega) hc
theorem name_at(s:Str):FSpec Tryz.prog T 173 [.s s] (fun d _=>d = .b (NameP s)):=by
 refine FSpec.of_ok tok Tryz.func173 rfl Tryz.call173 (by simp) ?_
 (try (conv=>whnf));repeat' (first|refine Ok.seq ?_|((first|refine Ok.region tok ?_|refine Ok.cond ?_);conv=>whnf)|refine Ok.block ?_|((first|refine Ok.skip ?_|refine Ok.ret ?_);conv=>whnf)|(refine bI ?_ ?_<;>intro<;>(conv=>whnf)<;>(try (exfalso;omega)))|fail)
 all_goals first
  | (rename_i h
     refine Or.inl ?_;(conv=>whnf)
     exact b_ff fun hn=>hn.1 (by simpa using h))
  | (rename_i h
     refine Or.inl ?_;(conv=>whnf)
     exact b_ff fun hn=>absurd hn.2.1 (by omega))
  | skip
 rename_i h0 h1
 have hne:s ≠ []:=fun e=>h0 (by simpa using e)
 have hle:s.length<=24:=by omega
 refine Ok.loopU [0,14] [15] 0 0 (fun (i:Nat)=>[.i .i64 (i:Nat)]) (fun _ b=>b) (fun _ r=>r) (fun (i:Nat)=>i<=s.length/\∀ (j:Nat) c,j<i->s[j]? = some c->nameAt j c) (fun (i:Nat)=>s.length - i) (0) (⟨Nat.zero_le _,fun j c hj=>absurd hj (by omega)⟩) ?_;(conv=>whnf);refine⟨by ((conv=>whnf);first|rfl|(simp[envCat,tkL0,nrow,frow];done)|(simp[envCat,tkL0,nrow,frow];rw[IntKind.wrap_i64];omega)),?_⟩
 rintro i ⟨hi,hall⟩
 (conv=>whnf)
 by_cases hil:i<s.length
 . obtain⟨b,hb⟩:∃ b,s[i]? = some b:=⟨_,gEt0 hil⟩
   have hbI:s[((i:Nat):Int).toNat]? = some b:=hb
   have hb255:=b.toNat_lt
   (try (conv=>whnf));repeat' (first|refine Ok.seq ?_|((first|refine Ok.region tok ?_|refine Ok.cond ?_);conv=>whnf)|refine Ok.block ?_|((first|refine Ok.skip ?_|refine Ok.ret ?_|refine nI ?_|refine⟨_,by assumption,?_⟩);conv=>whnf)|(refine bI ?_ ?_<;>intro<;>(conv=>whnf)<;>(try (exfalso;omega)))|((first|refine aJ ?_|refine num_any ?_);conv=>whnf)|fail)
   all_goals first
    | (exfalso;omega)
    | (refine Or.inl ?_;(conv=>whnf)
       refine b_ff fun hn=>?_
       have:=hn.2.2 i b hb
       unfold nameAt Ltr Dgt at this
       omega)
    | (refine⟨i+1,by omega,⟨by omega,name_step hall hb ?_⟩,?_⟩
       . unfold nameAt Ltr Dgt
         omega
       . (conv=>whnf)
         rfl)
 . have hie:i=s.length:=by omega
   subst hie
   (try (conv=>whnf));repeat' (first|refine Ok.seq ?_|((first|refine Ok.region tok ?_|refine Ok.cond ?_|refine Ok.exit ?_|refine Ok.ret ?_);conv=>whnf)|(refine bI ?_ ?_<;>intro<;>(conv=>whnf)<;>(try (exfalso;omega)))|fail)
   all_goals first
    | (exfalso;omega)
    | (refine Or.inl ?_;(conv=>whnf)
       exact b_tt ⟨hne,hle,fun j c hc=>hall j c (gSm0.1 hc).1 hc⟩)
end Go.Proofs.YtcglkonooeddfaaGreatDoor
namespace Go.Proofs.YtcglkonooeddfaaGreatDoor
open Go Go.Vx
theorem fdrop_at{α:Type}{l:List α}{i:Nat}{x:α}(h:l[i]? = some x):l.drop i=x :: l.drop (i+1):=by
 obtain⟨h1,rfl⟩:=gSm0.1 h
 exact List.drop_eq_getElem_cons h1
def findI(nm:Str):List Fd->Nat->Int
 | [],_=>-1
 | f :: l,k=>if f.name=nm then (k:Int) else findI nm l (k+1)
theorem findI_ge(nm:Str):∀ (l:List Fd) (k:Nat),(0<=findI nm l k ↔ ∃ f ∈ l,f.name=nm)/\-1<=findI nm l k/\findI nm l k<(k+l.length:Nat)
 | [],k=>by simp[findI];omega
 | f :: l,k=>by
  unfold findI
  split
  . rename_i h
    refine⟨⟨fun _=>⟨f,by simp,h⟩,fun _=>by omega⟩,by omega,by simp;omega⟩
  . rename_i h
    obtain⟨h1,h2,h3⟩:=findI_ge nm l (k+1)
    refine⟨h1.trans ⟨fun⟨g,hg,e⟩=>⟨g,by simp[hg],e⟩,fun⟨g,hg,e⟩=>?_⟩,h2,by simp at h3 ⊢;omega⟩
    rcases List.mem_cons.1 hg with rfl|hg
    . exact absurd e h
    . exact⟨g,hg,e⟩
theorem find_at(l:List Fd)(r:List (List D))(nm:Str)(hl:l.length<=2000000):FSpec Tryz.prog T 174 [.lst 127 (l.map frow) r,.s nm] (fun d _=>d = .i .i64 (findI nm l 0)):=by
 have h1:(l.map frow).length=l.length:=by simp
 refine FSpec.of_ok tok Tryz.func174 rfl Tryz.call174 (by simp) ?_
 (try (conv=>whnf));repeat' (first|refine Ok.seq ?_|(refine Ok.region tok ?_;conv=>whnf)|refine Ok.block ?_|fail)
 refine Ok.loopU [1,7,8] [9] 0 0 (fun (i:Nat)=>[.i .i64 (i:Nat)]) (fun _ b=>b) (fun _ r=>r) (fun (i:Nat)=>i<=l.length/\findI nm l 0=findI nm (l.drop i) i) (fun (i:Nat)=>l.length - i) (0) (⟨Nat.zero_le _,rfl⟩) ?_;(conv=>whnf);refine⟨by ((conv=>whnf);first|rfl|(simp[envCat,tkL0,nrow,frow];done)|(simp[envCat,tkL0,nrow,frow];rw[IntKind.wrap_i64];omega)),?_⟩
 rintro i ⟨hi,hf⟩
 (conv=>whnf)
 by_cases hil:i<l.length
 . obtain⟨c,hc⟩:∃ c,l[i]? = some c:=⟨_,gEt0 hil⟩
   have hcI:l[((i:Nat):Int).toNat]? = some c:=hc
   rw[fdrop_at hc] at hf
   (try (conv=>whnf));repeat' (first|refine Ok.seq ?_|((first|refine Ok.region tok ?_|refine Ok.cond ?_);conv=>whnf)|refine Ok.block ?_|((first|refine Ok.skip ?_|refine Ok.ret ?_|refine nI ?_|refine ix _ (by assumption) ?_);conv=>whnf)|(refine bI ?_ ?_<;>intro<;>(conv=>whnf)<;>(try (exfalso;omega)))|fail)
   all_goals first
    | (exfalso;omega)
    | (rename_i h
       refine Or.inl ?_;(conv=>whnf)
       rw[hf]
       unfold findI
       rw[if_pos h]
       rfl)
    | (rename_i h
       refine⟨i+1,by omega,⟨by omega,?_⟩,?_⟩
       . rw[hf]
         conv=>lhs;unfold findI
         rw[if_neg h]
       . (conv=>whnf)
         rfl)
 . have hie:i=l.length:=by omega
   subst hie
   rw[List.drop_length] at hf
   (try (conv=>whnf));repeat' (first|refine Ok.seq ?_|((first|refine Ok.region tok ?_|refine Ok.cond ?_|refine Ok.exit ?_|refine Ok.ret ?_);conv=>whnf)|(refine bI ?_ ?_<;>intro<;>(conv=>whnf)<;>(try (exfalso;omega)))|fail)
   all_goals first
    | (exfalso;omega)
    | (refine Or.inl ?_;(conv=>whnf)
       rw[hf]
       rfl)
def badF(pre:List Fd)(f:Fd)(sum:Int):Prop:=
 ¬ NameP f.name\/f.name=[97,110,121]\/f.name=[110,111,110,101]\/(∃ g ∈ pre,g.name=f.name)\/f.bits<1\/32<f.bits\/256<sum+f.bits
open Classical in
noncomputable def chkFrom(all:List Fd):List Fd->Nat->Int->Int × Int
 | [],_,_=>(0,0)
 | f :: r,i,sum=>if badF (all.take i) f sum then (40,(i:Int)) else chkFrom all r (i+1) (sum+f.bits)
noncomputable def chkO(l:List Fd):Int × Int:=if 12<l.length then (2,0) else if l=[] then (40,0) else chkFrom l l 0 0
theorem chkFrom_bad{all:List Fd}{f:Fd}{r:List Fd}{i:Nat}{sum:Int}(h:badF (all.take i) f sum):chkFrom all (f :: r) i sum=(40,(i:Int)):=by unfold chkFrom;rw[if_pos h]
theorem chkFrom_ok{all:List Fd}{f:Fd}{r:List Fd}{i:Nat}{sum:Int}(h:¬ badF (all.take i) f sum):chkFrom all (f :: r) i sum=chkFrom all r (i+1) (sum+f.bits):=by conv=>lhs;unfold chkFrom;rw[if_neg h]
theorem chkO_long{l:List Fd}(h:12<l.length):chkO l=(2,0):=by unfold chkO;rw[if_pos h]
theorem chkO_nil{l:List Fd}(h:l.length=0):chkO l=(40,0):=by unfold chkO;rw[if_neg (by omega),if_pos (List.eq_nil_of_length_eq_zero h)]
theorem chkO_of{l:List Fd}(h:¬ 12<l.length)(h2:l.length ≠ 0):chkO l=chkFrom l l 0 0:=by unfold chkO;rw[if_neg h,if_neg (fun e=>h2 (by rw[e];rfl))]
theorem check_at(l:List Fd)(r:List (List D))(hl:l.length<=2000000):FSpec Tryz.prog T 118 [.lst 127 (l.map frow) r] (fun d _=>d = .tup [.i .i64 (chkO l).1,.i .i64 (chkO l).2]):=by
 have h1:(l.map frow).length=l.length:=by simp
 refine FSpec.of_ok tok Tryz.func118 rfl Tryz.call118 (by simp) ?_
 (try (conv=>whnf));repeat' (first|refine Ok.seq ?_|((first|refine Ok.region tok ?_|refine Ok.cond ?_);conv=>whnf)|refine Ok.block ?_|((first|refine Ok.skip ?_|refine Ok.ret ?_);conv=>whnf)|(refine bI ?_ ?_<;>intro<;>(conv=>whnf)<;>(try (exfalso;omega)))|fail)
 all_goals first
  | (rename_i h
     refine Or.inl ?_;(conv=>whnf)
     rw[chkO_long (by omega)]
     rfl)
  | (rename_i h
     refine Or.inl ?_;(conv=>whnf)
     rw[chkO_nil (by omega)]
     rfl)
  | skip
 rename_i h2 h3
 rw[chkO_of (by omega) (by omega)]
 refine Ok.loopU [0,13,14] [4,15] 0 0 (fun (x:Nat × Int)=>[.i .i64 x.2,.i .i64 (x.1:Nat)]) (fun _ b=>b) (fun _ r=>r) (fun (x:Nat × Int)=>x.1<=l.length/\0<=x.2/\x.2<=256/\chkFrom l l 0 0=chkFrom l (l.drop x.1) x.1 x.2) (fun (x:Nat × Int)=>l.length - x.1) ((0,0)) (⟨Nat.zero_le _,by omega,by omega,rfl⟩) ?_;(conv=>whnf);refine⟨by ((conv=>whnf);first|rfl|(simp[envCat,tkL0,nrow,frow];done)|(simp[envCat,tkL0,nrow,frow];rw[IntKind.wrap_i64];omega)),?_⟩
 rintro⟨i,sum⟩ ⟨hi,hs0,hs1,hf⟩
 dsimp only at hi hs0 hs1 hf ⊢
 (conv=>whnf)
 by_cases hil:i<l.length
 . obtain⟨c,hc⟩:∃ c,l[i]? = some c:=⟨_,gEt0 hil⟩
   have hcI:l[((i:Nat):Int).toNat]? = some c:=hc
   rw[fdrop_at hc] at hf
   have hfg:=findI_ge c.name (l.take i) 0
   have hfa:=fun r=>find_at (l.take i) r c.name (by simp;omega)
   have hmt:(l.take i).map frow=((l.map frow++r).take i).drop 0:=by rw[List.drop_zero,List.take_append_of_le_length (by omega),List.map_take]
   (try (conv=>whnf));repeat' (first|(refine⟨(l.take i).map frow,_,hmt,rfl,?_⟩;conv=>whnf)|refine Ok.seq ?_|((first|refine Ok.region tok ?_|refine Ok.region_draw tok follows (by kernel_rfl) ?_|refine Ok.cond ?_);conv=>whnf)|refine Ok.block ?_|((first|refine Ok.skip ?_|refine Ok.ret ?_|refine nI ?_|refine ix _ (by assumption) ?_|refine⟨_,name_at c.name,rfl,?_⟩|refine⟨_,hfa _,rfl,?_⟩|refine⟨_,_,rfl,rfl,?_⟩);conv=>whnf)|(refine bI ?_ ?_<;>intro<;>(conv=>whnf)<;>(try (exfalso;omega)))|(refine aJ ?_;conv=>whnf)|fail)
   all_goals first
    | (exfalso;omega)
    | (refine Or.inl ?_;(conv=>whnf)
       rw[hf,chkFrom_bad (show badF (l.take i) c sum from by
        unfold badF
        first
         | exact .inl (by assumption)
         | exact .inr (.inl (by assumption))
         | exact .inr (.inr (.inl (by assumption)))
         | exact .inr (.inr (.inr (.inl (hfg.1.1 (by assumption)))))
         | exact .inr (.inr (.inr (.inr (by omega)))))]
       rfl)
    | skip
   all_goals
    refine⟨(i+1,sum+c.bits),by dsimp only;omega,⟨by dsimp only;omega,by dsimp only;omega,by dsimp only;omega,?_⟩,?_⟩
   . rw[hf]
     refine chkFrom_ok fun hb=>?_
     rcases hb with h|h|h|h|h
     . exact absurd h (by assumption)
     . exact absurd h (by assumption)
     . exact absurd h (by assumption)
     . exact absurd (hfg.1.2 h) (by assumption)
     . omega
   . (conv=>whnf)
     rfl
 . have hie:i=l.length:=by omega
   subst hie
   rw[List.drop_length] at hf
   (try (conv=>whnf));repeat' (first|refine Ok.seq ?_|((first|refine Ok.region tok ?_|refine Ok.cond ?_|refine Ok.exit ?_|refine Ok.ret ?_);conv=>whnf)|(refine bI ?_ ?_<;>intro<;>(conv=>whnf)<;>(try (exfalso;omega)))|fail)
   all_goals first
    | (exfalso;omega)
    | (refine Or.inl ?_;(conv=>whnf)
       rw[hf]
       rfl)
end Go.Proofs.YtcglkonooeddfaaGreatDoor
namespace Go.Proofs.YtcglkonooeddfaaGreatDoor
open Go Go.Vx
def bitC(v k:Nat):UInt8:=if v / 2 ^ k % 2=1 then 49 else 48
def binT(v bits n:Nat):Str:=(List.range n).map fun i=>bitC v (bits - 1 - i)
def xsT(n:Nat):Str:=List.replicate n 120
def pfxT(v bits n:Nat):Str:=binT v bits n++xsT (bits - n)
theorem binT_len(v bits n:Nat):(binT v bits n).length=n:=by simp[binT]
theorem xsT_len(n:Nat):(xsT n).length=n:=by simp[xsT]
theorem pfxT_len{v bits n:Nat}(h:n<=bits):(pfxT v bits n).length=bits:=by rw[pfxT,List.length_append,binT_len,xsT_len];omega
def freeF(bits lo H:Nat):Nat->Nat->Nat
 | 0,f=>f
 | k+1,f=>if f<bits/\lo % 2 ^ (f+1)=0/\lo+2 ^ (f+1)<=H then freeF bits lo H k (f+1) else f
def coverF(bits H:Nat):Nat->Nat->List Str
 | 0,_=>[]
 | k+1,lo=>if lo<H then pfxT lo bits (bits - freeF bits lo H bits 0) :: coverF bits H k (lo+2 ^ freeF bits lo H bits 0) else []
def halvesF(bits lo H:Nat):Nat->Nat->List Str
 | 0,base=>if lo<=base/\base+1<=H then [pfxT base bits bits] else []
 | d+1,base=>if lo<=base/\base+2 ^ (d+1)<=H then [pfxT base bits (bits - (d+1))] else if H<=base\/base+2 ^ (d+1)<=lo then [] else halvesF bits lo H d base++halvesF bits lo H d (base+2 ^ d)
theorem freeF_le(bits lo H:Nat):∀ (k f:Nat),f<=bits->freeF bits lo H k f<=bits
 | 0,f,h=>h
 | k+1,f,h=>by
  unfold freeF
  split
  . rename_i h2;exact freeF_le bits lo H k (f+1) (by omega)
  . exact h
theorem freeF_eq{bits lo H d:Nat}(hd:d<=bits)(h1:∀ g,g<d->lo % 2 ^ (g+1)=0/\lo+2 ^ (g+1)<=H)(h2:¬ (d<bits/\lo % 2 ^ (d+1)=0/\lo+2 ^ (d+1)<=H)) :
    ∀ (k f:Nat),f<=d->d - f<=k->freeF bits lo H k f=d
 | 0,f,hf,hk=>by unfold freeF;omega
 | k+1,f,hf,hk=>by
  unfold freeF
  by_cases hfd:f=d
  . subst hfd;rw[if_neg h2]
  . rw[if_pos ⟨by omega,h1 f (by omega)⟩]
    exact freeF_eq hd h1 h2 k (f+1) (by omega) (by omega)
theorem coverF_fuel(bits H:Nat):∀ (k lo:Nat),H - lo<=k->coverF bits H k lo=coverF bits H (H - lo) lo
 | 0,lo,h=>by rw[show H - lo=0 by omega]
 | k+1,lo,h=>by
  by_cases hlt:lo<H
  . obtain⟨m,hm⟩:∃ m,H - lo=m+1:=⟨H - lo - 1,by omega⟩
    rw[hm]
    unfold coverF
    rw[if_pos hlt,if_pos hlt]
    have hp:0<2 ^ freeF bits lo H bits 0:=Nat.two_pow_pos _
    rw[coverF_fuel bits H k _ (by omega),<- coverF_fuel bits H m _ (by omega)]
  . rw[show H - lo=0 by omega]
    unfold coverF
    rw[if_neg hlt]
def coverC(bits H lo:Nat):List Str:=coverF bits H (H - lo) lo
theorem coverC_step{bits H lo:Nat}(h:lo<H):coverC bits H lo=pfxT lo bits (bits - freeF bits lo H bits 0) :: coverC bits H (lo+2 ^ freeF bits lo H bits 0):=by
 unfold coverC
 obtain⟨m,hm⟩:∃ m,H - lo=m+1:=⟨H - lo - 1,by omega⟩
 rw[hm]
 conv=>lhs;unfold coverF
 rw[if_pos h]
 have hp:0<2 ^ freeF bits lo H bits 0:=Nat.two_pow_pos _
 rw[coverF_fuel bits H m _ (by omega)]
theorem coverC_end{bits H lo:Nat}(h:H<=lo):coverC bits H lo=[]:=by
 unfold coverC
 rw[show H - lo=0 by omega]
 rfl
theorem mod_pow_le{x g d:Nat}(h:x % 2 ^ d=0)(hg:g<=d):x % 2 ^ g=0:=
 Nat.mod_eq_zero_of_dvd (Nat.dvd_trans (Nat.pow_dvd_pow 2 hg) (Nat.dvd_of_mod_eq_zero h))
theorem cover_halves{bits lo H:Nat}(hH:H<=2 ^ bits):∀ (d base:Nat),d<=bits->base % 2 ^ d=0 ->
    (d=bits\/∃ par,(par=base\/par+2 ^ d=base)/\par % 2 ^ (d+1)=0/\¬ (lo<=par/\par+2 ^ (d+1)<=H)) ->
    coverC bits H (max lo base)=halvesF bits lo H d base++coverC bits H (max lo (base+2 ^ d)):=by
 have cov:∀ (d base:Nat),d<=bits->base % 2 ^ d=0->(d=bits\/∃ par,(par=base\/par+2 ^ d=base)/\par % 2 ^ (d+1)=0/\¬ (lo<=par/\par+2 ^ (d+1)<=H)) ->
     lo<=base->base+2 ^ d<=H->coverC bits H (max lo base)=pfxT base bits (bits - d) :: coverC bits H (max lo (base+2 ^ d)):=by
  intro d base hd hb hp h1 h2
  have hpos:0<2 ^ d:=Nat.two_pow_pos _
  have hfree:freeF bits base H bits 0=d:=by
   refine freeF_eq hd (fun g hg=>⟨mod_pow_le hb (by omega),?_⟩) ?_ bits 0 (by omega) (by omega)
   . have:=Nat.pow_le_pow_right (show 0<2 by decide) (show g+1<=d by omega)
     omega
   . rintro⟨k1,k2,k3⟩
     rcases hp with rfl|⟨par,rfl|hpar,hm,hn⟩
     . omega
     . exact hn ⟨h1,k3⟩
     . have e1:2 ^ (d+1)=2 ^ d+2 ^ d:=by rw[Nat.pow_succ];omega
       obtain⟨q,hq⟩:=Nat.dvd_of_mod_eq_zero hm
       rw[<- hpar,hq,Nat.mul_add_mod,Nat.mod_eq_of_lt (by omega)] at k2
       omega
  rw[Nat.max_eq_right h1,Nat.max_eq_right (by omega),coverC_step (by omega),hfree]
 intro d
 induction d with
 | zero=>
  intro base hd hb hp
  unfold halvesF
  split
  . rename_i h
    rw[cov 0 base hd hb hp h.1 (by simpa using h.2)]
    simp
  . rename_i h
    by_cases h1:H<=base
    . rw[coverC_end (show H<=max lo base by omega),coverC_end (show H<=max lo (base+2 ^ 0) by omega)]
      rfl
    . have:max lo base=max lo (base+2 ^ 0):=by simp;omega
      rw[this]
      rfl
 | succ d ih=>
  intro base hd hb hp
  have e1:2 ^ (d+1)=2 ^ d+2 ^ d:=by rw[Nat.pow_succ];omega
  unfold halvesF
  split
  . rename_i h
    rw[cov (d+1) base hd hb hp h.1 h.2]
    rfl
  . rename_i h
    split
    . rename_i h1
      rcases h1 with h1|h1
      . rw[coverC_end (show H<=max lo base by omega),coverC_end (show H<=max lo (base+2 ^ (d+1)) by omega)]
        rfl
      . rw[show max lo base=max lo (base+2 ^ (d+1)) by omega]
        rfl
    . rename_i h1
      rw[ih base (by omega) (mod_pow_le hb (by omega)) (.inr ⟨base,.inl rfl,hb,h⟩)]
      have hb2:(base+2 ^ d) % 2 ^ d=0:=by rw[Nat.add_mod_right];exact mod_pow_le hb (by omega)
      rw[ih (base+2 ^ d) (by omega) hb2 (.inr ⟨base,.inr rfl,hb,h⟩),<- List.append_assoc]
      rw[show base+2 ^ d+2 ^ d=base+2 ^ (d+1) by omega]
theorem cover_is_halves{bits lo H:Nat}(hH:H<=2 ^ bits):coverC bits H lo=halvesF bits lo H bits 0:=by
 have:=cover_halves (lo:=lo) hH bits 0 (Nat.le_refl _) (by simp) (.inl rfl)
 rw[coverC_end (show H<=max lo (0+2 ^ bits) by omega),List.append_nil,Nat.max_eq_left (Nat.zero_le _)] at this
 exact this
theorem halves_none{bits lo H:Nat}:∀ (d base:Nat),H<=base\/base+2 ^ d<=lo->halvesF bits lo H d base=[]
 | 0,base,h=>by unfold halvesF;rw[if_neg (by simp at h;omega)]
 | d+1,base,h=>by
  unfold halvesF
  have hp:0<2 ^ (d+1):=Nat.two_pow_pos _
  rw[if_neg (by omega),if_pos h]
theorem halves_full{bits lo H:Nat}:∀ (d base:Nat),lo<=base->base+2 ^ d<=H->(halvesF bits lo H d base).length=1
 | 0,base,h1,h2=>by unfold halvesF;rw[if_pos ⟨h1,by simpa using h2⟩];rfl
 | d+1,base,h1,h2=>by unfold halvesF;rw[if_pos ⟨h1,h2⟩];rfl
theorem halves_side{bits lo H:Nat}:∀ (d base:Nat),lo<=base\/base+2 ^ d<=H->(halvesF bits lo H d base).length<=d+1
 | 0,base,h=>by unfold halvesF;split<;>simp
 | d+1,base,h=>by
  have e1:2 ^ (d+1)=2 ^ d+2 ^ d:=by rw[Nat.pow_succ];omega
  unfold halvesF
  split
  . simp
  . rename_i hc
    split
    . simp
    . rename_i hn
      rw[List.length_append]
      rcases h with h|h
      . by_cases hb:base+2 ^ d<=H
        . have:=halves_full (bits:=bits) d base h hb
          have:=halves_side (bits:=bits) (lo:=lo) (H:=H) d (base+2 ^ d) (.inl (by omega))
          omega
        . rw[halves_none d (base+2 ^ d) (.inl (by omega))]
          have:=halves_side (bits:=bits) (lo:=lo) (H:=H) d base (.inl h)
          simp;omega
      . by_cases hb:lo<=base+2 ^ d
        . have:=halves_full (bits:=bits) (H:=H) d (base+2 ^ d) hb (by omega)
          have:=halves_side (bits:=bits) (lo:=lo) (H:=H) d base (.inr (by omega))
          omega
        . rw[halves_none d base (.inr (by omega))]
          have:=halves_side (bits:=bits) (lo:=lo) (H:=H) d (base+2 ^ d) (.inr (by omega))
          simp;omega
theorem halves_len{bits lo H:Nat}:∀ (d base:Nat),(halvesF bits lo H d base).length<=2*d+2
 | 0,base=>by unfold halvesF;split<;>simp
 | d+1,base=>by
  have e1:2 ^ (d+1)=2 ^ d+2 ^ d:=by rw[Nat.pow_succ];omega
  unfold halvesF
  split
  . simp
  . rename_i hc
    split
    . simp
    . rename_i hn
      rw[List.length_append]
      by_cases h1:base+2 ^ d<=H
      . by_cases h2:lo<=base+2 ^ d
        . have:=halves_side (bits:=bits) (lo:=lo) (H:=H) d base (.inr h1)
          have:=halves_side (bits:=bits) (lo:=lo) (H:=H) d (base+2 ^ d) (.inl h2)
          omega
        . rw[halves_none d base (.inr (by omega))]
          have:=halves_len (bits:=bits) (lo:=lo) (H:=H) d (base+2 ^ d)
          simp;omega
      . rw[halves_none d (base+2 ^ d) (.inl (by omega))]
        have:=halves_len (bits:=bits) (lo:=lo) (H:=H) d base
        simp;omega
theorem coverC_len{bits lo H:Nat}(hH:H<=2 ^ bits):(coverC bits H lo).length<=2*bits+2:=by
 rw[cover_is_halves hH];exact halves_len _ _
end Go.Proofs.YtcglkonooeddfaaGreatDoor
namespace Go.Proofs.YtcglkonooeddfaaGreatDoor
open Go Go.Vx
def tw(b:Nat):Nat:=2 ^ b
theorem tw_pos(b:Nat):0<tw b:=Nat.two_pow_pos b
theorem tw62{k:Nat}(h:k<=62):tw k<=4611686018427387904:=Nat.pow_le_pow_right (show 0<2 by decide) h
theorem tw_mono{j k:Nat}(h:j<=k):tw j<=tw k:=Nat.pow_le_pow_right (show 0<2 by decide) h
theorem tw_succ(k:Nat):tw (k+1)=tw k+tw k:=by unfold tw;rw[Nat.pow_succ];omega
theorem wrap_nat{x:Nat}(h:x<9223372036854775808):IntKind.i64.wrap (x:Int)=(x:Int):=by rw[IntKind.wrap_i64];omega
theorem shl_i{p:Int->Prop}{b:Int}{k:Nat}(hb:b=(k:Int)/\k<=62)(h:p (tw k:Int)):∃ n,n=IntKind.i64.wrap (1*2 ^ (min b.toNat IntKind.i64.bits))/\p n:=by
 obtain⟨rfl,hk⟩:=hb
 refine⟨_,?_,h⟩
 have e1:min ((k:Int).toNat) IntKind.i64.bits=k:=by show min k 64=k;omega
 have e2:(1*2 ^ k:Int)=(tw k:Int):=by unfold tw;simp
 rw[e1,e2,wrap_nat (by have:=tw62 hk;omega)]
theorem shr_i{p:Int->Prop}{a b:Int}{v k:Nat}(ha:a=(v:Int))(hb:b=(k:Int)/\k<=62)(h:p ((v / tw k:Nat):Int)):∃ n,n=a.fdiv (2 ^ (min b.toNat IntKind.i64.bits))/\p n:=by
 obtain⟨rfl,hk⟩:=hb
 subst ha
 refine⟨_,?_,h⟩
 have e1:min ((k:Int).toNat) IntKind.i64.bits=k:=by show min k 64=k;omega
 rw[e1,Int.fdiv_eq_ediv_of_nonneg _ (by exact Int.pow_nonneg (by decide))]
 unfold tw
 simp
theorem and_i{p:Int->Prop}{a c:Int}{v k:Nat}(ha:a=(v:Int)/\v<9223372036854775808)(hc:c=(tw k:Int) - 1/\k<=62)(h:p ((v % tw k:Nat):Int)):∃ n,n=IntKind.i64.wrap ((BitVec.ofInt IntKind.i64.bits a &&& BitVec.ofInt IntKind.i64.bits c).toNat:Int)/\p n:=by
 obtain⟨rfl,hv⟩:=ha
 obtain⟨rfl,hk⟩:=hc
 refine⟨_,?_,h⟩
 have h2:=tw62 hk
 have hp:=tw_pos k
 have e1:BitVec.ofInt IntKind.i64.bits (v:Int)=BitVec.ofNat 64 v:=BitVec.ofInt_natCast ..
 have e2:BitVec.ofInt IntKind.i64.bits ((tw k:Int) - 1)=BitVec.ofNat 64 (tw k - 1):=by
  rw[show (tw k:Int) - 1=((tw k - 1:Nat):Int) by omega]
  exact BitVec.ofInt_natCast ..
 have e3:(BitVec.ofNat 64 v &&& BitVec.ofNat 64 (tw k - 1)).toNat=v % tw k:=by
  rw[BitVec.toNat_and,BitVec.toNat_ofNat,BitVec.toNat_ofNat,Nat.mod_eq_of_lt (show v<2 ^ 64 by omega),Nat.mod_eq_of_lt (show tw k - 1<2 ^ 64 by omega)]
  exact Nat.and_two_pow_sub_one_eq_mod v k
 rw[e1,e2]
 have key:∀ x:Nat,x=v % tw k->((v % tw k:Nat):Int)=IntKind.i64.wrap (x:Int):=by
  rintro x rfl
  rw[wrap_nat (by have:=Nat.mod_lt v hp;omega)]
 exact key _ e3
theorem and_1{p:Int->Prop}{a:Int}{v:Nat}(ha:a=(v:Int)/\v<9223372036854775808)(h:p ((v % 2:Nat):Int)):∃ n,n=IntKind.i64.wrap ((BitVec.ofInt IntKind.i64.bits a &&& BitVec.ofInt IntKind.i64.bits 1).toNat:Int)/\p n:=
 and_i (k:=1) ha ⟨rfl,by decide⟩ h
theorem and_1'{p:Int->Prop}{a c:Int}{v:Nat}(ha:a=(v:Int)/\v<9223372036854775808)(hc:c=1)(h:p ((v % 2:Nat):Int)):∃ n,n=IntKind.i64.wrap ((BitVec.ofInt IntKind.i64.bits a &&& BitVec.ofInt IntKind.i64.bits c).toNat:Int)/\p n:=by
 subst hc;exact and_1 ha h
theorem num_u8{x:Int}{p:Int->Prop}(h1:0<=x)(h2:x<=255)(h:p x):∃ n,n=IntKind.u8.wrap x/\p n:=⟨x,by rw[IntKind.wrap_u8];omega,h⟩
theorem bitC_nat(v k:Nat):((bitC v k).toNat:Int)=48+((v / 2 ^ k % 2:Nat):Int):=by
 unfold bitC
 split
 . rename_i h;rw[h];rfl
 . rename_i h
   have:v / 2 ^ k % 2=0:=by omega
   rw[this];rfl
theorem top_at(b:Nat)(hb:b<=62):FSpec Tryz.prog T 236 [.i .i64 (b:Nat)] (fun d _=>d = .i .i64 ((tw b:Int) - 1)):=by
 have h2:=tw62 hb
 have hk:((b:Nat):Int)=(b:Int)/\b<=62:=⟨rfl,hb⟩
 refine FSpec.of_ok tok Tryz.func236 rfl Tryz.call236 (by simp) ?_
 (try (conv=>whnf));repeat' (first|((with_reducible_and_instances refine shl_i (by assumption) ?_);conv=>whnf)|refine Ok.seq ?_|((first|refine Ok.region tok ?_|refine Ok.ret ?_|refine nI ?_|refine aJ ?_);conv=>whnf)|fail)
 refine Or.inl ?_;(conv=>whnf)
 rfl
end Go.Proofs.YtcglkonooeddfaaGreatDoor
namespace Go.Proofs.YtcglkonooeddfaaGreatDoor
open Go Go.Vx
def LayF(l:List Fd):Prop:=∀ f ∈ l,1<=f.bits/\f.bits<=32
def wid(l:List Fd):Nat:=(l.map fun f=>f.bits.toNat).sum
theorem wid_snoc{l:List Fd}{i:Nat}{c:Fd}(h:l[i]? = some c):wid (l.take (i+1))=wid (l.take i)+c.bits.toNat:=by
 unfold wid;rw[take_snoc h,List.map_append,List.sum_append];simp
theorem wid_le{l:List Fd}(h:LayF l):wid l<=32*l.length:=by
 induction l with
 | nil=>simp[wid]
 | cons f l ih=>
  have h1:=ih fun x hx=>h x (by simp[hx])
  have h2:=h f (by simp)
  simp only[wid,List.map_cons,List.sum_cons,List.length_cons] at h1 ⊢
  omega
theorem width_at(l:List Fd)(r:List (List D))(hl:l.length<=1000)(hf:LayF l):FSpec Tryz.prog T 121 [.lst 127 (l.map frow) r] (fun d _=>d = .i .i64 (wid l:Nat)):=by
 have h1:(l.map frow).length=l.length:=by simp
 have hw:=wid_le hf
 refine FSpec.of_ok tok Tryz.func121 rfl Tryz.call121 (by simp) ?_
 (try (conv=>whnf));repeat' (first|refine Ok.seq ?_|(refine Ok.region tok ?_;conv=>whnf)|refine Ok.block ?_|fail)
 refine Ok.loopU [6,7] [3,8] 0 0 (fun (i:Nat)=>[.i .i64 (wid (l.take i):Nat),.i .i64 (i:Nat)]) (fun _ b=>b) (fun _ r=>r) (fun (i:Nat)=>i<=l.length) (fun (i:Nat)=>l.length - i) (0) (Nat.zero_le _) ?_;(conv=>whnf);refine⟨by ((conv=>whnf);first|rfl|(simp[envCat,tkL0,nrow,frow,bcell];done)|(simp[envCat,tkL0,nrow,frow,bcell];rw[IntKind.wrap_i64];omega)),?_⟩
 intro i hi
 (conv=>whnf)
 by_cases hil:i<l.length
 . obtain⟨c,hc⟩:∃ c,l[i]? = some c:=⟨_,gEt0 hil⟩
   have hcI:l[((i:Nat):Int).toNat]? = some c:=hc
   have hcb:=hf c (mOf0 hc)
   have hsn:=wid_snoc hc
   have hwt:=wid_le (l:=l.take i) fun x hx=>hf x (List.mem_of_mem_take hx)
   have hti:(l.take i).length=i:=by simp;omega
   (try (conv=>whnf));repeat' (first|refine Ok.seq ?_|((first|refine Ok.region tok ?_|refine Ok.cond ?_);conv=>whnf)|refine Ok.block ?_|((first|refine Ok.skip ?_|refine nI ?_|refine ix _ (by assumption) ?_);conv=>whnf)|(refine bI ?_ ?_<;>intro<;>(conv=>whnf)<;>(try (exfalso;omega)))|fail)
   all_goals first
    | (exfalso;omega)
    | skip
   refine⟨i+1,by omega,by omega,?_⟩
   rw[hsn,show ((wid (l.take i)+c.bits.toNat:Nat):Int)=(wid (l.take i):Int)+c.bits by omega]
   (conv=>whnf)
   rfl
 . have hie:i=l.length:=by omega
   subst hie
   rw[List.take_length]
   (try (conv=>whnf));repeat' (first|refine Ok.seq ?_|((first|refine Ok.region tok ?_|refine Ok.cond ?_|refine Ok.exit ?_|refine Ok.ret ?_);conv=>whnf)|(refine bI ?_ ?_<;>intro<;>(conv=>whnf)<;>(try (exfalso;omega)))|fail)
   all_goals first
    | (exfalso;omega)
    | (refine Or.inl ?_;(conv=>whnf)
       rfl)
theorem binT_succ(v bits i:Nat):(binT v bits (i+1)).map bcell=(binT v bits i).map bcell++[bcell (bitC v (bits - 1 - i))]:=by
 unfold binT
 rw[List.range_succ,List.map_append,List.map_append]
 rfl
def fillT(v bits n i:Nat):Str:=binT v bits i++List.replicate (n - i) 0
theorem fillT_len{v bits n i:Nat}(h:i<=n):(fillT v bits n i).length=n:=by simp[fillT,binT_len];omega
theorem fillT_set{v bits n i:Nat}(h:i<n):((fillT v bits n i).map bcell).set i (bcell (bitC v (bits - 1 - i)))=(fillT v bits n (i+1)).map bcell:=by
 unfold fillT
 obtain⟨m,hm⟩:∃ m,n - i=m+1:=⟨n - i - 1,by omega⟩
 rw[hm,show n - (i+1)=m by omega,List.replicate_succ,List.map_append,List.map_append,binT_succ,List.set_append_right _ _ (by simp[binT_len])]
 simp[binT_len]
theorem getElem_bcell{l:Str}{i:Nat}{b:UInt8}(h:l[i]? = some b):(l.map bcell)[i]? = some (bcell b):=by simp[h]
theorem bits_pos{v k:Nat}(hv:v<9223372036854775808):v / tw k<9223372036854775808:=Nat.lt_of_le_of_lt (Nat.div_le_self _ _) hv
theorem mod2(v k:Nat):v / tw k % 2<=1:=by omega
theorem binary_at(v bits n:Nat)(hv:v<9223372036854775808)(hb:bits<=62)(hn:n<=bits):FSpec Tryz.prog T 293 [.i .i64 (v:Nat),.i .i64 (bits:Nat),.i .i64 (n:Nat)] (fun d _=>d = .s (binT v bits n)):=by
 refine FSpec.of_ok tok Tryz.func293 rfl Tryz.call293 (by simp) ?_
 (try (conv=>whnf));repeat' (first|refine Ok.seq ?_|(refine Ok.region tok ?_;conv=>whnf)|refine Ok.block ?_|((first|refine⟨_,_,rfl,rfl,?_⟩|refine aJ ?_|refine⟨_,rfl,?_⟩);conv=>whnf)|fail)
 rw[show List.replicate n [D.i .u8 0]=(fillT v bits n 0).map bcell by simp[fillT,binT,bcell]]
 refine Ok.loopU [0,1,7,12] [13] 1 0 (fun (i:Nat)=>[.i .i64 (i:Nat)]) (fun _ b=>b) (fun (i:Nat) (_:Vx.Rows)=>[some (5,(fillT v bits n i).map bcell)]) (fun (i:Nat)=>i<=n) (fun (i:Nat)=>n - i) (0) (Nat.zero_le _) ?_;(conv=>whnf);refine⟨by ((conv=>whnf);first|rfl|(simp[envCat,tkL0,nrow,frow,bcell];done)|(simp[envCat,tkL0,nrow,frow,bcell];rw[IntKind.wrap_i64];omega)),?_⟩
 intro i hi
 have hll:=fillT_len (v:=v) (bits:=bits) hi
 have hlm:((fillT v bits n i).map bcell).length=n:=by rw[lMp0,hll]
 (conv=>whnf)
 by_cases hil:i<n
 . have hfs:=fillT_set (v:=v) (bits:=bits) hil
   have hfa:(fillT v bits n i)[i]? = some 0:=by
    unfold fillT
    rw[List.getElem?_append_right (by rw[binT_len];exact Nat.le_refl _),binT_len,Nat.sub_self,List.getElem?_replicate,if_pos (by omega)]
   have hsh:((bits:Int) - 1 - (i:Int))=((bits - 1 - i:Nat):Int)/\bits - 1 - i<=62:=by omega
   have hm2:=mod2 v (bits - 1 - i)
   have hbc:=bitC_nat v (bits - 1 - i)
   (try (conv=>whnf));repeat' (first|((first|with_reducible_and_instances refine shr_i rfl (by assumption) ?_|refine and_1' ⟨rfl,bits_pos hv⟩ rfl ?_|with_reducible_and_instances refine num_u8 (by omega) (by omega) ?_);conv=>whnf)|refine Ok.seq ?_|((first|refine Ok.region tok ?_|refine Ok.cond ?_);conv=>whnf)|refine Ok.block ?_|((first|refine Ok.skip ?_|refine nI ?_);conv=>whnf)|(refine bI ?_ ?_<;>intro<;>(conv=>whnf)<;>(try (exfalso;omega)))|(refine aJ ?_;conv=>whnf)|fail)
   all_goals first
    | (exfalso;omega)
    | skip
   refine⟨_,getElem_bcell hfa,by simp[bcell],_,rfl,?_⟩
   (conv=>whnf)
   (try (conv=>whnf));repeat' (first|((first|refine Ok.region tok ?_|refine nI ?_);conv=>whnf)|fail)
   refine⟨i+1,by omega,by omega,?_⟩
   rw[<- hfs,show bcell (bitC v (bits - 1 - i))=[.i .u8 (48+((v / tw (bits - 1 - i) % 2:Nat):Int))] by unfold bcell;rw[hbc];rfl]
   (conv=>whnf)
   rfl
 . have hie:i=n:=by omega
   subst hie
   have hfe:fillT v bits i i=binT v bits i:=by simp[fillT]
   (try (conv=>whnf));repeat' (first|(refine⟨binT v bits i,by rw[tkL0 (by omega),hfe],?_⟩;conv=>whnf)|refine Ok.seq ?_|((first|refine Ok.region tok ?_|refine Ok.cond ?_|refine Ok.exit ?_|refine Ok.ret ?_);conv=>whnf)|(refine bI ?_ ?_<;>intro<;>(conv=>whnf)<;>(try (exfalso;omega)))|(refine aJ ?_;conv=>whnf)|fail)
   all_goals first
    | (exfalso;omega)
    | (refine Or.inl ?_;(conv=>whnf)
       rfl)
end Go.Proofs.YtcglkonooeddfaaGreatDoor
namespace Go.Proofs.YtcglkonooeddfaaGreatDoor
open Go Go.Vx Go.Shelf
theorem bExtraR:Builder.Extra Tryz.prog Tryz.vxRep_ren where
 sizeBuilder:=by kernel_rfl
 liesBuilder:=by kernel_rfl
 t5:=by kernel_rfl
 a5:=fun _=>by kernel_rfl
 z5:=fun _=>by kernel_rfl
 v5:=fun _=>by kernel_rfl
 infoByte:=by kernel_rfl
 cellsByte:=by kernel_rfl
 sizeByte:=by kernel_rfl
 neB5:=by decide
theorem repeatL_x(n:Nat):Lib.repeatL [120] n=xsT n:=by
 induction n with
 | zero=>rfl
 | succ n ih=>rw[Lib.repeatL,ih];rfl
theorem xrep_at(n:Nat)(h:n<=1000000):FSpec Tryz.prog T 176 [.s [120],.i .i64 (n:Nat)] (fun d _=>d = .s (xsT n)):=by
 have:=repeat_at (T:=T) Tryz.vxRep bExtraR Tryz.call176 [120] n (by simp;omega) (by omega)
 rw[repeatL_x] at this
 exact this
theorem prefix_at(v bits n:Nat)(hv:v<9223372036854775808)(hb:bits<=62)(hn:n<=bits)(vI bI nJ:Int)(e1:vI=v)(e2:bI=bits)(e3:nJ=n) :
    FSpec Tryz.prog T 285 [.i .i64 vI,.i .i64 bI,.i .i64 nJ] (fun d _=>d = .s (pfxT v bits n)):=by
 subst e1 e2 e3
 have hx:=xrep_at (bits - n) (by omega)
 have hbl:=binT_len v bits n
 have hxl:=xsT_len (bits - n)
 refine FSpec.of_ok tok Tryz.func285 rfl Tryz.call285 (by simp) ?_
 rw[show ((bits - n:Nat):Int)=(bits:Int) - n by omega] at hx
 (try (conv=>whnf));repeat' (first|refine Ok.seq ?_|((first|refine Ok.region tok ?_|refine Ok.ret ?_|refine nI ?_);conv=>whnf)|(refine Or.inl ?_;(conv=>whnf);(repeat (refine aI ?_;conv=>whnf));refine⟨_,binary_at v bits n hv hb hn,rfl,?_⟩;conv=>whnf)|(refine Or.inl ?_;(conv=>whnf);(repeat (refine aI ?_;conv=>whnf));refine⟨_,hx,rfl,?_⟩;conv=>whnf)|(refine aJ ?_;conv=>whnf)|fail)
 refine Or.inl ?_;(conv=>whnf)
 rfl
theorem free_step{bits lo H k f:Nat}(h:f<bits/\lo % tw (f+1)=0/\lo+tw (f+1)<=H):freeF bits lo H (k+1) f=freeF bits lo H k (f+1):=by
 conv=>lhs;unfold freeF
 exact if_pos h
theorem free_stop{bits lo H f:Nat}(k:Nat)(h:¬ (f<bits/\lo % tw (f+1)=0/\lo+tw (f+1)<=H)):freeF bits lo H k f=f:=by
 cases k with
 | zero=>rfl
 | succ k=>unfold freeF;exact if_neg h
theorem cover_at(bits lo H:Nat)(hb:bits<=32)(hH:H<=tw bits)(hlo:lo<=tw bits)(bI lI hI:Int)(e1:bI=bits)(e2:lI=lo)(e3:hI=(H:Int) - 1) :
    FSpec Tryz.prog T 242 [.i .i64 bI,.i .i64 lI,.i .i64 hI] (fun d rows=>d = .own 0 (coverC bits H lo).length/\rows=[some (9,(coverC bits H lo).map srow)]):=by
 subst e1 e2 e3
 have htb:=tw62 (show bits<=62 by omega)
 have ht32:=tw_mono hb
 have h32:tw 32=4294967296:=by decide
 have hcl:=coverC_len (bits:=bits) (lo:=lo) (H:=H) hH
 refine FSpec.of_ok tok Tryz.func242 rfl Tryz.call242 (by simp) ?_
 (try (conv=>whnf));repeat' (first|refine Ok.seq ?_|(refine Ok.region tok ?_;conv=>whnf)|refine Ok.block ?_|fail)
 refine Ok.ghost 7 9 rfl ?_
 (conv=>whnf)
 refine Ok.loopU [0,2] [1,7] 1 0 (fun (x:Nat × List Str)=>[.i .i64 (x.1:Nat),.own 0 x.2.length]) (fun _ b=>b) (fun (x:Nat × List Str) (_:Vx.Rows)=>[some (9,x.2.map srow)]) (fun (x:Nat × List Str)=>x.1<=tw bits/\coverC bits H lo=x.2++coverC bits H x.1) (fun (x:Nat × List Str)=>tw bits - x.1) ((lo,[])) (⟨hlo,rfl⟩) ?_;(conv=>whnf);refine⟨by ((conv=>whnf);first|rfl|(simp[envCat,tkL0,nrow,frow,bcell,srow];done)|(simp[envCat,tkL0,nrow,frow,bcell,srow];rw[IntKind.wrap_i64];omega)),?_⟩
 rintro⟨q,l⟩ ⟨hq,hcov⟩
 dsimp only at hq hcov ⊢
 have hlm:(l.map srow).length=l.length:=by simp
 have hlb:l.length<=66:=by have:=congrArg List.length hcov;rw[List.length_append] at this;omega
 (conv=>whnf)
 by_cases hqH:q<H
 . have hst:=coverC_step (bits:=bits) hqH
   (try (conv=>whnf));repeat' (first|refine Ok.seq ?_|((first|refine Ok.region tok ?_|refine Ok.cond ?_);conv=>whnf)|refine Ok.block ?_|(refine Ok.skip ?_;conv=>whnf)|(refine bI ?_ ?_<;>intro<;>(conv=>whnf)<;>(try (exfalso;omega)))|fail)
   refine Ok.loopU [0,1,2,7] [8] 1 0 (fun (f:Nat)=>[.i .i64 (f:Nat)]) (fun _ b=>b) (fun (f:Nat) (_:Vx.Rows)=>[some (9,l.map srow)]) (fun (f:Nat)=>f<=bits/\q+tw f<=H/\freeF bits q H bits 0=freeF bits q H (bits - f) f) (fun (f:Nat)=>bits - f) (0) (⟨Nat.zero_le _,hqH,rfl⟩) ?_;(conv=>whnf);refine⟨by ((conv=>whnf);first|rfl|(simp[envCat,tkL0,nrow,frow,bcell,srow];done)|(simp[envCat,tkL0,nrow,frow,bcell,srow];rw[IntKind.wrap_i64];omega)),?_⟩
   rintro f ⟨hf,hqf,hfr⟩
   have htf:=tw62 (show f+1<=62 by omega)
   have hpf:=tw_pos f
   have hk1:((f:Nat):Int)+1=((f+1:Nat):Int):=by omega
   have htop:=top_at (f+1) (by omega)
   rw[<- hk1] at htop
   have hsh:((f:Nat):Int)=(f:Int)/\f<=62:=⟨rfl,by omega⟩
   have hpre:=prefix_at q bits (bits - f) (by omega) (by omega) (by omega) (q:Int) (bits:Int) ((bits:Int) - f) rfl rfl (by omega)
   (conv=>whnf)
   (try (conv=>whnf));repeat' (first|((first|refine and_i ⟨rfl,by omega⟩ ⟨rfl,by omega⟩ ?_|with_reducible_and_instances refine shl_i (by assumption) ?_);conv=>whnf)|refine Ok.seq ?_|((first|refine Ok.region tok ?_|refine Ok.cond ?_);conv=>whnf)|refine Ok.block ?_|((first|refine Ok.skip ?_|refine Ok.exit ?_|refine nI ?_);conv=>whnf)|(refine Or.inl ?_;(conv=>whnf);(repeat (refine aI ?_;conv=>whnf));refine⟨_,htop,rfl,?_⟩;conv=>whnf)|(refine Or.inl ?_;(conv=>whnf);(repeat (refine aI ?_;conv=>whnf));refine⟨_,hpre,rfl,?_⟩;conv=>whnf)|((first|refine Alt2.l (aI ?_)|refine⟨_,.inl ⟨rfl,rfl⟩,?_⟩|refine⟨_,_,rfl,rfl,?_⟩);conv=>whnf)|(refine bI ?_ ?_<;>intro<;>(conv=>whnf)<;>(try (exfalso;omega)))|(refine aJ ?_;conv=>whnf)|fail)
   all_goals first
    | (exfalso;omega)
    | skip
   . refine⟨f+1,by omega,⟨by omega,by omega,?_⟩,?_⟩
     . rw[hfr,show bits - f=(bits - (f+1))+1 by omega,free_step ⟨by omega,by omega,by omega⟩]
     . (conv=>whnf)
       rfl
   all_goals
    have hfr2:freeF bits q H bits 0=f:=by rw[hfr];exact free_stop _ (by omega)
    have hst2:coverC bits H q=pfxT q bits (bits - f) :: coverC bits H (q+tw f):=by rw[hst,hfr2];rfl
    refine⟨(q+tw f,l++[pfxT q bits (bits - f)]),by dsimp only;omega,⟨by dsimp only;omega,by dsimp only;rw[hcov,hst2];simp⟩,?_⟩
    (conv=>whnf)
    simp[envCat]
 . have:coverC bits H q=[]:=coverC_end (by omega)
   rw[this,List.append_nil] at hcov
   (try (conv=>whnf));repeat' (first|refine Ok.seq ?_|((first|refine Ok.region tok ?_|refine Ok.cond ?_|refine Ok.exit ?_|refine Ok.ret ?_);conv=>whnf)|(refine bI ?_ ?_<;>intro<;>(conv=>whnf)<;>(try (exfalso;omega)))|fail)
   all_goals first
    | (exfalso;omega)
    | (refine Or.inr (Or.inl ?_);(conv=>whnf)
       exact⟨by rw[hcov];rfl,by rw[hcov]⟩)
end Go.Proofs.YtcglkonooeddfaaGreatDoor
namespace Go.Proofs.YtcglkonooeddfaaGreatDoor
open Go Go.Vx Go.Shelf
theorem dropW_nil(p:UInt8->Bool):∀ l:Str,l.dropWhile p=[] ↔ ∀ b ∈ l,p b=true
 | []=>by simp
 | a :: l=>by
  rw[List.dropWhile_cons]
  split
  . rename_i h
    rw[dropW_nil p l]
    simp[h]
  . rename_i h
    simp[h]
theorem dropW_head(p:UInt8->Bool):∀ l:Str,l.dropWhile p ≠ []->∃ b ∈ l.dropWhile p,p b ≠ true
 | [],h=>absurd rfl h
 | a :: l,h=>by
  rw[List.dropWhile_cons] at h ⊢
  split
  . rename_i hp
    rw[if_pos hp] at h
    exact dropW_head p l h
  . rename_i hp
    exact⟨a,by simp,hp⟩
theorem dropW_mem(p:UInt8->Bool):∀ (l:Str) (x:UInt8),x ∈ l.dropWhile p->x ∈ l
 | [],x,h=>h
 | a :: l,x,h=>by
  rw[List.dropWhile_cons] at h
  split at h
  . exact List.mem_cons_of_mem _ (dropW_mem p l x h)
  . exact h
theorem trim_nil(l cs:Str):Lib.trimS l cs=[] ↔ ∀ b ∈ l,cs.contains b=true:=by
 unfold Lib.trimS Lib.trimLeftS Lib.trimRightS
 rw[dropW_nil]
 constructor
 . intro h
   by_cases hd:l.reverse.dropWhile (fun b=>cs.contains b)=[]
   . intro b hb
     exact (dropW_nil _ _).1 hd b (by simpa using hb)
   . obtain⟨b,hb,hn⟩:=dropW_head _ _ hd
     exact absurd (h b (by simpa using hb)) hn
 . intro h x hx
   have h1:=dropW_mem (fun b=>cs.contains b) l.reverse x (List.mem_reverse.1 hx)
   exact h x (List.mem_reverse.1 h1)
structure FormOk(t:Tst):Prop where
 a:1<=t.op/\t.op<=6/\1<=t.form/\t.form<=4/\(t.op<=2\/t.form=1)/\(t.form=4->t.lo=0/\t.hi=0/\t.len=0)/\(t.form=1\/t.form=2->t.hi=0)/\(t.form=1\/t.form=3->t.len=0)
 p:t.form ≠ 4->t.pat=[]
def ValOk(t:Tst)(b:Nat):Prop:=0<=t.lo/\t.lo<=(tw b:Int) - 1/\0<=t.hi/\t.hi<=(tw b:Int) - 1/\0<=t.len/\t.len<=b
def DigOk(s:Str)(b:Nat):Prop:=s.length=b/\cubOk s
open Classical in
noncomputable def errT(t:Tst)(b:Nat):Int:=
 if ¬ FormOk t then 47 else if ¬ ValOk t b then 42 else if t.form=2/\t.lo.toNat % tw (b - t.len.toNat) ≠ 0 then 42 else if t.form=3/\t.hi<t.lo then 43 else if t.form=4/\¬ DigOk t.pat b then 44 else 0
theorem errT_form{t:Tst}{b:Nat}(h:¬ FormOk t):errT t b=47:=by unfold errT;rw[if_pos h]
theorem errT_val{t:Tst}{b:Nat}(h:FormOk t)(h2:¬ ValOk t b):errT t b=42:=by unfold errT;rw[if_neg (fun x=>x h),if_pos h2]
theorem errT_pre{t:Tst}{b:Nat}(h:FormOk t)(h2:ValOk t b)(h3:t.form=2/\t.lo.toNat % tw (b - t.len.toNat) ≠ 0):errT t b=42:=by unfold errT;rw[if_neg (fun x=>x h),if_neg (fun x=>x h2),if_pos h3]
theorem errT_rng{t:Tst}{b:Nat}(h:FormOk t)(h2:ValOk t b)(h3:¬ (t.form=2/\t.lo.toNat % tw (b - t.len.toNat) ≠ 0))(h4:t.form=3/\t.hi<t.lo):errT t b=43:=by unfold errT;rw[if_neg (fun x=>x h),if_neg (fun x=>x h2),if_neg h3,if_pos h4]
theorem errT_dig{t:Tst}{b:Nat}(h:FormOk t)(h2:ValOk t b)(h3:¬ (t.form=2/\t.lo.toNat % tw (b - t.len.toNat) ≠ 0))(h4:¬ (t.form=3/\t.hi<t.lo))(h5:t.form=4/\¬ DigOk t.pat b):errT t b=44:=by unfold errT;rw[if_neg (fun x=>x h),if_neg (fun x=>x h2),if_neg h3,if_neg h4,if_pos h5]
theorem errT_ok{t:Tst}{b:Nat}(h:FormOk t)(h2:ValOk t b)(h3:¬ (t.form=2/\t.lo.toNat % tw (b - t.len.toNat) ≠ 0))(h4:¬ (t.form=3/\t.hi<t.lo))(h5:¬ (t.form=4/\¬ DigOk t.pat b)):errT t b=0:=by unfold errT;rw[if_neg (fun x=>x h),if_neg (fun x=>x h2),if_neg h3,if_neg h4,if_neg h5]
theorem trim_dig(s:Str):Lib.trimS s [48,49,120]=[] ↔ cubOk s:=by
 rw[trim_nil]
 unfold cubOk
 constructor
 . intro h b hb
   have:=h b hb
   simpa using this
 . intro h b hb
   have:=h b hb
   simpa using this
theorem trim01x(s:Str)(h:s.length<=9223372036854775807):FSpec Tryz.prog T 122 [.s s,.s [48,49,120]] (fun d _=>d = .s (Lib.trimS s [48,49,120])):=
 trim_at Tryz.vxTrim (by kernel_rfl) Tryz.call122 s [48,49,120] h (by decide) (by decide)
@[reducible] def tcl(f:Str)(op form lo hi len:Int)(pat:Str):List D:=[.s f,.i .i64 op,.i .i64 form,.i .i64 lo,.i .i64 hi,.i .i64 len,.s pat]
theorem fit_at(f:Str)(op form lo hi len:Int)(pat:Str)(b:Nat)(h1b:1<=b)(hb:b<=32)(hs:pat.length<=1000000000000):FSpec Tryz.prog T 175 [.agg (tcl f op form lo hi len pat),.i .i64 (b:Nat)] (fun d _=>d = .i .i64 (errT ⟨f,op,form,lo,hi,len,pat⟩ b)):=by
 have htb:=tw62 (show b<=62 by omega)
 have htop:=top_at b (by omega)
 have htrim:=trim01x pat (by omega)
 refine FSpec.of_ok tok Tryz.func175 rfl Tryz.call175 (by simp) ?_
 by_cases hF:FormOk ⟨f,op,form,lo,hi,len,pat⟩
 . obtain⟨hA,hP⟩:=id hF
   dsimp only at hA hP
   have h4:form=1\/form=2\/form=3\/form=4:=by omega
   by_cases hV:ValOk ⟨f,op,form,lo,hi,len,pat⟩ b
   . have hV2:=hV
     unfold ValOk at hV2
     dsimp only at hV2
     obtain⟨vl,rfl⟩:∃ v:Nat,lo=v:=⟨lo.toNat,by omega⟩
     obtain⟨vh,rfl⟩:∃ v:Nat,hi=v:=⟨hi.toNat,by omega⟩
     obtain⟨vn,rfl⟩:∃ v:Nat,len=v:=⟨len.toNat,by omega⟩
     rcases h4 with rfl|rfl|rfl|rfl
     . have hp:=hP (by decide)
       subst hp
       rw[errT_ok hF hV (by simp) (by simp) (by simp)]
       (try (conv=>whnf));repeat' (first|refine Ok.seq ?_|((first|refine Ok.region tok ?_|refine Ok.region_draw tok follows (by kernel_rfl) ?_|refine Ok.cond ?_|refine Ok.skip ?_|refine Ok.ret ?_|refine⟨_,by assumption,?_⟩);conv=>whnf)|(refine bI ?_ ?_<;>intro<;>(conv=>whnf)<;>(try (exfalso;omega)))|((first|refine aJ ?_|refine⟨_,rfl,?_⟩);conv=>whnf)|fail)
       all_goals first
        | (exfalso;omega)
        | (rename_i h;exact absurd rfl h)
        | (refine Or.inl ?_;(conv=>whnf)
           rfl)
     . have hp:=hP (by decide)
       subst hp
       have htop2:=top_at (b - vn) (by omega)
       rw[show ((b - vn:Nat):Int)=(b:Int) - (vn:Int) by omega] at htop2
       by_cases hm:vl % tw (b - vn)=0
       . rw[errT_ok hF hV (by simpa using hm) (by simp) (by simp)]
         (try (conv=>whnf));repeat' (first|(refine and_i ⟨rfl,by omega⟩ ⟨rfl,by omega⟩ ?_;conv=>whnf)|refine Ok.seq ?_|((first|refine Ok.region tok ?_|refine Ok.region_draw tok follows (by kernel_rfl) ?_|refine Ok.cond ?_|refine Ok.skip ?_|refine Ok.ret ?_|refine nI ?_|refine⟨_,by assumption,?_⟩);conv=>whnf)|(refine bI ?_ ?_<;>intro<;>(conv=>whnf)<;>(try (exfalso;omega)))|((first|refine aJ ?_|refine⟨_,rfl,?_⟩);conv=>whnf)|fail)
         all_goals first
          | (exfalso;omega)
          | (rename_i h;exact absurd rfl h)
          | (refine Or.inl ?_;(conv=>whnf)
             rfl)
       . rw[errT_pre hF hV ⟨rfl,by simpa using hm⟩]
         (try (conv=>whnf));repeat' (first|(refine and_i ⟨rfl,by omega⟩ ⟨rfl,by omega⟩ ?_;conv=>whnf)|refine Ok.seq ?_|((first|refine Ok.region tok ?_|refine Ok.region_draw tok follows (by kernel_rfl) ?_|refine Ok.cond ?_|refine Ok.skip ?_|refine Ok.ret ?_|refine nI ?_|refine⟨_,by assumption,?_⟩);conv=>whnf)|(refine bI ?_ ?_<;>intro<;>(conv=>whnf)<;>(try (exfalso;omega)))|((first|refine aJ ?_|refine⟨_,rfl,?_⟩);conv=>whnf)|fail)
         all_goals first
          | (exfalso;omega)
          | (rename_i h;exact absurd rfl h)
          | (refine Or.inl ?_;(conv=>whnf)
             rfl)
     . have hp:=hP (by decide)
       subst hp
       by_cases hr:(vh:Int)<vl
       . rw[errT_rng hF hV (by simp) ⟨rfl,hr⟩]
         (try (conv=>whnf));repeat' (first|refine Ok.seq ?_|((first|refine Ok.region tok ?_|refine Ok.region_draw tok follows (by kernel_rfl) ?_|refine Ok.cond ?_|refine Ok.skip ?_|refine Ok.ret ?_|refine⟨_,by assumption,?_⟩);conv=>whnf)|(refine bI ?_ ?_<;>intro<;>(conv=>whnf)<;>(try (exfalso;omega)))|((first|refine aJ ?_|refine⟨_,rfl,?_⟩);conv=>whnf)|fail)
         all_goals first
          | (exfalso;omega)
          | (rename_i h;exact absurd rfl h)
          | (refine Or.inl ?_;(conv=>whnf)
             rfl)
       . rw[errT_ok hF hV (by simp) (fun h=>hr h.2) (by simp)]
         (try (conv=>whnf));repeat' (first|refine Ok.seq ?_|((first|refine Ok.region tok ?_|refine Ok.region_draw tok follows (by kernel_rfl) ?_|refine Ok.cond ?_|refine Ok.skip ?_|refine Ok.ret ?_|refine⟨_,by assumption,?_⟩);conv=>whnf)|(refine bI ?_ ?_<;>intro<;>(conv=>whnf)<;>(try (exfalso;omega)))|((first|refine aJ ?_|refine⟨_,rfl,?_⟩);conv=>whnf)|fail)
         all_goals first
          | (exfalso;omega)
          | (rename_i h;exact absurd rfl h)
          | (refine Or.inl ?_;(conv=>whnf)
             rfl)
     . have htd:=trim_dig pat
       by_cases hd:DigOk pat b
       . rw[errT_ok hF hV (by simp) (by simp) (fun h=>h.2 hd)]
         have hd2:=hd
         obtain⟨hd1,hdc⟩:=hd2
         (try (conv=>whnf));repeat' (first|refine Ok.seq ?_|((first|refine Ok.region tok ?_|refine Ok.region_draw tok follows (by kernel_rfl) ?_|refine Ok.cond ?_|refine Ok.skip ?_|refine Ok.ret ?_|refine⟨_,by assumption,?_⟩);conv=>whnf)|(refine Or.inl ?_;(conv=>whnf);(repeat (refine aI ?_;conv=>whnf));refine⟨_,htrim,rfl,?_⟩;conv=>whnf)|(refine bI ?_ ?_<;>intro<;>(conv=>whnf)<;>(try (exfalso;omega)))|((first|refine aJ ?_|refine⟨_,rfl,?_⟩);conv=>whnf)|fail)
         all_goals first
          | (exfalso;omega)
          | (rename_i h;exact absurd (htd.2 hdc) h)
          | (refine Or.inl ?_;(conv=>whnf)
             rfl)
       . rw[errT_dig hF hV (by simp) (by simp) ⟨rfl,hd⟩]
         (try (conv=>whnf));repeat' (first|refine Ok.seq ?_|((first|refine Ok.region tok ?_|refine Ok.region_draw tok follows (by kernel_rfl) ?_|refine Ok.cond ?_|refine Ok.skip ?_|refine Ok.ret ?_|refine⟨_,by assumption,?_⟩);conv=>whnf)|(refine Or.inl ?_;(conv=>whnf);(repeat (refine aI ?_;conv=>whnf));refine⟨_,htrim,rfl,?_⟩;conv=>whnf)|(refine bI ?_ ?_<;>intro<;>(conv=>whnf)<;>(try (exfalso;omega)))|((first|refine aJ ?_|refine⟨_,rfl,?_⟩);conv=>whnf)|fail)
         all_goals first
          | (exfalso;omega)
          | (refine Or.inl ?_;(conv=>whnf)
             rfl)
          | (rename_i h1 h2;exact absurd ⟨by omega,htd.1 (by simpa using h2)⟩ hd)
   . have hV2:=hV
     unfold ValOk at hV2
     dsimp only at hV2
     rw[errT_val hF hV]
     rcases h4 with rfl|rfl|rfl|rfl
     all_goals
      (try (conv=>whnf));repeat' (first|refine Ok.seq ?_|((first|refine Ok.region tok ?_|refine Ok.region_draw tok follows (by kernel_rfl) ?_|refine Ok.cond ?_|refine Ok.skip ?_|refine Ok.ret ?_|refine⟨_,by assumption,?_⟩);conv=>whnf)|(refine bI ?_ ?_<;>intro<;>(conv=>whnf)<;>(try (exfalso;omega)))|((first|refine aJ ?_|refine⟨_,rfl,?_⟩);conv=>whnf)|fail)
     all_goals first
      | (exfalso;omega)
      | (rename_i h;exact absurd (hP (by decide)) h)
      | (refine Or.inl ?_;(conv=>whnf)
         rfl)
 . rw[errT_form hF]
   by_cases hf4:1<=form/\form<=4
   . by_cases hp:form ≠ 4->pat=[]
     . have hA:¬ (1<=op/\op<=6/\1<=form/\form<=4/\(op<=2\/form=1)/\(form=4->lo=0/\hi=0/\len=0)/\(form=1\/form=2->hi=0)/\(form=1\/form=3->len=0)):=fun h=>hF ⟨h,hp⟩
       have h4:form=1\/form=2\/form=3\/form=4:=by omega
       rcases h4 with rfl|rfl|rfl|rfl
       all_goals
        (try (conv=>whnf));repeat' (first|refine Ok.seq ?_|((first|refine Ok.region tok ?_|refine Ok.cond ?_|refine Ok.skip ?_|refine Ok.ret ?_);conv=>whnf)|(refine bI ?_ ?_<;>intro<;>(conv=>whnf)<;>(try (exfalso;omega)))|((first|refine aJ ?_|refine⟨_,rfl,?_⟩);conv=>whnf)|fail)
       all_goals first
        | (exfalso;omega)
        | (rename_i h;exact absurd (hp (by decide)) h)
        | (refine Or.inl ?_;(conv=>whnf)
           rfl)
     . have h4:form=1\/form=2\/form=3:=by omega
       have hpn:pat ≠ []:=fun e=>hp fun _=>e
       rcases h4 with rfl|rfl|rfl
       all_goals
        (try (conv=>whnf));repeat' (first|refine Ok.seq ?_|((first|refine Ok.region tok ?_|refine Ok.region_draw tok follows (by kernel_rfl) ?_|refine Ok.cond ?_|refine Ok.skip ?_|refine Ok.ret ?_|refine nI ?_|refine⟨_,by assumption,?_⟩);conv=>whnf)|(refine bI ?_ ?_<;>intro<;>(conv=>whnf)<;>(try (exfalso;omega)))|((first|refine aJ ?_|refine⟨_,rfl,?_⟩);conv=>whnf)|fail)
       all_goals first
        | (exfalso;omega)
        | (refine Or.inl ?_;(conv=>whnf)
           rfl)
        | (rename_i h;exact absurd (by simpa using h) hpn)
        | exact absurd (Classical.not_not.1 (by assumption)) hpn
        | (refine absurd ?_ hpn;rename_i h1 h2;simpa using h1)
        | (refine absurd ?_ hpn;rename_i h1 h2 h3;simpa using h1)
        | (refine absurd ?_ hpn;rename_i h1 h2 h3 h4;simpa using h1)
        | (refine absurd ?_ hpn;rename_i h1 h2 h3 h4 h5;simpa using h1)
   . (try (conv=>whnf));repeat' (first|refine Ok.seq ?_|((first|refine Ok.region tok ?_|refine Ok.cond ?_|refine Ok.ret ?_);conv=>whnf)|(refine bI ?_ ?_<;>intro<;>(conv=>whnf)<;>(try (exfalso;omega)))|fail)
     all_goals first
      | (exfalso;omega)
      | (refine Or.inl ?_;(conv=>whnf)
         rfl)
end Go.Proofs.YtcglkonooeddfaaGreatDoor
namespace Go.Proofs.YtcglkonooeddfaaGreatDoor
open Go Go.Vx Go.Shelf
inductive Tr where
 | leaf (p:Prop)
 | test (t:Tst)
 | neg (x:Tr)
 | and (x y:Tr)
 | or (x y:Tr)
def Tr.ty:Tr->Nat
 | .leaf _=>282|.test _=>284|.neg _=>286|.and _ _=>290|.or _ _=>291
def Tr.cs:Tr->List D
 | .leaf p=>[.b p]|.test t=>tcells t|.neg x=>[.ifc x.ty (.agg x.cs)]
 | .and x y=>[.ifc x.ty (.agg x.cs),.ifc y.ty (.agg y.cs)]|.or x y=>[.ifc x.ty (.agg x.cs),.ifc y.ty (.agg y.cs)]
@[reducible] def Tr.d(x:Tr):D:=.ifc x.ty (.agg x.cs)
def Tr.isO:Tr->Bool|.or _ _=>true|_=>false
def Tr.isJ:Tr->Bool|.or _ _=>true|.and _ _=>true|_=>false
def cnt:Bool->Nat|true=>1|false=>0
def Tr.sz:Tr->Nat|.leaf _=>1|.test _=>1|.neg x=>x.sz+1|.and x y=>x.sz+y.sz+1|.or x y=>x.sz+y.sz+1
def Tr.nest:Tr->Nat
 | .leaf _=>0|.test _=>0|.neg x=>x.nest+cnt x.isJ+1
 | .and x y=>max (x.nest+cnt x.isO) (y.nest+cnt y.isJ)|.or x y=>max x.nest (y.nest+cnt y.isO)
theorem cnt_le(b:Bool):cnt b<=1:=by cases b<;>simp[cnt]
theorem nest_le(x:Tr):x.nest<=2*x.sz:=by
 induction x with
 | leaf _=>simp[Tr.nest]
 | test _=>simp[Tr.nest]
 | neg x ih=>have:=cnt_le x.isJ;simp only[Tr.nest,Tr.sz];omega
 | and x y h1 h2=>have:=cnt_le x.isO;have:=cnt_le y.isJ;simp only[Tr.nest,Tr.sz];omega
 | or x y h1 h2=>have:=cnt_le y.isO;simp only[Tr.nest,Tr.sz];omega
theorem bff{p:Prop}(h:¬ p):D.b False=D.b p:=by congr 1;exact propext ⟨False.elim,h⟩
theorem btt{p:Prop}(h:p):D.b True=D.b p:=by congr 1;exact propext ⟨fun _=>h,fun _=>trivial⟩
theorem joined_at(x:Tr):FSpec Tryz.prog T 363 [x.d] (fun d _=>d = .b (x.isJ=true)):=by
 refine FSpec.of_ok tok Tryz.func363 rfl Tryz.call363 (by simp) ?_
 cases x
 all_goals
  (try (conv=>whnf));repeat' (first|refine Ok.seq ?_|((first|refine Ok.region tok ?_|refine Ok.cond ?_);conv=>whnf)|refine Ok.block ?_|((first|refine Ok.skip ?_|refine Ok.ret ?_);conv=>whnf)|fail)
  refine Or.inl ?_;(conv=>whnf)
  first|exact btt rfl|exact bff (by simp[Tr.isJ])
theorem isOr_at(x:Tr):FSpec Tryz.prog T 371 [x.d] (fun d _=>d = .b (x.isO=true)):=by
 refine FSpec.of_ok tok Tryz.func371 rfl Tryz.call371 (by simp) ?_
 cases x
 all_goals
  (try (conv=>whnf));repeat' (first|refine Ok.seq ?_|((first|refine Ok.region tok ?_|refine Ok.cond ?_);conv=>whnf)|refine Ok.block ?_|((first|refine Ok.skip ?_|refine Ok.ret ?_);conv=>whnf)|fail)
  refine Or.inl ?_;(conv=>whnf)
  first|exact btt rfl|exact bff (by simp[Tr.isO])
theorem count_at(b:Bool):FSpec Tryz.prog T 370 [.b (b=true)] (fun d _=>d = .i .i64 (cnt b:Nat)):=by
 refine FSpec.of_ok tok Tryz.func370 rfl Tryz.call370 (by simp) ?_
 cases b
 all_goals
  (try (conv=>whnf));repeat' (first|refine Ok.seq ?_|((first|refine Ok.region tok ?_|refine Ok.cond ?_|refine Ok.skip ?_|refine Ok.ret ?_);conv=>whnf)|(refine bI ?_ ?_<;>intro<;>(conv=>whnf)<;>(try (exfalso;omega)))|fail)
  all_goals first
   | (rename_i h;cases h;done)
   | (rename_i h;exact absurd rfl h)
   | (refine Or.inl ?_;(conv=>whnf)
      rfl)
theorem mLeaf:MethC Tryz.prog "reach/expr.nesting" 282 340:=.of tok (by kernel_rfl) (by kernel_rfl) Tryz.call340
theorem mTest:MethC Tryz.prog "reach/expr.nesting" 284 347:=.of tok (by kernel_rfl) (by kernel_rfl) Tryz.call347
theorem mNot:MethC Tryz.prog "reach/expr.nesting" 286 360:=.of tok (by kernel_rfl) (by kernel_rfl) Tryz.call360
theorem mAnd:MethC Tryz.prog "reach/expr.nesting" 290 366:=.of tok (by kernel_rfl) (by kernel_rfl) Tryz.call366
theorem mOr:MethC Tryz.prog "reach/expr.nesting" 291 376:=.of tok (by kernel_rfl) (by kernel_rfl) Tryz.call376
theorem leafN(cs:List D)(p:Prop)(h:cs=[.b p]):FSpec Tryz.prog T 340 [.agg cs] (fun d _=>d = .i .i64 0):=by
 subst h
 refine FSpec.of_ok tok Tryz.func340 rfl Tryz.call340 (by simp) ?_
 (try (conv=>whnf));repeat' (first|refine Ok.seq ?_|((first|refine Ok.region tok ?_|refine Ok.ret ?_);conv=>whnf)|fail)
 refine Or.inl ?_;(conv=>whnf)
 rfl
theorem testN(t:Tst):FSpec Tryz.prog T 347 [.agg (tcells t)] (fun d _=>d = .i .i64 0):=by
 refine FSpec.of_ok tok Tryz.func347 rfl Tryz.call347 (by simp) ?_
 (try (conv=>whnf));repeat' (first|refine Ok.seq ?_|((first|refine Ok.region tok ?_|refine Ok.ret ?_);conv=>whnf)|fail)
 refine Or.inl ?_;(conv=>whnf)
 rfl
theorem deeper_at(x y:Tr)(a b:Nat)(ha:a ≤ 1)(hb:b ≤ 1)(hx:x.sz ≤ 1000)(hy:y.sz ≤ 1000)(fx fy:FuncId)(mx:MethC Tryz.prog "reach/expr.nesting" x.ty fx)(my:MethC Tryz.prog "reach/expr.nesting" y.ty fy)
    (sx:FSpec Tryz.prog T fx [.agg x.cs] (fun d _=>d = .i .i64 (x.nest:Nat)))(sy:FSpec Tryz.prog T fy [.agg y.cs] (fun d _=>d = .i .i64 (y.nest:Nat))) :
    FSpec Tryz.prog T 364 [.agg [x.d,y.d],.i .i64 (a:Nat),.i .i64 (b:Nat)] (fun d _=>d = .i .i64 (max (x.nest+a) (y.nest+b):Nat)):=by
 have h1:=nest_le x
 have h2:=nest_le y
 refine FSpec.of_ok tok Tryz.func364 rfl Tryz.call364 (by simp) ?_
 (try (conv=>whnf));repeat' (first|refine Ok.seq ?_|((first|refine Ok.region tok ?_|refine Ok.region_plan (id:=1) tok follows [(1,2,[]),(1,7,[2]),(6,7,[]),(2,7,[]),(1,10,[4,2]),(6,10,[9,7]),(2,10,[4]),(7,10,[9])] [.q 0,.q 1,.q 3,.q 5,.q 6,.q 8,.l 2,.q 4,.l 7,.q 9,.l 10,.q 11] (by kernel_rfl) ?_|refine Ok.ret ?_|refine nI ?_|refine⟨_,by assumption,?_⟩|refine aJ ?_|refine num_any ?_);conv=>whnf)|fail)
 refine Or.inl ?_;(conv=>whnf)
 refine congrArg (D.i .i64) ?_
 split<;>omega
theorem nest_at(x:Tr)(hx:x.sz ≤ 1000):∃ f,MethC Tryz.prog "reach/expr.nesting" x.ty f ∧ FSpec Tryz.prog T f [.agg x.cs] (fun d _=>d = .i .i64 (x.nest:Nat)):=by
 induction x with
 | leaf p=>exact⟨_,mLeaf,leafN _ p rfl⟩
 | test t=>exact⟨_,mTest,testN t⟩
 | neg x ih=>
  simp only[Tr.sz] at hx
  obtain⟨fx,mx,sx⟩:=ih (by omega)
  have hn:=nest_le x
  refine⟨_,mNot,?_⟩
  refine FSpec.of_ok tok Tryz.func360 rfl Tryz.call360 (by simp) ?_
  have hj:=joined_at x
  cases hJ:x.isJ
  all_goals
   rw[hJ] at hj
   (try (conv=>whnf));repeat' (first|refine Ok.seq ?_|((first|refine Ok.region tok ?_|refine Ok.cond ?_|refine Ok.skip ?_|refine Ok.ret ?_|refine nI ?_);conv=>whnf)|(refine Or.inl ?_;(conv=>whnf);(repeat (refine aI ?_;conv=>whnf));refine⟨_,hj,rfl,?_⟩;conv=>whnf)|(refine Or.inl ?_;(conv=>whnf);(repeat (refine aI ?_;conv=>whnf));refine⟨_,mx,_,sx,rfl,?_⟩;conv=>whnf)|(refine bI ?_ ?_<;>intro<;>(conv=>whnf)<;>(try (exfalso;omega)))|fail)
   all_goals first
    | (rename_i h;cases h;done)
    | (rename_i h;exact absurd rfl h)
    | (refine Or.inl ?_;(conv=>whnf)
       show D.i .i64 _=D.i .i64 ((x.nest+cnt x.isJ+1:Nat):Int)
       rw[hJ]
       refine congrArg (D.i .i64) ?_
       simp only[cnt]
       omega)
 | and x y ih1 ih2=>
  simp only[Tr.sz] at hx
  obtain⟨fx,mx,sx⟩:=ih1 (by omega)
  obtain⟨fy,my,sy⟩:=ih2 (by omega)
  refine⟨_,mAnd,?_⟩
  refine FSpec.of_ok tok Tryz.func366 rfl Tryz.call366 (by simp) ?_
  (try (conv=>whnf));repeat' (first|refine Ok.seq ?_|((first|refine Ok.region tok ?_|refine Ok.region_draw tok follows (by kernel_rfl) ?_|refine Ok.ret ?_|refine⟨_,isOr_at x,rfl,?_⟩|refine⟨_,joined_at y,rfl,?_⟩|refine⟨_,count_at x.isO,rfl,?_⟩|refine⟨_,count_at y.isJ,rfl,?_⟩|refine⟨_,deeper_at x y _ _ (cnt_le _) (cnt_le _) (by omega) (by omega) fx fy mx my sx sy,rfl,?_⟩);conv=>whnf)|fail)
  refine Or.inl ?_;(conv=>whnf)
  rfl
 | or x y ih1 ih2=>
  simp only[Tr.sz] at hx
  obtain⟨fx,mx,sx⟩:=ih1 (by omega)
  obtain⟨fy,my,sy⟩:=ih2 (by omega)
  refine⟨_,mOr,?_⟩
  refine FSpec.of_ok tok Tryz.func376 rfl Tryz.call376 (by simp) ?_
  (try (conv=>whnf));repeat' (first|refine Ok.seq ?_|((first|refine Ok.region tok ?_|refine Ok.region_draw tok follows (by kernel_rfl) ?_|refine Ok.ret ?_|refine⟨_,isOr_at y,rfl,?_⟩|refine⟨_,count_at y.isO,rfl,?_⟩|refine⟨_,deeper_at x y 0 _ (by omega) (cnt_le _) (by omega) (by omega) fx fy mx my sx sy,rfl,?_⟩);conv=>whnf)|fail)
  refine Or.inl ?_;(conv=>whnf)
  rfl
end Go.Proofs.YtcglkonooeddfaaGreatDoor
namespace Go.Proofs.YtcglkonooeddfaaGreatDoor
open Go Go.Vx Go.Shelf
theorem edrop_at{α:Type}{l:List α}{i:Nat}{x:α}(h:l[i]? = some x):l.drop i=x :: l.drop (i+1):=by
 obtain⟨h1,rfl⟩:=gSm0.1 h
 exact List.drop_eq_getElem_cons h1
@[reducible] def qrow(x:Tr):List D:=[x.d]
def zT(t:Tst):Prop:=eqDs (tcells t) [.s [],.i .i64 0,.i .i64 0,.i .i64 0,.i .i64 0,.i .i64 0,.s []]
def shapeT(c:Nd)(rs:List Tr):Option (List Tr):=
 if c.kind=1\/c.kind=2 then some (.leaf (c.kind=1) :: rs)
 else if c.kind=3 then some (.test c.t :: rs)
 else if c.kind=4 then match rs with|x :: r=>some (.neg x :: r)|[]=>none
 else if c.kind=5 then match rs with|y :: x :: r=>some (.and x y :: r)|_=>none
 else if c.kind=6 then match rs with|y :: x :: r=>some (.or x y :: r)|_=>none
 else none
open Classical in
noncomputable def stepT(c:Nd)(rs:List Tr):Option (List Tr):=if c.kind ≠ 3/\¬ zT c.t then none else shapeT c rs
noncomputable def buildR:List Nd->List Tr->Option (List Tr)
 | [],rs=>some rs
 | c :: e,rs=>match stepT c rs with|some rs'=>buildR e rs'|none=>none
def oneT:List Tr->Option Tr|[x]=>some x|_=>none
noncomputable def bldO(e:List Nd):Option Tr:=(buildR e []).bind oneT
def szs(rs:List Tr):Nat:=(rs.map Tr.sz).sum
theorem shapeT_sz{c:Nd}{rs rs':List Tr}(h:shapeT c rs=some rs'):szs rs'<=szs rs+1:=by
 unfold shapeT at h
 split at h
 . cases h;simp[szs,Tr.sz];omega
 split at h
 . cases h;simp[szs,Tr.sz];omega
 split at h
 . split at h
   . cases h;simp[szs,Tr.sz];omega
   . cases h
 split at h
 . split at h
   . cases h;simp[szs,Tr.sz];omega
   . cases h
 split at h
 . split at h
   . cases h;simp[szs,Tr.sz];omega
   . cases h
 . cases h
theorem buildR_sz:∀ (e:List Nd) (rs rs':List Tr),buildR e rs=some rs'->szs rs'<=szs rs+e.length
 | [],rs,rs',h=>by unfold buildR at h;cases h;simp
 | c :: e,rs,rs',h=>by
  unfold buildR at h
  split at h
  . rename_i r1 h1
    have h2:=buildR_sz e _ _ h
    unfold stepT at h1
    split at h1
    . cases h1
    . have:=shapeT_sz h1
      simp only[List.length_cons]
      omega
  . cases h
theorem bldO_sz{e:List Nd}{x:Tr}(h:bldO e=some x):x.sz<=e.length:=by
 unfold bldO at h
 cases hb:buildR e [] with
 | none=>rw[hb] at h;cases h
 | some l=>
  rw[hb] at h
  have:=buildR_sz _ _ _ hb
  match l,h with
  | [y],h=>cases h;simpa[szs] using this
def bldD:Option Tr->D|some x=>.tup [x.d,.b True]|none=>.tup [.nilI,.b False]
theorem bad_z{c:Nd}{rs:List Tr}(h:c.kind ≠ 3)(h2:¬ zT c.t):stepT c rs=none:=by unfold stepT;rw[if_pos ⟨h,h2⟩]
theorem stepT_ok{c:Nd}{rs:List Tr}(h:¬ (c.kind ≠ 3/\¬ zT c.t)):stepT c rs=shapeT c rs:=by unfold stepT;rw[if_neg h]
theorem bld_none{e:List Nd}{c:Nd}{r:List Nd}{rs:List Tr}(h:buildR e []=buildR (c :: r) rs)(hs:stepT c rs=none):bldO e=none:=by
 have h2:buildR (c :: r) rs=none:=by unfold buildR;rw[hs]
 unfold bldO
 rw[h,h2]
 rfl
theorem bld_step{e:List Nd}{c:Nd}{r:List Nd}{rs rs':List Tr}(h:buildR e []=buildR (c :: r) rs)(hs:stepT c rs=some rs'):buildR e []=buildR r rs':=by
 rw[h]
 conv=>lhs;unfold buildR
 rw[hs]
theorem push_nil(rs:List Tr)(x:Tr):((rs.reverse++[]).map qrow)++[qrow x]=((x :: rs).reverse++[]).map qrow:=by simp
theorem push_cons(rs:List Tr)(x y:Tr)(j:List Tr):((rs.reverse++y :: j).map qrow).set rs.length (qrow x)=((x :: rs).reverse++j).map qrow:=by
 rw[List.map_append,List.set_append_right _ _ (by simp)]
 simp
theorem pile_top(x:Tr)(r j:List Tr):((x :: r).reverse++j)[r.length]? = some x:=by simp
theorem pile_top2(x y:Tr)(r j:List Tr):((y :: x :: r).reverse++j)[r.length]? = some x:=by simp
theorem set_top(x x':Tr)(r j:List Tr):((x :: r).reverse++j).set r.length x'=(x' :: r).reverse++j:=by simp
theorem set_top2(x y x':Tr)(r j:List Tr):((y :: x :: r).reverse++j).set r.length x'=(x' :: r).reverse++(y :: j):=by simp
theorem sh12{c:Nd}{rs:List Tr}(h:c.kind=1\/c.kind=2):shapeT c rs=some (.leaf (c.kind=1) :: rs):=by unfold shapeT;rw[if_pos h]
theorem sh3{c:Nd}{rs:List Tr}(h:c.kind=3):shapeT c rs=some (.test c.t :: rs):=by unfold shapeT;rw[if_neg (by omega),if_pos h]
theorem sh4{c:Nd}{rs:List Tr}(h:c.kind=4):shapeT c rs=match rs with|x :: r=>some (.neg x :: r)|[]=>none:=by unfold shapeT;rw[if_neg (by omega),if_neg (by omega),if_pos h]
theorem sh5{c:Nd}{rs:List Tr}(h:c.kind=5):shapeT c rs=match rs with|y :: x :: r=>some (.and x y :: r)|_=>none:=by unfold shapeT;rw[if_neg (by omega),if_neg (by omega),if_neg (by omega),if_pos h]
theorem sh6{c:Nd}{rs:List Tr}(h:c.kind=6):shapeT c rs=match rs with|y :: x :: r=>some (.or x y :: r)|_=>none:=by unfold shapeT;rw[if_neg (by omega),if_neg (by omega),if_neg (by omega),if_neg (by omega),if_pos h]
theorem sh0{c:Nd}{rs:List Tr}(h:c.kind<1\/6<c.kind):shapeT c rs=none:=by unfold shapeT;rw[if_neg (by omega),if_neg (by omega),if_neg (by omega),if_neg (by omega),if_neg (by omega)]
theorem bld_end{e:List Nd}{rs:List Tr}(h:buildR e []=buildR [] rs):bldO e=oneT rs:=by
 have h2:buildR e []=some rs:=h.trans (by unfold buildR;rfl)
 unfold bldO
 rw[h2]
 rfl
theorem build_at(e:List Nd)(r1:List (List D))(hl:e.length<=2000000):FSpec Tryz.prog T 119 [.lst 219 (e.map nrow) r1] (fun d _=>d=bldD (bldO e)):=by
 have h1:(e.map nrow).length=e.length:=by simp
 refine FSpec.of_ok tok Tryz.func119 rfl Tryz.call119 (by simp) ?_
 (try (conv=>whnf));repeat' (first|refine Ok.seq ?_|(refine Ok.region tok ?_;conv=>whnf)|refine Ok.block ?_|fail)
 refine Ok.ghost 4 147 rfl ?_
 (conv=>whnf)
 refine Ok.loopU [9,10] [4,11] 1 0 (fun (x:Nat × Nat × List Tr × List Tr)=>[.own 0 x.2.1,.i .i64 (x.1:Nat)]) (fun _ b=>b) (fun (x:Nat × Nat × List Tr × List Tr) (_:Vx.Rows)=>[some (147,(x.2.2.1.reverse++x.2.2.2).map qrow)]) (fun (x:Nat × Nat × List Tr × List Tr)=>x.1<=e.length/\x.2.2.1.length=x.2.1/\x.2.1+x.2.2.2.length<=x.1/\buildR e []=buildR (e.drop x.1) x.2.2.1) (fun (x:Nat × Nat × List Tr × List Tr)=>e.length - x.1) ((0,0,[],[])) (⟨Nat.zero_le _,rfl,Nat.le_refl _,rfl⟩) ?_;(conv=>whnf);refine⟨by ((conv=>whnf);first|rfl|(simp[envCat,tkL0,nrow,frow,tcells,qrow];done)|(simp[envCat,tkL0,nrow,frow,tcells,qrow];rw[IntKind.wrap_i64];omega)),?_⟩
 rintro⟨i,n,rs,j⟩ ⟨hi,hn,hj,hb⟩
 dsimp only at hi hn hj hb ⊢
 have hlm:((rs.reverse++j).map qrow).length=n+j.length:=by simp[hn]
 (conv=>whnf)
 by_cases hil:i<e.length
 . obtain⟨c,hc⟩:∃ c,e[i]? = some c:=⟨_,gEt0 hil⟩
   have hcI:e[((i:Nat):Int).toNat]? = some c:=hc
   rw[edrop_at hc] at hb
   by_cases hz:c.kind ≠ 3/\¬ zT c.t
   . rw[bld_none hb (bad_z hz.1 hz.2)]
     have hz1:=hz.1
     have hz2:=hz.2
     (try (conv=>whnf));repeat' (first|((first|refine⟨_,eqTest,by kernel_rfl,?_⟩|refine⟨fun _=>?_,fun h=>absurd (Classical.not_not.1 h) hz2⟩);conv=>whnf)|refine Ok.seq ?_|((first|refine Ok.region tok ?_|refine Ok.cond ?_);conv=>whnf)|refine Ok.block ?_|((first|refine Ok.skip ?_|refine Ok.ret ?_|refine ix _ (by assumption) ?_);conv=>whnf)|(refine bI ?_ ?_<;>intro<;>(conv=>whnf)<;>(try (exfalso;omega)))|fail)
     all_goals first
      | (exfalso;omega)
      | (refine Or.inl ?_;(conv=>whnf)
         rfl)
   . have hst:=stepT_ok (rs:=rs) hz
     have hz3:c.kind=3\/zT c.t:=by
      by_cases h:c.kind=3
      . exact .inl h
      . exact .inr (Classical.byContradiction fun h2=>hz ⟨h,h2⟩)
     by_cases hk3:c.kind=3
     . have hb2:=bld_step hb (hst.trans (sh3 hk3))
       cases j with
       | nil=>
        simp only[List.length_nil,Nat.add_zero] at hj hlm
        (try (conv=>whnf));repeat' (first|(refine And.intro ⟨by kernel_rfl⟩ ?_;conv=>whnf)|refine Ok.seq ?_|((first|refine Ok.region tok ?_|refine Ok.cond ?_);conv=>whnf)|refine Ok.block ?_|((first|refine Ok.skip ?_|refine nI ?_|refine ix _ (by assumption) ?_|refine Alt2.l (aI ?_)|refine⟨_,.inl ⟨rfl,rfl⟩,?_⟩|refine⟨_,_,rfl,rfl,?_⟩);conv=>whnf)|(refine bI ?_ ?_<;>intro<;>(conv=>whnf)<;>(try (exfalso;omega)))|(refine aJ ?_;conv=>whnf)|fail)
        all_goals first
         | (exfalso;omega)
         | skip
        all_goals
         refine⟨(i+1,n+1,Tr.test c.t :: rs,[]),by dsimp only;omega,⟨by dsimp only;omega,by simp[hn],by simp;omega,hb2⟩,?_⟩
         rw[<- push_nil]
         (conv=>whnf)
         simp[envCat,hn]
         try exact⟨rfl,rfl⟩
       | cons y j=>
        simp only[List.length_cons] at hj hlm
        (try (conv=>whnf));repeat' (first|(refine And.intro ⟨by kernel_rfl⟩ ?_;conv=>whnf)|refine Ok.seq ?_|((first|refine Ok.region tok ?_|refine Ok.cond ?_);conv=>whnf)|refine Ok.block ?_|((first|refine Ok.skip ?_|refine nI ?_|refine ix _ (by assumption) ?_|refine Alt2.r (aI ?_)|refine⟨_,.inl ⟨rfl,rfl⟩,?_⟩|refine⟨_,_,rfl,rfl,?_⟩);conv=>whnf)|(refine bI ?_ ?_<;>intro<;>(conv=>whnf)<;>(try (exfalso;omega)))|((first|refine aJ ?_|refine⟨_,rfl,?_⟩);conv=>whnf)|fail)
        all_goals first
         | (exfalso;omega)
         | skip
        all_goals
         refine⟨(i+1,n+1,Tr.test c.t :: rs,j),by dsimp only;omega,⟨by dsimp only;omega,by simp[hn],by simp;omega,hb2⟩,?_⟩
         rw[<- push_cons rs _ y j,hn]
         (conv=>whnf)
         simp[envCat]
         try rfl
     have hz4:zT c.t:=hz3.resolve_left hk3
     by_cases hk1:c.kind=1\/c.kind=2
     . have hb2:=bld_step hb (hst.trans (sh12 hk1))
       cases j with
       | nil=>
        simp only[List.length_nil,Nat.add_zero] at hj hlm
        (try (conv=>whnf));repeat' (first|((first|refine⟨_,eqTest,by kernel_rfl,?_⟩|refine⟨fun h=>absurd hz4 h,fun _=>?_⟩|refine And.intro ⟨by kernel_rfl⟩ ?_);conv=>whnf)|refine Ok.seq ?_|((first|refine Ok.region tok ?_|refine Ok.cond ?_);conv=>whnf)|refine Ok.block ?_|((first|refine Ok.skip ?_|refine nI ?_|refine ix _ (by assumption) ?_|refine Alt2.l (aI ?_)|refine⟨_,.inl ⟨rfl,rfl⟩,?_⟩|refine⟨_,_,rfl,rfl,?_⟩);conv=>whnf)|(refine bI ?_ ?_<;>intro<;>(conv=>whnf)<;>(try (exfalso;omega)))|(refine aJ ?_;conv=>whnf)|fail)
        all_goals first
         | (exfalso;omega)
         | skip
        all_goals
         refine⟨(i+1,n+1,Tr.leaf (c.kind=1) :: rs,[]),by dsimp only;omega,⟨by dsimp only;omega,by simp[hn],by simp;omega,hb2⟩,?_⟩
         rw[<- push_nil]
         (conv=>whnf)
         simp[envCat,hn]
         try exact⟨rfl,rfl⟩
       | cons y j=>
        simp only[List.length_cons] at hj hlm
        (try (conv=>whnf));repeat' (first|((first|refine⟨_,eqTest,by kernel_rfl,?_⟩|refine⟨fun h=>absurd hz4 h,fun _=>?_⟩|refine And.intro ⟨by kernel_rfl⟩ ?_);conv=>whnf)|refine Ok.seq ?_|((first|refine Ok.region tok ?_|refine Ok.cond ?_);conv=>whnf)|refine Ok.block ?_|((first|refine Ok.skip ?_|refine nI ?_|refine ix _ (by assumption) ?_|refine Alt2.r (aI ?_)|refine⟨_,.inl ⟨rfl,rfl⟩,?_⟩|refine⟨_,_,rfl,rfl,?_⟩);conv=>whnf)|(refine bI ?_ ?_<;>intro<;>(conv=>whnf)<;>(try (exfalso;omega)))|((first|refine aJ ?_|refine⟨_,rfl,?_⟩);conv=>whnf)|fail)
        all_goals first
         | (exfalso;omega)
         | skip
        all_goals
         refine⟨(i+1,n+1,Tr.leaf (c.kind=1) :: rs,j),by dsimp only;omega,⟨by dsimp only;omega,by simp[hn],by simp;omega,hb2⟩,?_⟩
         rw[<- push_cons rs _ y j,hn]
         (conv=>whnf)
         simp[envCat]
         try rfl
     by_cases hk4:c.kind=4
     . match rs,hn with
       | [],hn=>
        simp only[List.length_nil] at hn
        subst hn
        rw[bld_none hb (hst.trans (sh4 hk4))]
        (try (conv=>whnf));repeat' (first|((first|refine⟨_,eqTest,by kernel_rfl,?_⟩|refine⟨fun h=>absurd hz4 h,fun _=>?_⟩);conv=>whnf)|refine Ok.seq ?_|((first|refine Ok.region tok ?_|refine Ok.cond ?_);conv=>whnf)|refine Ok.block ?_|((first|refine Ok.skip ?_|refine Ok.ret ?_|refine nI ?_|refine ix _ (by assumption) ?_);conv=>whnf)|(refine bI ?_ ?_<;>intro<;>(conv=>whnf)<;>(try (exfalso;omega)))|fail)
        all_goals first
         | (exfalso;omega)
         | (refine Or.inl ?_;(conv=>whnf)
            rfl)
       | x :: r,hn=>
        simp only[List.length_cons] at hn
        obtain⟨m,rfl⟩:∃ m,n=m+1:=⟨n - 1,by omega⟩
        have hm:r.length=m:=by omega
        have hb2:=bld_step hb (hst.trans (sh4 hk4))
        have hmI:(((m+1:Nat):Int) - 1).toNat=m:=by omega
        have hg1:((x :: r).reverse++j)[(((m+1:Nat):Int) - 1).toNat]? = some x:=by rw[hmI,<- hm];exact pile_top x r j
        (try (conv=>whnf));repeat' (first|((first|refine⟨_,eqTest,by kernel_rfl,?_⟩|refine⟨fun h=>absurd hz4 h,fun _=>?_⟩|refine And.intro ⟨by kernel_rfl⟩ ?_|refine rd rfl hg1 ?_|refine st (Tr.neg x) hg1 (by simp) rfl ?_);conv=>whnf)|refine Ok.seq ?_|((first|refine Ok.region tok ?_|refine Ok.cond ?_);conv=>whnf)|refine Ok.block ?_|((first|refine Ok.skip ?_|refine nI ?_|refine ix _ (by assumption) ?_);conv=>whnf)|(refine bI ?_ ?_<;>intro<;>(conv=>whnf)<;>(try (exfalso;omega)))|(refine aJ ?_;conv=>whnf)|fail)
        all_goals first
         | (exfalso;omega)
         | skip
        all_goals
         refine⟨(i+1,m+1,Tr.neg x :: r,j),by dsimp only;omega,⟨by dsimp only;omega,by simp[hm],by dsimp only;omega,hb2⟩,?_⟩
         rw[hmI,<- hm,set_top]
         (conv=>whnf)
         rfl
     by_cases hk5:c.kind=5
     . match rs,hn with
       | [],hn=>
        simp only[List.length_nil] at hn
        subst hn
        rw[bld_none hb (hst.trans (sh5 hk5))]
        (try (conv=>whnf));repeat' (first|((first|refine⟨_,eqTest,by kernel_rfl,?_⟩|refine⟨fun h=>absurd hz4 h,fun _=>?_⟩);conv=>whnf)|refine Ok.seq ?_|((first|refine Ok.region tok ?_|refine Ok.cond ?_);conv=>whnf)|refine Ok.block ?_|((first|refine Ok.skip ?_|refine Ok.ret ?_|refine nI ?_|refine ix _ (by assumption) ?_);conv=>whnf)|(refine bI ?_ ?_<;>intro<;>(conv=>whnf)<;>(try (exfalso;omega)))|fail)
        all_goals first
         | (exfalso;omega)
         | (refine Or.inl ?_;(conv=>whnf)
            rfl)
       | [y],hn=>
        simp only[List.length_cons,List.length_nil] at hn
        subst hn
        rw[bld_none hb (hst.trans (sh5 hk5))]
        (try (conv=>whnf));repeat' (first|((first|refine⟨_,eqTest,by kernel_rfl,?_⟩|refine⟨fun h=>absurd hz4 h,fun _=>?_⟩);conv=>whnf)|refine Ok.seq ?_|((first|refine Ok.region tok ?_|refine Ok.cond ?_);conv=>whnf)|refine Ok.block ?_|((first|refine Ok.skip ?_|refine Ok.ret ?_|refine nI ?_|refine ix _ (by assumption) ?_);conv=>whnf)|(refine bI ?_ ?_<;>intro<;>(conv=>whnf)<;>(try (exfalso;omega)))|fail)
        all_goals first
         | (exfalso;omega)
         | (refine Or.inl ?_;(conv=>whnf)
            rfl)
       | y :: x :: r,hn=>
        simp only[List.length_cons] at hn
        obtain⟨m,rfl⟩:∃ m,n=m+2:=⟨n - 2,by omega⟩
        have hm:r.length=m:=by omega
        have hb2:=bld_step hb (hst.trans (sh5 hk5))
        have hmI:(((m+2:Nat):Int) - 1).toNat=m+1:=by omega
        have hmJ:(((m+2:Nat):Int) - 1 - 1).toNat=m:=by omega
        have hg1:((y :: x :: r).reverse++j)[(((m+2:Nat):Int) - 1).toNat]? = some y:=by rw[hmI,<- hm];exact pile_top y (x :: r) j
        have hg2:((y :: x :: r).reverse++j)[(((m+2:Nat):Int) - 1 - 1).toNat]? = some x:=by rw[hmJ,<- hm];exact pile_top2 x y r j
        (try (conv=>whnf));repeat' (first|((first|refine⟨_,eqTest,by kernel_rfl,?_⟩|refine⟨fun h=>absurd hz4 h,fun _=>?_⟩|refine And.intro ⟨by kernel_rfl⟩ ?_|refine rd rfl hg1 ?_|refine rd rfl hg2 ?_|refine st (Tr.and x y) hg2 (by simp) rfl ?_);conv=>whnf)|(refine⟨m+1,rfl,(by show ((m+2:Nat):Int) - 1=((m+1:Nat):Int);omega),(by omega),?_⟩;conv=>whnf)|refine Ok.seq ?_|((first|refine Ok.region tok ?_|refine Ok.region_plan (id:=23) tok follows [(4,11,[]),(8,11,[]),(10,11,[])] [.q 0,.q 1,.q 2,.q 3,.q 4,.q 5,.q 6,.q 7,.q 8,.q 9,.l 10,.l 11] (by kernel_rfl) ?_|refine Ok.cond ?_);conv=>whnf)|refine Ok.block ?_|((first|refine Ok.skip ?_|refine nI ?_|refine ix _ (by assumption) ?_);conv=>whnf)|(refine bI ?_ ?_<;>intro<;>(conv=>whnf)<;>(try (exfalso;omega)))|(refine aJ ?_;conv=>whnf)|fail)
        all_goals first
         | (exfalso;omega)
         | skip
        all_goals
         refine⟨(i+1,m+1,Tr.and x y :: r,y :: j),by dsimp only;omega,⟨by dsimp only;omega,by simp[hm],by simp;omega,hb2⟩,?_⟩
         rw[hmJ,<- hm,set_top2]
         (conv=>whnf)
         rfl
     by_cases hk6:c.kind=6
     . match rs,hn with
       | [],hn=>
        simp only[List.length_nil] at hn
        subst hn
        rw[bld_none hb (hst.trans (sh6 hk6))]
        (try (conv=>whnf));repeat' (first|((first|refine⟨_,eqTest,by kernel_rfl,?_⟩|refine⟨fun h=>absurd hz4 h,fun _=>?_⟩);conv=>whnf)|refine Ok.seq ?_|((first|refine Ok.region tok ?_|refine Ok.cond ?_);conv=>whnf)|refine Ok.block ?_|((first|refine Ok.skip ?_|refine Ok.ret ?_|refine nI ?_|refine ix _ (by assumption) ?_);conv=>whnf)|(refine bI ?_ ?_<;>intro<;>(conv=>whnf)<;>(try (exfalso;omega)))|fail)
        all_goals first
         | (exfalso;omega)
         | (refine Or.inl ?_;(conv=>whnf)
            rfl)
       | [y],hn=>
        simp only[List.length_cons,List.length_nil] at hn
        subst hn
        rw[bld_none hb (hst.trans (sh6 hk6))]
        (try (conv=>whnf));repeat' (first|((first|refine⟨_,eqTest,by kernel_rfl,?_⟩|refine⟨fun h=>absurd hz4 h,fun _=>?_⟩);conv=>whnf)|refine Ok.seq ?_|((first|refine Ok.region tok ?_|refine Ok.cond ?_);conv=>whnf)|refine Ok.block ?_|((first|refine Ok.skip ?_|refine Ok.ret ?_|refine nI ?_|refine ix _ (by assumption) ?_);conv=>whnf)|(refine bI ?_ ?_<;>intro<;>(conv=>whnf)<;>(try (exfalso;omega)))|fail)
        all_goals first
         | (exfalso;omega)
         | (refine Or.inl ?_;(conv=>whnf)
            rfl)
       | y :: x :: r,hn=>
        simp only[List.length_cons] at hn
        obtain⟨m,rfl⟩:∃ m,n=m+2:=⟨n - 2,by omega⟩
        have hm:r.length=m:=by omega
        have hb2:=bld_step hb (hst.trans (sh6 hk6))
        have hmI:(((m+2:Nat):Int) - 1).toNat=m+1:=by omega
        have hmJ:(((m+2:Nat):Int) - 1 - 1).toNat=m:=by omega
        have hg1:((y :: x :: r).reverse++j)[(((m+2:Nat):Int) - 1).toNat]? = some y:=by rw[hmI,<- hm];exact pile_top y (x :: r) j
        have hg2:((y :: x :: r).reverse++j)[(((m+2:Nat):Int) - 1 - 1).toNat]? = some x:=by rw[hmJ,<- hm];exact pile_top2 x y r j
        (try (conv=>whnf));repeat' (first|((first|refine⟨_,eqTest,by kernel_rfl,?_⟩|refine⟨fun h=>absurd hz4 h,fun _=>?_⟩|refine And.intro ⟨by kernel_rfl⟩ ?_|refine rd rfl hg1 ?_|refine rd rfl hg2 ?_|refine st (Tr.or x y) hg2 (by simp) rfl ?_);conv=>whnf)|(refine⟨m+1,rfl,(by show ((m+2:Nat):Int) - 1=((m+1:Nat):Int);omega),(by omega),?_⟩;conv=>whnf)|refine Ok.seq ?_|((first|refine Ok.region tok ?_|refine Ok.region_plan (id:=23) tok follows [(4,11,[]),(8,11,[]),(10,11,[])] [.q 0,.q 1,.q 2,.q 3,.q 4,.q 5,.q 6,.q 7,.q 8,.q 9,.l 10,.l 11] (by kernel_rfl) ?_|refine Ok.cond ?_);conv=>whnf)|refine Ok.block ?_|((first|refine Ok.skip ?_|refine nI ?_|refine ix _ (by assumption) ?_);conv=>whnf)|(refine bI ?_ ?_<;>intro<;>(conv=>whnf)<;>(try (exfalso;omega)))|(refine aJ ?_;conv=>whnf)|fail)
        all_goals first
         | (exfalso;omega)
         | skip
        all_goals
         refine⟨(i+1,m+1,Tr.or x y :: r,y :: j),by dsimp only;omega,⟨by dsimp only;omega,by simp[hm],by simp;omega,hb2⟩,?_⟩
         rw[hmJ,<- hm,set_top2]
         (conv=>whnf)
         rfl
     rw[bld_none hb (hst.trans (sh0 (by omega)))]
     (try (conv=>whnf));repeat' (first|((first|refine⟨_,eqTest,by kernel_rfl,?_⟩|refine⟨fun h=>absurd hz4 h,fun _=>?_⟩);conv=>whnf)|refine Ok.seq ?_|((first|refine Ok.region tok ?_|refine Ok.cond ?_);conv=>whnf)|refine Ok.block ?_|((first|refine Ok.skip ?_|refine Ok.ret ?_|refine nI ?_|refine ix _ (by assumption) ?_);conv=>whnf)|(refine bI ?_ ?_<;>intro<;>(conv=>whnf)<;>(try (exfalso;omega)))|fail)
     all_goals first
      | (exfalso;omega)
      | (refine Or.inl ?_;(conv=>whnf)
         rfl)
 . have hie:i=e.length:=by omega
   subst hie
   rw[List.drop_length] at hb
   have hbe:=bld_end hb
   match rs,hn with
   | [],hn=>
    simp only[List.length_nil] at hn
    subst hn
    rw[hbe]
    (try (conv=>whnf));repeat' (first|refine Ok.seq ?_|((first|refine Ok.region tok ?_|refine Ok.cond ?_|refine Ok.exit ?_|refine Ok.ret ?_);conv=>whnf)|(refine bI ?_ ?_<;>intro<;>(conv=>whnf)<;>(try (exfalso;omega)))|fail)
    all_goals first
     | (exfalso;omega)
     | (refine Or.inl ?_;(conv=>whnf)
        rfl)
   | [x],hn=>
    simp only[List.length_cons,List.length_nil] at hn
    subst hn
    rw[hbe]
    have hg0:([x].reverse++j)[(0:Int).toNat]? = some x:=by simp
    (try (conv=>whnf));repeat' (first|(refine rd rfl hg0 ?_;conv=>whnf)|refine Ok.seq ?_|((first|refine Ok.region tok ?_|refine Ok.cond ?_|refine Ok.skip ?_|refine Ok.exit ?_|refine Ok.ret ?_);conv=>whnf)|(refine bI ?_ ?_<;>intro<;>(conv=>whnf)<;>(try (exfalso;omega)))|(refine aJ ?_;conv=>whnf)|fail)
    all_goals first
     | (exfalso;omega)
     | (refine Or.inl ?_;(conv=>whnf)
        rfl)
   | x :: y :: r,hn=>
    simp only[List.length_cons] at hn
    rw[hbe]
    (try (conv=>whnf));repeat' (first|refine Ok.seq ?_|((first|refine Ok.region tok ?_|refine Ok.cond ?_|refine Ok.exit ?_|refine Ok.ret ?_);conv=>whnf)|(refine bI ?_ ?_<;>intro<;>(conv=>whnf)<;>(try (exfalso;omega)))|fail)
    all_goals first
     | (exfalso;omega)
     | (refine Or.inl ?_;(conv=>whnf)
        rfl)
end Go.Proofs.YtcglkonooeddfaaGreatDoor
namespace Go.Proofs.YtcglkonooeddfaaGreatDoor
open Go Go.Vx Go.Shelf
def TxtOk(e:List Nd):Prop:=∀ c ∈ e,c.t.f.length<=1000000000000/\c.t.pat.length<=1000000000000
end Go.Proofs.YtcglkonooeddfaaGreatDoor
namespace Go.Proofs.YtcglkonooeddfaaGreatDoor
open Go Go.Vx Go.Shelf
open Classical in
/-- The error of a test over a layout. -/
noncomputable def errF(l:List Fd)(t:Tst):Int:=if findI t.f l 0<0 then 41 else match l[(findI t.f l 0).toNat]? with|some c=>errT t c.bits.toNat|none=>0
theorem errF_none{l:List Fd}{t:Tst}(h:findI t.f l 0=-1):errF l t=41:=by unfold errF;rw[if_pos (by omega)]
theorem errF_some{l:List Fd}{t:Tst}{k:Nat}{c:Fd}(h:findI t.f l 0=(k:Nat))(hc:l[k]? = some c):errF l t=errT t c.bits.toNat:=by
 unfold errF;rw[if_neg (by omega),h,Int.toNat_natCast,hc]
theorem find_cases(nm:Str)(l:List Fd):findI nm l 0=-1\/∃ (k:Nat) (c:Fd),findI nm l 0=(k:Nat)/\l[k]? = some c:=by
 obtain⟨_,h1,h2⟩:=findI_ge nm l 0
 by_cases h:findI nm l 0<0
 . exact .inl (by omega)
 . exact .inr ⟨(findI nm l 0).toNat,l[(findI nm l 0).toNat]'(by omega),by omega,gEt0 _⟩
end Go.Proofs.YtcglkonooeddfaaGreatDoor
namespace Go.Proofs.YtcglkonooeddfaaGreatDoor
open Go Go.Vx Go.Shelf
theorem xs_bits(n:Nat)(i:Nat):car (xsT n) i=false/\one (xsT n) i=false:=by
 by_cases h:i<n
 . have e:(xsT n)[i]? = some 120:=by simp[xsT,List.getElem?_replicate,h]
   rw[(at_b e).1,(at_b e).2]
   exact⟨rfl,rfl⟩
 . exact at_out (by simp[xsT];omega)
theorem xs_wof{f:Nat->Bool}(h:∀ i,f i=false)(k:Nat):wof f k=0#64:=BitVec.eq_of_getLsbD_eq fun i hi=>by rw[wof_get _ _ _ hi,h];simp
theorem crow_xs(n:Nat):crow (xsT n)=[.i .i64 n,.i .u64 0,.i .u64 0,.i .u64 0,.i .u64 0,.i .u64 0,.i .u64 0,.i .u64 0,.i .u64 0]:=by
 have h1:=xs_wof (fun i=>(xs_bits n i).1)
 have h2:=xs_wof (fun i=>(xs_bits n i).2)
 simp only[crow,cells9,h1,h2,xsT_len]
 rfl
theorem xs_ct{n:Nat}(h:n<=256):CT (xsT n):=⟨by simp[xsT];omega,fun b hb=>by rw[(List.mem_replicate.1 hb).2];simp⟩
theorem xs_cn{n:Nat}(h:n<=256)(h0:1<=n):CN (xsT n):=⟨xs_ct h,fun e=>by have:=congrArg List.length e;rw[xsT_len] at this;simp at this;omega⟩
theorem xall_at(n:Nat)(h:n<=256)(h0:1<=n):FSpec Tryz.prog T 283 [.i .i64 (n:Nat)] (fun d rows=>d = .agg (crow (xsT n))/\rows=[]):=by
 refine FSpec.of_ok tok Tryz.func283 rfl Tryz.call283 (by simp) ?_
 rw[crow_xs]
 (try (conv=>whnf));repeat' (first|refine Ok.seq ?_|((first|refine Ok.region tok ?_|refine Ok.cond ?_|refine Ok.skip ?_|refine Ok.ret ?_);conv=>whnf)|(refine bI ?_ ?_<;>intro<;>(conv=>whnf)<;>(try (exfalso;omega)))|fail)
 all_goals first
  | (exfalso;omega)
  | (refine Or.inl ?_;(conv=>whnf)
     exact⟨rfl,rfl⟩)
end Go.Proofs.YtcglkonooeddfaaGreatDoor
namespace Go.Proofs.YtcglkonooeddfaaGreatDoor
open Go Go.Vx Go.Shelf
def oneTT(t:Tst)(b:Nat):Str:=if t.form=4 then t.pat else if t.form=2 then pfxT t.lo.toNat b t.len.toNat else pfxT t.lo.toNat b b
theorem one_at(f:Str)(op form hi:Int)(vl vn:Nat)(pat:Str)(b:Nat)(hb:b<=32)(hvl:vl<9223372036854775808)(hvn:vn<=b):FSpec Tryz.prog T 282 [.agg (tcl f op form vl hi vn pat),.i .i64 (b:Nat)] (fun d _=>d = .s (oneTT ⟨f,op,form,vl,hi,vn,pat⟩ b)):=by
 have hp1:=prefix_at vl b vn hvl (by omega) hvn vl b vn rfl rfl rfl
 have hp2:=prefix_at vl b b hvl (by omega) (Nat.le_refl _) vl b b rfl rfl rfl
 refine FSpec.of_ok tok Tryz.func282 rfl Tryz.call282 (by simp) ?_
 unfold oneTT
 dsimp only
 (try (conv=>whnf));repeat' (first|refine Ok.seq ?_|((first|refine Ok.region tok ?_|refine Ok.cond ?_);conv=>whnf)|refine Ok.block ?_|((first|refine Ok.skip ?_|refine Ok.ret ?_);conv=>whnf)|(refine Or.inl ?_;(conv=>whnf);(repeat (refine aI ?_;conv=>whnf));refine⟨_,hp1,rfl,?_⟩;conv=>whnf)|(refine Or.inl ?_;(conv=>whnf);(repeat (refine aI ?_;conv=>whnf));refine⟨_,hp2,rfl,?_⟩;conv=>whnf)|(refine bI ?_ ?_<;>intro<;>(conv=>whnf)<;>(try (exfalso;omega)))|fail)
 all_goals first
  | (exfalso;omega)
  | (refine Or.inl ?_;(conv=>whnf)
     first
      | (rw[if_pos (by omega)];rfl)
      | (rw[if_neg (by omega),if_pos (by omega)];rfl)
      | (rw[if_neg (by omega),if_neg (by omega)];rfl))
theorem one_len{t:Tst}{b:Nat}(h1:t.form=4->t.pat.length=b)(h2:t.len.toNat<=b):(oneTT t b).length=b:=by
 unfold oneTT
 split
 . rename_i h;exact h1 h
 split
 . exact pfxT_len h2
 . exact pfxT_len (Nat.le_refl _)
theorem pfx_cub(v b n:Nat):cubOk (pfxT v b n):=by
 intro x hx
 unfold pfxT at hx
 rcases mAp0.1 hx with h|h
 . unfold binT at h
   obtain⟨i,_,rfl⟩:=List.mem_map.1 h
   unfold bitC
   split<;>simp
 . rw[(List.mem_replicate.1 h).2];simp
theorem one_cub{t:Tst}{b:Nat}(h1:t.form=4->cubOk t.pat):cubOk (oneTT t b):=by
 unfold oneTT
 split
 . rename_i h;exact h1 h
 split
 . exact pfx_cub _ _ _
 . exact pfx_cub _ _ _
end Go.Proofs.YtcglkonooeddfaaGreatDoor
namespace Go.Proofs.YtcglkonooeddfaaGreatDoor
open Go Go.Vx Go.Shelf
def eitT(t:Tst)(b:Nat):List Str:=
 if t.form=3 then (if t.op=1 then coverC b (t.hi.toNat+1) t.lo.toNat else coverC b t.lo.toNat 0++coverC b (tw b) (t.hi.toNat+1))
 else if t.op=1 then [oneTT t b] else splitT (xsT b) (oneTT t b)
def valT(t:Tst)(b:Nat):List Str:=
 if t.op<=2 then eitT t b else if t.op=3 then coverC b t.lo.toNat 0 else if t.op=4 then coverC b (t.lo.toNat+1) 0
 else if t.op=5 then coverC b (tw b) (t.lo.toNat+1) else coverC b (tw b) t.lo.toNat
theorem either_at(f:Str)(op form:Int)(vl vh vn:Nat)(pat:Str)(b:Nat)(h0:1<=b)(hb:b<=32)(hvl:vl<tw b)(hvh:vh<tw b)(hvn:vn<=b)(hpl:form=4->pat.length=b)(hpc:form=4->cubOk pat) :
    FSpec Tryz.prog T 241 [.agg (tcl f op form vl vh vn pat),.i .i64 (b:Nat)] (fun d rows=>d = .own 0 (eitT ⟨f,op,form,vl,vh,vn,pat⟩ b).length/\rows=[some (9,(eitT ⟨f,op,form,vl,vh,vn,pat⟩ b).map srow)]):=by
 have htb:=tw62 (show b<=62 by omega)
 have htop:=top_at b (by omega)
 refine FSpec.of_ok tok Tryz.func241 rfl Tryz.call241 (by simp) ?_
 unfold eitT
 dsimp only
 simp only[Int.toNat_natCast]
 by_cases h3:form=3
 . rw[if_pos h3]
   by_cases h1:op=1
   . rw[if_pos h1]
     have hc:=cover_at b vl (vh+1) hb (by omega) (by omega) b vl vh rfl rfl (by omega)
     generalize coverC b (vh+1) vl=C at *
     have hlm:(C.map srow).length=C.length:=by simp
     (try (conv=>whnf));repeat' (first|refine Ok.seq ?_|((first|refine Ok.region tok ?_|refine Ok.cond ?_|refine Ok.ret ?_);conv=>whnf)|(refine Or.inr (Or.inl ?_);(conv=>whnf);(repeat (refine aI ?_;conv=>whnf));refine⟨_,hc,?_⟩;rintro _ _ ⟨rfl,rfl⟩;conv=>whnf)|(refine bI ?_ ?_<;>intro<;>(conv=>whnf)<;>(try (exfalso;omega)))|fail)
     all_goals first
      | (exfalso;omega)
      | (refine Or.inr (Or.inl ?_);(conv=>whnf)
         exact⟨rfl,rfl⟩)
   . rw[if_neg h1]
     have hc1:=cover_at b 0 vl hb (by omega) (by omega) b 0 ((vl:Int) - 1) rfl rfl rfl
     have hc2:=cover_at b (vh+1) (tw b) hb (by omega) (by omega) b ((vh:Int)+1) ((tw b:Int) - 1) rfl rfl rfl
     have hl1:=coverC_len (bits:=b) (lo:=0) (H:=vl) (by show vl<=tw b;omega)
     have hl2:=coverC_len (bits:=b) (lo:=vh+1) (H:=tw b) (Nat.le_refl _)
     generalize coverC b vl 0=A at *
     generalize coverC b (tw b) (vh+1)=B at *
     have hlA:(A.map srow).length=A.length:=by simp
     have hlB:(B.map srow).length=B.length:=by simp
     (try (conv=>whnf));repeat' (first|(refine⟨B.map srow,.inl ⟨hlB.symm,rfl⟩,?_⟩;conv=>whnf)|refine Ok.seq ?_|((first|refine Ok.region tok ?_|refine Ok.region_plan (id:=4) tok follows [(2,4,[3]),(2,10,[4,3]),(4,10,[]),(2,11,[10,4,3]),(7,11,[8]),(4,11,[10]),(10,11,[]),(2,12,[4,3]),(7,12,[11,8]),(4,12,[]),(10,12,[11]),(11,12,[])] [.q 0,.q 1,.q 2,.q 3,.q 5,.q 6,.q 7,.q 8,.q 9,.l 4,.l 10,.l 11,.l 12,.q 13] (by kernel_rfl) ?_|refine Ok.cond ?_|refine Ok.skip ?_|refine Ok.ret ?_|refine nI ?_);conv=>whnf)|(refine Or.inl ?_;(conv=>whnf);(repeat (refine aI ?_;conv=>whnf));refine⟨_,htop,rfl,?_⟩;conv=>whnf)|(refine Or.inr (Or.inl ?_);(conv=>whnf);(repeat (refine aI ?_;conv=>whnf));refine⟨_,hc1,?_⟩;rintro _ _ ⟨rfl,rfl⟩;conv=>whnf)|(refine Or.inr (Or.inl ?_);(conv=>whnf);(repeat (refine aI ?_;conv=>whnf));refine⟨_,hc2,?_⟩;rintro _ _ ⟨rfl,rfl⟩;conv=>whnf)|((first|refine Alt2.l (aI ?_)|refine⟨_,_,rfl,rfl,?_⟩);conv=>whnf)|(refine bI ?_ ?_<;>intro<;>(conv=>whnf)<;>(try (exfalso;omega)))|(refine aJ ?_;conv=>whnf)|fail)
     all_goals first
      | (exfalso;omega)
      | (refine Or.inr (Or.inl ?_);(conv=>whnf)
         exact⟨by simp;rfl,by simp⟩)
 . rw[if_neg h3]
   have ho:=one_at f op form vh vl vn pat b hb (by omega) hvn
   have hcl:(oneTT ⟨f,op,form,vl,vh,vn,pat⟩ b).length=b:=one_len hpl (by simp;omega)
   have hcc:cubOk (oneTT ⟨f,op,form,vl,vh,vn,pat⟩ b):=one_cub hpc
   generalize oneTT ⟨f,op,form,vl,vh,vn,pat⟩ b=c at *
   have hct:CT c:=⟨by omega,hcc⟩
   by_cases h1:op=1
   . rw[if_pos h1]
     (try (conv=>whnf));repeat' (first|refine Ok.seq ?_|((first|refine Ok.region tok ?_|refine Ok.cond ?_|refine Ok.skip ?_|refine Ok.ret ?_);conv=>whnf)|(refine Or.inl ?_;(conv=>whnf);(repeat (refine aI ?_;conv=>whnf));refine⟨_,ho,rfl,?_⟩;conv=>whnf)|(refine bI ?_ ?_<;>intro<;>(conv=>whnf)<;>(try (exfalso;omega)))|fail)
     all_goals first
      | (exfalso;omega)
      | (refine Or.inr (Or.inl ?_);(conv=>whnf)
         exact⟨rfl,rfl⟩)
   . rw[if_neg h1]
     have hne:c ≠ []:=fun e=>by rw[e] at hcl;simp at hcl;omega
     have hpz:perr c=0:=by unfold perr;rw[if_neg (by omega),if_pos ⟨hct,hne⟩]
     have hpa:=parse_at c
     rw[zer_of ⟨hct,hne⟩,hpz] at hpa
     have hsp:=split_at (xsT b) c (xs_cn (by omega) h0) hct
     have hPc:=splitT_cn (xs_cn (show b<=256 by omega) h0) hct
     have hPl:=splitT_len (c:=xsT b) (d:=c) (by rw[xsT_len];omega)
     generalize splitT (xsT b) c=P at *
     have hlP:(P.map crow).length=P.length:=by simp
     (try (conv=>whnf));repeat' (first|refine Ok.seq ?_|((first|refine Ok.region tok ?_|refine Ok.region_plan (id:=10) tok follows [(2,3,[]),(1,3,[])] [.q 0,.q 2,.q 5,.l 1,.l 3,.q 4] (by kernel_rfl) ?_|refine Ok.cond ?_);conv=>whnf)|refine Ok.block ?_|(refine Ok.skip ?_;conv=>whnf)|(refine Or.inl ?_;(conv=>whnf);(repeat (refine aI ?_;conv=>whnf));refine⟨_,ho,rfl,?_⟩;conv=>whnf)|(refine Or.inr (Or.inl ?_);(conv=>whnf);(repeat (refine aI ?_;conv=>whnf));refine⟨_,hpa,?_⟩;rintro _ _ ⟨rfl,rfl⟩;conv=>whnf)|(refine Or.inr (Or.inl ?_);(conv=>whnf);(repeat (refine aI ?_;conv=>whnf));refine⟨_,xall_at b (by omega) h0,?_⟩;rintro _ _ ⟨rfl,rfl⟩;conv=>whnf)|(refine Or.inr (Or.inl ?_);(conv=>whnf);(repeat (refine aI ?_;conv=>whnf));refine⟨_,hsp , ?_⟩;rintro _ _ ⟨rm,rfl,rfl⟩<;>(conv=>whnf))|(refine bI ?_ ?_<;>intro<;>(conv=>whnf)<;>(try (exfalso;omega)))|fail)
     all_goals first
      | (exfalso;omega)
      | skip
     refine Ok.ghost 8 9 rfl ?_
     (conv=>whnf)
     refine Ok.loopU [52,53] [8,54] 1 2 (fun (i:Nat)=>[.own 0 i,.i .i64 (i:Nat)]) (fun _ b=>b) (fun (i:Nat) (_:Vx.Rows)=>[some (9,(P.take i).map srow)]) (fun (i:Nat)=>i<=P.length) (fun (i:Nat)=>P.length - i) (0) (Nat.zero_le _) ?_;(conv=>whnf);refine⟨by ((conv=>whnf);first|rfl|(simp[envCat,tkL0,nrow,frow,bcell,srow,tcells,crow];done)|(simp[envCat,tkL0,nrow,frow,bcell,srow,tcells,crow];rw[IntKind.wrap_i64];omega)),?_⟩
     intro i hi
     have hti:((P.take i).map srow).length=i:=by simp;omega
     (conv=>whnf)
     by_cases hil:i<P.length
     . obtain⟨x,hx⟩:∃ x,P[i]? = some x:=⟨_,gEt0 hil⟩
       have hxI:P[((i:Nat):Int).toNat]? = some x:=hx
       have hxt:=text_at x (hPc x (mOf0 hx)).1.1
       have hsn:(P.take (i+1)).map srow=(P.take i).map srow++[srow x]:=by rw[take_snoc hx,List.map_append];rfl
       (try (conv=>whnf));repeat' (first|refine Ok.seq ?_|((first|refine Ok.region tok ?_|refine Ok.cond ?_);conv=>whnf)|refine Ok.block ?_|((first|refine Ok.skip ?_|refine nI ?_|refine ix _ (by assumption) ?_);conv=>whnf)|(refine Or.inl ?_;(conv=>whnf);(repeat (refine aI ?_;conv=>whnf));refine⟨_,hxt,rfl,?_⟩;conv=>whnf)|((first|refine Alt2.l (aI ?_)|refine⟨_,.inl ⟨rfl,rfl⟩,?_⟩|refine⟨_,_,rfl,rfl,?_⟩);conv=>whnf)|(refine bI ?_ ?_<;>intro<;>(conv=>whnf)<;>(try (exfalso;omega)))|(refine aJ ?_;conv=>whnf)|fail)
       all_goals first
        | (exfalso;omega)
        | skip
       refine⟨i+1,by omega,by omega,?_⟩
       rw[hsn]
       (conv=>whnf)
       simp[envCat]
       omega
     . have hie:i=P.length:=by omega
       subst hie
       rw[List.take_length]
       (try (conv=>whnf));repeat' (first|refine Ok.seq ?_|((first|refine Ok.region tok ?_|refine Ok.cond ?_|refine Ok.exit ?_|refine Ok.ret ?_);conv=>whnf)|(refine bI ?_ ?_<;>intro<;>(conv=>whnf)<;>(try (exfalso;omega)))|fail)
       all_goals first
        | (exfalso;omega)
        | (refine Or.inr (Or.inl ?_);(conv=>whnf)
           exact⟨rfl,rfl⟩)
theorem val_eit{t:Tst}{b:Nat}(h:t.op<=2):valT t b=eitT t b:=by unfold valT;rw[if_pos h]
theorem values_at(f:Str)(op form:Int)(vl vh vn:Nat)(pat:Str)(b:Nat)(h0:1<=b)(hb:b<=32)(ho:1<=op/\op<=6)(hvl:vl<tw b)(hvh:vh<tw b)(hvn:vn<=b)(hpl:form=4->pat.length=b)(hpc:form=4->cubOk pat) :
    FSpec Tryz.prog T 177 [.agg (tcl f op form vl vh vn pat),.i .i64 (b:Nat)] (fun d rows=>d = .own 0 (valT ⟨f,op,form,vl,vh,vn,pat⟩ b).length/\rows=[some (9,(valT ⟨f,op,form,vl,vh,vn,pat⟩ b).map srow)]):=by
 have htb:=tw62 (show b<=62 by omega)
 have htop:=top_at b (by omega)
 refine FSpec.of_ok tok Tryz.func177 rfl Tryz.call177 (by simp) ?_
 unfold valT
 dsimp only
 simp only[Int.toNat_natCast]
 by_cases h2:op<=2
 . rw[if_pos h2]
   have he:=either_at f op form vl vh vn pat b h0 hb hvl hvh hvn hpl hpc
   generalize eitT ⟨f,op,form,vl,vh,vn,pat⟩ b=C at *
   have hlm:(C.map srow).length=C.length:=by simp
   (try (conv=>whnf));repeat' (first|refine Ok.seq ?_|((first|refine Ok.region tok ?_|refine Ok.region_draw tok follows (by kernel_rfl) ?_|refine Ok.cond ?_);conv=>whnf)|refine Ok.block ?_|((first|refine Ok.skip ?_|refine Ok.exit ?_|refine Ok.ret ?_);conv=>whnf)|(refine Or.inr (Or.inl ?_);(conv=>whnf);(repeat (refine aI ?_;conv=>whnf));refine⟨_,he,?_⟩;rintro _ _ ⟨rfl,rfl⟩;conv=>whnf)|(refine bI ?_ ?_<;>intro<;>(conv=>whnf)<;>(try (exfalso;omega)))|fail)
   all_goals first
    | (exfalso;omega)
    | (refine Or.inr (Or.inl ?_);(conv=>whnf)
       exact⟨rfl,rfl⟩)
 rw[if_neg h2]
 by_cases h3:op=3
 . rw[if_pos h3]
   have hc:=cover_at b 0 vl hb (by omega) (by omega) b 0 ((vl:Int) - 1) rfl rfl rfl
   generalize coverC b vl 0=C at *
   have hlm:(C.map srow).length=C.length:=by simp
   (try (conv=>whnf));repeat' (first|refine Ok.seq ?_|((first|refine Ok.region tok ?_|refine Ok.region_draw tok follows (by kernel_rfl) ?_|refine Ok.cond ?_);conv=>whnf)|refine Ok.block ?_|((first|refine Ok.skip ?_|refine Ok.exit ?_|refine Ok.ret ?_|refine nI ?_);conv=>whnf)|(refine Or.inr (Or.inl ?_);(conv=>whnf);(repeat (refine aI ?_;conv=>whnf));refine⟨_,hc,?_⟩;rintro _ _ ⟨rfl,rfl⟩;conv=>whnf)|(refine bI ?_ ?_<;>intro<;>(conv=>whnf)<;>(try (exfalso;omega)))|fail)
   all_goals first
    | (exfalso;omega)
    | (refine Or.inr (Or.inl ?_);(conv=>whnf)
       exact⟨rfl,rfl⟩)
 rw[if_neg h3]
 by_cases h4:op=4
 . rw[if_pos h4]
   have hc:=cover_at b 0 (vl+1) hb (by omega) (by omega) b 0 ((vl:Int)+1 - 1) rfl rfl (by omega)
   generalize coverC b (vl+1) 0=C at *
   have hlm:(C.map srow).length=C.length:=by simp
   (try (conv=>whnf));repeat' (first|refine Ok.seq ?_|((first|refine Ok.region tok ?_|refine Ok.region_draw tok follows (by kernel_rfl) ?_|refine Ok.cond ?_);conv=>whnf)|refine Ok.block ?_|((first|refine Ok.skip ?_|refine Ok.exit ?_|refine Ok.ret ?_|refine nI ?_);conv=>whnf)|(refine Or.inr (Or.inl ?_);(conv=>whnf);(repeat (refine aI ?_;conv=>whnf));refine⟨_,hc,?_⟩;rintro _ _ ⟨rfl,rfl⟩;conv=>whnf)|(refine bI ?_ ?_<;>intro<;>(conv=>whnf)<;>(try (exfalso;omega)))|fail)
   all_goals first
    | (exfalso;omega)
    | (refine Or.inr (Or.inl ?_);(conv=>whnf)
       exact⟨rfl,rfl⟩)
 rw[if_neg h4]
 by_cases h5:op=5
 . rw[if_pos h5]
   have hc:=cover_at b (vl+1) (tw b) hb (by omega) (by omega) b ((vl:Int)+1) ((tw b:Int) - 1) rfl rfl rfl
   generalize coverC b (tw b) (vl+1)=C at *
   have hlm:(C.map srow).length=C.length:=by simp
   (try (conv=>whnf));repeat' (first|refine Ok.seq ?_|((first|refine Ok.region tok ?_|refine Ok.region_draw tok follows (by kernel_rfl) ?_|refine Ok.cond ?_);conv=>whnf)|refine Ok.block ?_|((first|refine Ok.skip ?_|refine Ok.exit ?_|refine Ok.ret ?_|refine nI ?_);conv=>whnf)|(refine Or.inl ?_;(conv=>whnf);(repeat (refine aI ?_;conv=>whnf));refine⟨_,htop,rfl,?_⟩;conv=>whnf)|(refine Or.inr (Or.inl ?_);(conv=>whnf);(repeat (refine aI ?_;conv=>whnf));refine⟨_,hc,?_⟩;rintro _ _ ⟨rfl,rfl⟩;conv=>whnf)|(refine bI ?_ ?_<;>intro<;>(conv=>whnf)<;>(try (exfalso;omega)))|fail)
   all_goals first
    | (exfalso;omega)
    | (refine Or.inr (Or.inl ?_);(conv=>whnf)
       exact⟨rfl,rfl⟩)
 rw[if_neg h5]
 have hc:=cover_at b vl (tw b) hb (by omega) (by omega) b ((vl:Int) - 1+1) ((tw b:Int) - 1) rfl (by omega) rfl
 generalize coverC b (tw b) vl=C at *
 have hlm:(C.map srow).length=C.length:=by simp
 (try (conv=>whnf));repeat' (first|refine Ok.seq ?_|((first|refine Ok.region tok ?_|refine Ok.region_draw tok follows (by kernel_rfl) ?_|refine Ok.cond ?_);conv=>whnf)|refine Ok.block ?_|((first|refine Ok.skip ?_|refine Ok.exit ?_|refine Ok.ret ?_|refine nI ?_);conv=>whnf)|(refine Or.inl ?_;(conv=>whnf);(repeat (refine aI ?_;conv=>whnf));refine⟨_,htop,rfl,?_⟩;conv=>whnf)|(refine Or.inr (Or.inl ?_);(conv=>whnf);(repeat (refine aI ?_;conv=>whnf));refine⟨_,hc,?_⟩;rintro _ _ ⟨rfl,rfl⟩;conv=>whnf)|(refine bI ?_ ?_<;>intro<;>(conv=>whnf)<;>(try (exfalso;omega)))|fail)
 all_goals first
  | (exfalso;omega)
  | (refine Or.inr (Or.inl ?_);(conv=>whnf)
     exact⟨rfl,rfl⟩)
end Go.Proofs.YtcglkonooeddfaaGreatDoor
namespace Go.Proofs.YtcglkonooeddfaaGreatDoor
open Go Go.Vx Go.Shelf
theorem chkFrom_lay{all:List Fd}:∀ (r:List Fd) (i:Nat) (sum:Int),(chkFrom all r i sum).1=0->∀ f ∈ r,1<=f.bits/\f.bits<=32
 | [],_,_,_=>by simp
 | f :: r,i,sum,h=>by
  by_cases hb:badF (all.take i) f sum
  . rw[chkFrom_bad hb] at h;cases h
  . rw[chkFrom_ok hb] at h
    intro g hg
    rcases List.mem_cons.1 hg with rfl|hg
    . refine⟨Classical.byContradiction fun e=>hb ?_,Classical.byContradiction fun e=>hb ?_⟩
      . exact .inr (.inr (.inr (.inr (.inl (by omega)))))
      . exact .inr (.inr (.inr (.inr (.inr (.inl (by omega))))))
    . exact chkFrom_lay r _ _ h g hg
theorem chk_lay{l:List Fd}(h:(chkO l).1=0):LayF l/\l.length<=12:=by
 by_cases h1:12<l.length
 . rw[chkO_long h1] at h;cases h
 by_cases h2:l.length=0
 . rw[chkO_nil h2] at h;cases h
 rw[chkO_of h1 h2] at h
 exact⟨chkFrom_lay _ _ _ h,by omega⟩
theorem errT_zero{t:Tst}{b:Nat}(h:errT t b=0):FormOk t/\ValOk t b/\(t.form=4->DigOk t.pat b):=by
 by_cases h1:FormOk t
 . by_cases h2:ValOk t b
   . refine⟨h1,h2,fun h4=>Classical.byContradiction fun hd=>?_⟩
     by_cases h3:t.form=2/\t.lo.toNat % tw (b - t.len.toNat) ≠ 0
     . rw[errT_pre h1 h2 h3] at h;cases h
     . by_cases h5:t.form=3/\t.hi<t.lo
       . rw[errT_rng h1 h2 h3 h5] at h;cases h
       . rw[errT_dig h1 h2 h3 h5 ⟨h4,hd⟩] at h;cases h
   . rw[errT_val h1 h2] at h;cases h
 . rw[errT_form h1] at h;cases h
theorem coverF_one{bits H:Nat}:∀ (k lo:Nat),∀ s ∈ coverF bits H k lo,s.length=bits
 | 0,lo=>by simp[coverF]
 | k+1,lo=>by
  unfold coverF
  split
  . intro s hs
    rcases List.mem_cons.1 hs with rfl|hs
    . exact pfxT_len (Nat.sub_le _ _)
    . exact coverF_one k _ s hs
  . simp
theorem val_one{t:Tst}{b:Nat}(h0:1<=b)(hb:b<=32)(hpl:t.form=4->DigOk t.pat b)(hn:t.len.toNat<=b):∀ s ∈ valT t b,s.length=b:=by
 have hc:∀ H lo,∀ s ∈ coverC b H lo,s.length=b:=fun H lo=>coverF_one _ _
 have hol:=one_len (t:=t) (b:=b) (fun h=>(hpl h).1) hn
 have hoc:=one_cub (t:=t) (b:=b) (fun h=>(hpl h).2)
 intro s hs
 unfold valT eitT at hs
 repeat' split at hs
 all_goals first
  | exact hc _ _ s hs
  | (rcases mAp0.1 hs with h|h<;>exact hc _ _ s h)
  | (rw[List.mem_singleton.1 hs];exact hol)
  | (rw[((splitT_cn (xs_cn (by omega) h0) ⟨by omega,hoc⟩) s hs).2,xsT_len])
theorem val_len{t:Tst}{b:Nat}(h0:1<=b)(hb:b<=32)(h1:t.lo.toNat<tw b)(h2:t.hi.toNat<tw b):(valT t b).length<=400:=by
 have hc:∀ H lo,H<=tw b->(coverC b H lo).length<=66:=fun H lo h=>by
  have:=coverC_len (bits:=b) (lo:=lo) (H:=H) h
  omega
 unfold valT eitT
 repeat' split
 all_goals first
  | (refine Nat.le_trans (hc _ _ (by omega)) (by omega))
  | (rw[List.length_append]
     have a1:=hc t.lo.toNat 0 (by omega)
     have a2:=hc (tw b) (t.hi.toNat+1) (Nat.le_refl _)
     omega)
  | (simp;done)
  | (refine Nat.le_trans (splitT_len (by rw[xsT_len];omega)) (by omega))
theorem wid_app(l:List Fd)(k:Nat):wid l=wid (l.take k)+wid (l.drop k):=by
 unfold wid
 rw[<- List.sum_append,<- List.map_append,List.take_append_drop]
theorem lay_take{l:List Fd}(h:LayF l)(k:Nat):LayF (l.take k):=fun x hx=>h x (List.mem_of_mem_take hx)
theorem lay_drop{l:List Fd}(h:LayF l)(k:Nat):LayF (l.drop k):=fun x hx=>h x (List.mem_of_mem_drop hx)
open Classical in
noncomputable def errC(l:List Fd)(t:Tst):Int:=if (chkO l).1 ≠ 0 then (chkO l).1 else errF l t
theorem errC_chk{l:List Fd}{t:Tst}(h:(chkO l).1 ≠ 0):errC l t=(chkO l).1:=by unfold errC;rw[if_pos h]
theorem errC_f{l:List Fd}{t:Tst}(h:(chkO l).1=0):errC l t=errF l t:=by unfold errC;rw[if_neg (fun e=>e h)]
def wrapT(l:List Fd)(k:Nat)(x:Str):Str:=xsT (wid (l.take k))++x++xsT (wid (l.drop (k+1)))
def cubL(l:List Fd)(t:Tst):List Str:=match l[(findI t.f l 0).toNat]? with
 | some c=>(valT t c.bits.toNat).map (wrapT l (findI t.f l 0).toNat)
 | none=>[]
theorem cubes_err(l:List Fd)(r:List (List D))(hl:l.length<=1000)(f:Str)(op form lo hi len:Int)(pat:Str)(hs:pat.length<=1000000000000)(he:errC l ⟨f,op,form,lo,hi,len,pat⟩ ≠ 0) :
    FSpec Tryz.prog T 120 [.lst 127 (l.map frow) r,.agg (tcl f op form lo hi len pat)] (fun d rows=>d = .tup [.own 0 0,.i .i64 (errC l ⟨f,op,form,lo,hi,len,pat⟩)]/\rows=[some (9,[])]):=by
 have h1:(l.map frow).length=l.length:=by simp
 have hch:=check_at l r (by omega)
 have hfd:=find_at l r f (by omega)
 refine FSpec.of_ok tok Tryz.func120 rfl Tryz.call120 (by simp) ?_
 by_cases hc0:(chkO l).1=0
 . obtain⟨hlay,_⟩:=chk_lay hc0
   rw[errC_f hc0] at he ⊢
   rcases find_cases f l with hfi|⟨k,c,hfi,hc⟩
   . rw[errF_none hfi]
     rw[hfi] at hfd
     (try (conv=>whnf));repeat' (first|refine Ok.seq ?_|((first|refine Ok.region tok ?_|refine Ok.cond ?_|refine Ok.skip ?_|refine Ok.ret ?_);conv=>whnf)|(refine Or.inl ?_;(conv=>whnf);(repeat (refine aI ?_;conv=>whnf));refine⟨_,hch,rfl,?_⟩;conv=>whnf)|(refine Or.inl ?_;(conv=>whnf);(repeat (refine aI ?_;conv=>whnf));refine⟨_,hfd,rfl,?_⟩;conv=>whnf)|(refine bI ?_ ?_<;>intro<;>(conv=>whnf)<;>(try (exfalso;omega)))|fail)
     all_goals first
      | (exfalso;omega)
      | (refine Or.inr (Or.inr ?_);(conv=>whnf)
         exact⟨rfl,rfl⟩)
   . have hcb:=hlay _ (mOf0 hc)
     have hcI:l[((k:Nat):Int).toNat]? = some c:=hc
     have hft:=fit_at f op form lo hi len pat c.bits.toNat (by omega) (by omega) hs
     rw[show ((c.bits.toNat:Nat):Int)=c.bits by omega] at hft
     rw[errF_some hfi hc] at he ⊢
     rw[hfi] at hfd
     generalize errT ⟨f,op,form,lo,hi,len,pat⟩ c.bits.toNat=e at *
     (try (conv=>whnf));repeat' (first|refine Ok.seq ?_|((first|refine Ok.region tok ?_|refine Ok.cond ?_|refine Ok.skip ?_|refine Ok.ret ?_|refine ix _ (by assumption) ?_);conv=>whnf)|(refine Or.inl ?_;(conv=>whnf);(repeat (refine aI ?_;conv=>whnf));refine⟨_,hch,rfl,?_⟩;conv=>whnf)|(refine Or.inl ?_;(conv=>whnf);(repeat (refine aI ?_;conv=>whnf));refine⟨_,hfd,rfl,?_⟩;conv=>whnf)|(refine Or.inl ?_;(conv=>whnf);(repeat (refine aI ?_;conv=>whnf));refine⟨_,hft,rfl,?_⟩;conv=>whnf)|(refine bI ?_ ?_<;>intro<;>(conv=>whnf)<;>(try (exfalso;omega)))|fail)
     all_goals first
      | (exfalso;omega)
      | (refine Or.inr (Or.inr ?_);(conv=>whnf)
         exact⟨rfl,rfl⟩)
 . rw[errC_chk hc0]
   generalize (chkO l).1=e at *
   (try (conv=>whnf));repeat' (first|refine Ok.seq ?_|((first|refine Ok.region tok ?_|refine Ok.cond ?_|refine Ok.ret ?_);conv=>whnf)|(refine Or.inl ?_;(conv=>whnf);(repeat (refine aI ?_;conv=>whnf));refine⟨_,hch,rfl,?_⟩;conv=>whnf)|(refine bI ?_ ?_<;>intro<;>(conv=>whnf)<;>(try (exfalso;omega)))|fail)
   all_goals first
    | (exfalso;omega)
    | (refine Or.inr (Or.inr ?_);(conv=>whnf)
       exact⟨rfl,rfl⟩)
def gL(A B:Str)(C:List Str)(i:Nat):List Str:=(C.take i).map (fun x=>A++x++B)++C.drop i
theorem gL_len(A B:Str)(C:List Str){i:Nat}(h:i<=C.length):(gL A B C i).length=C.length:=by simp[gL];omega
theorem gL_zero(A B:Str)(C:List Str):gL A B C 0=C:=by simp[gL]
theorem gL_end(A B:Str)(C:List Str):gL A B C C.length=C.map (fun x=>A++x++B):=by simp[gL]
theorem gL_get{A B:Str}{C:List Str}{i:Nat}{x:Str}(h:C[i]? = some x):(gL A B C i)[i]? = some x:=by
 have hi:=(gSm0.1 h).1
 unfold gL
 rw[List.getElem?_append_right (by simp;omega)]
 simp[Nat.min_eq_left (Nat.le_of_lt hi),h]
theorem gL_set{A B:Str}{C:List Str}{i:Nat}{x:Str}(h:C[i]? = some x):(gL A B C i).set i (A++x++B)=gL A B C (i+1):=by
 obtain⟨hi,rfl⟩:=gSm0.1 h
 unfold gL
 have h1:((C.take i).map fun x=>A++x++B).length=i:=by simp;omega
 rw[List.set_append_right _ _ (by omega),h1,Nat.sub_self,List.drop_eq_getElem_cons hi,take_snoc h,List.map_append,List.set_cons_zero]
 simp only[List.map_cons,List.map_nil,List.append_assoc,List.cons_append,List.nil_append]
theorem cubL_at{l:List Fd}{t:Tst}{k:Nat}{c:Fd}(hfi:findI t.f l 0=(k:Nat))(hc:l[k]? = some c):cubL l t=(valT t c.bits.toNat).map (fun x=>xsT (wid (l.take k))++x++xsT (wid (l.drop (k+1)))):=by
 unfold cubL
 rw[hfi,Int.toNat_natCast,hc]
 rfl
theorem cubes_ok(l:List Fd)(r:List (List D))(hl:l.length<=1000)(f:Str)(op form lo hi len:Int)(pat:Str)(hs:pat.length<=1000000000000)(he:errC l ⟨f,op,form,lo,hi,len,pat⟩=0) :
    FSpec Tryz.prog T 120 [.lst 127 (l.map frow) r,.agg (tcl f op form lo hi len pat)] (fun d rows=>d = .tup [.own 0 (cubL l ⟨f,op,form,lo,hi,len,pat⟩).length,.i .i64 0]/\rows=[some (9,(cubL l ⟨f,op,form,lo,hi,len,pat⟩).map srow)]):=by
 have h1:(l.map frow).length=l.length:=by simp
 have hch:=check_at l r (by omega)
 have hfd:=find_at l r f (by omega)
 by_cases hc0:(chkO l).1=0
 case neg=>exact absurd he (by rw[errC_chk hc0];exact hc0)
 obtain⟨hlay,hl12⟩:=chk_lay hc0
 rw[errC_f hc0] at he
 rcases find_cases f l with hfi|⟨k,c,hfi,hc⟩
 . rw[errF_none hfi] at he;cases he
 rw[errF_some hfi hc] at he
 rw[cubL_at hfi hc]
 have hcb:=hlay _ (mOf0 hc)
 have hcI:l[((k:Nat):Int).toNat]? = some c:=hc
 have hkl:=(gSm0.1 hc).1
 obtain⟨b,hb⟩:∃ b:Nat,c.bits=(b:Nat):=⟨c.bits.toNat,by omega⟩
 have hft:=fit_at f op form lo hi len pat c.bits.toNat (by omega) (by omega) hs
 rw[he,show ((c.bits.toNat:Nat):Int)=c.bits by omega] at hft
 rw[show c.bits.toNat=b by omega] at he ⊢
 rw[hfi] at hfd
 obtain⟨hF,hV,hD⟩:=errT_zero he
 have hV2:=hV
 unfold ValOk at hV2
 have hA:=hF.a
 dsimp only at hV2 hA hD
 obtain⟨vl,rfl⟩:∃ v:Nat,lo=v:=⟨lo.toNat,by omega⟩
 obtain⟨vh,rfl⟩:∃ v:Nat,hi=v:=⟨hi.toNat,by omega⟩
 obtain⟨vn,rfl⟩:∃ v:Nat,len=v:=⟨len.toNat,by omega⟩
 have hva:=values_at f op form vl vh vn pat b (by omega) (by omega) (by omega) (by omega) (by omega) (by omega) (fun h=>(hD h).1) (fun h=>(hD h).2)
 have hvo:=val_one (t:=⟨f,op,form,vl,vh,vn,pat⟩) (b:=b) (by omega) (by omega) hD (by simp;omega)
 have hvn:=val_len (t:=⟨f,op,form,vl,vh,vn,pat⟩) (b:=b) (by omega) (by omega) (by simp;omega) (by simp;omega)
 rw[<- hb] at hva
 generalize valT ⟨f,op,form,vl,vh,vn,pat⟩ b=C at *
 have hlt:=lay_take hlay k
 have hld:=lay_drop hlay (k+1)
 have hw1:=wid_le hlt
 have hw2:=wid_le hld
 have ht1:(l.take k).length=k:=by simp;omega
 have ht2:(l.drop (k+1)).length=l.length - (k+1):=by simp
 have hx1:=xrep_at (wid (l.take k)) (by omega)
 have hx2:=xrep_at (wid (l.drop (k+1))) (by omega)
 have hxl1:=xsT_len (wid (l.take k))
 have hxl2:=xsT_len (wid (l.drop (k+1)))
 have hwa:=fun r=>width_at (l.take k) r (by omega) hlt
 have hwb:=fun r=>width_at (l.drop (k+1)) r (by omega) hld
 have hm1:(l.take k).map frow=((l.map frow++r).take k).drop 0:=by rw[List.drop_zero,List.take_append_of_le_length (by omega),List.map_take]
 have hm2:(l.drop (k+1)).map frow=((l.map frow++r).take (l.map frow).length).drop (k+1):=by rw[List.take_append_of_le_length (Nat.le_refl _),List.take_length,List.map_drop]
 generalize xsT (wid (l.take k))=X at *
 generalize xsT (wid (l.drop (k+1)))=Y at *
 have hlC:(C.map srow).length=C.length:=by simp
 refine FSpec.of_ok tok Tryz.func120 rfl Tryz.call120 (by simp) ?_
 (try (conv=>whnf));repeat' (first|((first|refine⟨k+1,(l.map frow).length,rfl,rfl,(by omega),(by omega),(l.drop (k+1)).map frow,_,hm2,rfl,?_⟩|refine⟨(l.take k).map frow,_,hm1,rfl,?_⟩);conv=>whnf)|refine Ok.seq ?_|((first|refine Ok.region tok ?_|refine Ok.cond ?_);conv=>whnf)|refine Ok.block ?_|((first|refine Ok.skip ?_|refine nI ?_|refine ix _ (by assumption) ?_);conv=>whnf)|(refine Or.inl ?_;(conv=>whnf);(repeat (refine aI ?_;conv=>whnf));refine⟨_,hch,rfl,?_⟩;conv=>whnf)|(refine Or.inl ?_;(conv=>whnf);(repeat (refine aI ?_;conv=>whnf));refine⟨_,hfd,rfl,?_⟩;conv=>whnf)|(refine Or.inl ?_;(conv=>whnf);(repeat (refine aI ?_;conv=>whnf));refine⟨_,hft,rfl,?_⟩;conv=>whnf)|(refine Or.inl ?_;(conv=>whnf);(repeat (refine aI ?_;conv=>whnf));refine⟨_,hwa _,rfl,?_⟩;conv=>whnf)|(refine Or.inl ?_;(conv=>whnf);(repeat (refine aI ?_;conv=>whnf));refine⟨_,hwb _,rfl,?_⟩;conv=>whnf)|(refine Or.inl ?_;(conv=>whnf);(repeat (refine aI ?_;conv=>whnf));refine⟨_,hx1,rfl,?_⟩;conv=>whnf)|(refine Or.inl ?_;(conv=>whnf);(repeat (refine aI ?_;conv=>whnf));refine⟨_,hx2,rfl,?_⟩;conv=>whnf)|(refine Or.inr (Or.inl ?_);(conv=>whnf);(repeat (refine aI ?_;conv=>whnf));refine⟨_,hva,?_⟩;rintro _ _ ⟨rfl,rfl⟩;conv=>whnf)|(refine⟨_,_,rfl,rfl,?_⟩;conv=>whnf)|(refine bI ?_ ?_<;>intro<;>(conv=>whnf)<;>(try (exfalso;omega)))|(refine aJ ?_;conv=>whnf)|fail)
 all_goals first
  | (exfalso;omega)
  | skip
 rw[show C.map srow=(gL X Y C 0).map srow by rw[gL_zero]]
 refine Ok.loopU [11,12,13,55] [56] 1 1 (fun (i:Nat)=>[.i .i64 (i:Nat)]) (fun _ b=>b) (fun (i:Nat) (_:Vx.Rows)=>[some (9,(gL X Y C i).map srow)]) (fun (i:Nat)=>i<=C.length) (fun (i:Nat)=>C.length - i) (0) (Nat.zero_le _) ?_;(conv=>whnf);refine⟨by ((conv=>whnf);first|rfl|(simp[envCat,tkL0,nrow,frow,bcell,srow,tcells,crow];done)|(simp[envCat,tkL0,nrow,frow,bcell,srow,tcells,crow];rw[IntKind.wrap_i64];omega)),?_⟩
 intro i hi
 have hgl:=gL_len X Y C hi
 have hgm:((gL X Y C i).map srow).length=C.length:=by rw[lMp0,hgl]
 (conv=>whnf)
 by_cases hil:i<C.length
 . obtain⟨x,hx⟩:∃ x,C[i]? = some x:=⟨_,gEt0 hil⟩
   have hg:=gL_get (A:=X) (B:=Y) hx
   have hgs:=gL_set (A:=X) (B:=Y) hx
   have hxl:=hvo x (mOf0 hx)
   have hgI:(gL X Y C i)[((i:Nat):Int).toNat]? = some x:=hg
   have hap:(X++x:Str).length=X.length+x.length:=List.length_append
   (try (conv=>whnf));repeat' (first|((first|refine rd rfl hgI ?_|refine st (X++x++Y) hgI (by simp) rfl ?_);conv=>whnf)|refine Ok.seq ?_|((first|refine Ok.region tok ?_|refine Ok.cond ?_);conv=>whnf)|refine Ok.block ?_|((first|refine Ok.skip ?_|refine nI ?_);conv=>whnf)|(refine bI ?_ ?_<;>intro<;>(conv=>whnf)<;>(try (exfalso;omega)))|(refine aJ ?_;conv=>whnf)|fail)
   all_goals first
    | (exfalso;omega)
    | skip
   refine⟨i+1,by omega,by omega,?_⟩
   rw[<- hgs]
   (conv=>whnf)
   rfl
 . have hie:i=C.length:=by omega
   subst hie
   rw[gL_end]
   (try (conv=>whnf));repeat' (first|refine Ok.seq ?_|((first|refine Ok.region tok ?_|refine Ok.cond ?_|refine Ok.exit ?_|refine Ok.ret ?_);conv=>whnf)|(refine bI ?_ ?_<;>intro<;>(conv=>whnf)<;>(try (exfalso;omega)))|fail)
   all_goals first
    | (exfalso;omega)
    | (refine Or.inr (Or.inl ?_);(conv=>whnf)
       exact⟨by simp;rfl,rfl⟩)
end Go.Proofs.YtcglkonooeddfaaGreatDoor
namespace Go.Proofs.YtcglkonooeddfaaGreatDoor
open Go Go.Vx Go.Shelf
open Classical in
noncomputable def tstE(l:List Fd):List Nd->Int
 | []=>0
 | c :: r=>if c.kind=3/\errC l c.t ≠ 0 then errC l c.t else tstE l r
theorem tstE_bad{l:List Fd}{c:Nd}{r:List Nd}(h:c.kind=3)(h2:errC l c.t ≠ 0):tstE l (c :: r)=errC l c.t:=by unfold tstE;rw[if_pos ⟨h,h2⟩]
theorem tstE_ok{l:List Fd}{c:Nd}{r:List Nd}(h:¬ (c.kind=3/\errC l c.t ≠ 0)):tstE l (c :: r)=tstE l r:=by conv=>lhs;unfold tstE;rw[if_neg h]
noncomputable def nestE(l:List Fd)(e:List Nd):Option Tr->Int|none=>52|some x=>if 32<x.nest then 53 else tstE l e
open Classical in
/-- What Check tells. -/
noncomputable def chkE(l:List Fd)(e:List Nd):Int:=if (chkO l).1 ≠ 0 then (chkO l).1 else if 64<e.length then 51 else nestE l e (bldO e)
theorem chkE_f{l:List Fd}{e:List Nd}(h:(chkO l).1 ≠ 0):chkE l e=(chkO l).1:=by unfold chkE;rw[if_pos h]
theorem chkE_l{l:List Fd}{e:List Nd}(h:(chkO l).1=0)(h2:64<e.length):chkE l e=51:=by unfold chkE;rw[if_neg (fun x=>x h),if_pos h2]
theorem chkE_b{l:List Fd}{e:List Nd}(h:(chkO l).1=0)(h2:¬ 64<e.length)(h3:bldO e=none):chkE l e=52:=by unfold chkE;rw[if_neg (fun x=>x h),if_neg h2,h3];rfl
theorem chkE_d{l:List Fd}{e:List Nd}{x:Tr}(h:(chkO l).1=0)(h2:¬ 64<e.length)(h3:bldO e=some x)(h4:32<x.nest):chkE l e=53:=by unfold chkE;rw[if_neg (fun x=>x h),if_neg h2,h3];exact if_pos h4
theorem chkE_t{l:List Fd}{e:List Nd}{x:Tr}(h:(chkO l).1=0)(h2:¬ 64<e.length)(h3:bldO e=some x)(h4:¬ 32<x.nest):chkE l e=tstE l e:=by unfold chkE;rw[if_neg (fun x=>x h),if_neg h2,h3];exact if_neg h4
open Classical in
noncomputable def chkD(l:List Fd)(e:List Nd):D:=if chkE l e=0 then (match bldO e with|some x=>.tup [x.d,.i .i64 0]|none=>.u) else .tup [.nilI,.i .i64 (chkE l e)]
theorem chkD_err{l:List Fd}{e:List Nd}{k:Int}(h:chkE l e=k)(h2:k ≠ 0):chkD l e = .tup [.nilI,.i .i64 k]:=by unfold chkD;rw[h,if_neg h2]
theorem chkD_ok{l:List Fd}{e:List Nd}{x:Tr}(h:chkE l e=0)(h2:bldO e=some x):chkD l e = .tup [x.d,.i .i64 0]:=by unfold chkD;rw[if_pos h,h2]
theorem echk_at(l:List Fd)(r:List (List D))(e:List Nd)(r2:List (List D))(hl:l.length<=2000000)(he:e.length<=2000000)(htx:TxtOk e) :
    FSpec Tryz.prog T 65 [.lst 127 (l.map frow) r,.lst 219 (e.map nrow) r2] (fun d rows=>d=chkD l e/\rows=[]):=by
 have h1:(l.map frow).length=l.length:=by simp
 have h2:(e.map nrow).length=e.length:=by simp
 have hch:=check_at l r hl
 refine FSpec.of_ok tok Tryz.func65 rfl Tryz.call65 (by simp) ?_
 by_cases c1:(chkO l).1=0
 case neg=>
  rw[chkD_err (chkE_f c1) c1]
  generalize (chkO l).1=k at *
  (try (conv=>whnf));repeat' (first|refine Ok.seq ?_|((first|refine Ok.region tok ?_|refine Ok.cond ?_|refine Ok.ret ?_);conv=>whnf)|(refine Or.inl ?_;(conv=>whnf);(repeat (refine aI ?_;conv=>whnf));refine⟨_,hch,rfl,?_⟩;conv=>whnf)|(refine bI ?_ ?_<;>intro<;>(conv=>whnf)<;>(try (exfalso;omega)))|fail)
  all_goals first
   | (exfalso;omega)
   | (refine Or.inl ?_;(conv=>whnf)
      exact⟨rfl,rfl⟩)
 by_cases c2:64<e.length
 . rw[chkD_err (chkE_l c1 c2) (by decide)]
   (try (conv=>whnf));repeat' (first|refine Ok.seq ?_|((first|refine Ok.region tok ?_|refine Ok.cond ?_|refine Ok.skip ?_|refine Ok.ret ?_);conv=>whnf)|(refine Or.inl ?_;(conv=>whnf);(repeat (refine aI ?_;conv=>whnf));refine⟨_,hch,rfl,?_⟩;conv=>whnf)|(refine bI ?_ ?_<;>intro<;>(conv=>whnf)<;>(try (exfalso;omega)))|fail)
   all_goals first
    | (exfalso;omega)
    | (refine Or.inl ?_;(conv=>whnf)
       exact⟨rfl,rfl⟩)
 have hbl:=build_at e r2 he
 cases hb:bldO e with
 | none=>
  rw[chkD_err (chkE_b c1 c2 hb) (by decide)]
  rw[hb] at hbl
  (try (conv=>whnf));repeat' (first|refine Ok.seq ?_|((first|refine Ok.region tok ?_|refine Ok.cond ?_|refine Ok.skip ?_|refine Ok.ret ?_);conv=>whnf)|(refine Or.inl ?_;(conv=>whnf);(repeat (refine aI ?_;conv=>whnf));refine⟨_,hch,rfl,?_⟩;conv=>whnf)|(refine Or.inr (Or.inl ?_);(conv=>whnf);(repeat (refine aI ?_;conv=>whnf));refine⟨_,hbl,?_⟩;rintro _ _ ⟨rfl,rfl⟩;conv=>whnf)|(refine bI ?_ ?_<;>intro<;>(conv=>whnf)<;>(try (exfalso;omega)))|fail)
  all_goals first
   | (exfalso;omega)
   | (rename_i h;exact absurd (fun h2=>h2) h)
   | (refine Or.inl ?_;(conv=>whnf)
      exact⟨rfl,rfl⟩)
 | some x=>
  rw[hb] at hbl
  have hsz:=bldO_sz hb
  obtain⟨fx,mx,sx⟩:=nest_at x (by omega)
  have hnx:=nest_le x
  by_cases c4:32<x.nest
  . rw[chkD_err (chkE_d c1 c2 hb c4) (by decide)]
    (try (conv=>whnf));repeat' (first|(refine⟨fun h=>absurd trivial h,fun _=>?_⟩;conv=>whnf)|refine Ok.seq ?_|((first|refine Ok.region tok ?_|refine Ok.cond ?_|refine Ok.skip ?_|refine Ok.ret ?_);conv=>whnf)|(refine Or.inl ?_;(conv=>whnf);(repeat (refine aI ?_;conv=>whnf));refine⟨_,hch,rfl,?_⟩;conv=>whnf)|(refine Or.inr (Or.inl ?_);(conv=>whnf);(repeat (refine aI ?_;conv=>whnf));refine⟨_,hbl,?_⟩;rintro _ _ ⟨rfl,rfl⟩;conv=>whnf)|(refine Or.inl ?_;(conv=>whnf);(repeat (refine aI ?_;conv=>whnf));refine⟨_,mx,_,sx,rfl,?_⟩;conv=>whnf)|(refine bI ?_ ?_<;>intro<;>(conv=>whnf)<;>(try (exfalso;omega)))|fail)
    all_goals first
     | (exfalso;omega)
     | (refine Or.inl ?_;(conv=>whnf)
        exact⟨rfl,rfl⟩)
  . have hce:=chkE_t c1 c2 hb c4
    (try (conv=>whnf));repeat' (first|(refine⟨fun h=>absurd trivial h,fun _=>?_⟩;conv=>whnf)|refine Ok.seq ?_|((first|refine Ok.region tok ?_|refine Ok.cond ?_);conv=>whnf)|refine Ok.block ?_|(refine Ok.skip ?_;conv=>whnf)|(refine Or.inl ?_;(conv=>whnf);(repeat (refine aI ?_;conv=>whnf));refine⟨_,hch,rfl,?_⟩;conv=>whnf)|(refine Or.inr (Or.inl ?_);(conv=>whnf);(repeat (refine aI ?_;conv=>whnf));refine⟨_,hbl,?_⟩;rintro _ _ ⟨rfl,rfl⟩;conv=>whnf)|(refine Or.inl ?_;(conv=>whnf);(repeat (refine aI ?_;conv=>whnf));refine⟨_,mx,_,sx,rfl,?_⟩;conv=>whnf)|(refine bI ?_ ?_<;>intro<;>(conv=>whnf)<;>(try (exfalso;omega)))|fail)
    all_goals first
     | (exfalso;omega)
     | skip
    refine Ok.loopU [0,8,35,36] [37] 0 0 (fun (i:Nat)=>[.i .i64 (i:Nat)]) (fun _ b=>b) (fun _ r=>r) (fun (i:Nat)=>i<=e.length/\tstE l e=tstE l (e.drop i)) (fun (i:Nat)=>e.length - i) (0) (⟨Nat.zero_le _,rfl⟩) ?_;(conv=>whnf);refine⟨by ((conv=>whnf);first|rfl|(simp[envCat, tkL0, nrow, frow, bcell, srow, tcells, crow, qrow];done)|(simp[envCat, tkL0, nrow, frow, bcell, srow, tcells, crow, qrow];rw[IntKind.wrap_i64];omega)),?_⟩
    rintro i ⟨hi,ht⟩
    (conv=>whnf)
    by_cases hil:i<e.length
    . obtain⟨c,hc⟩:∃ c,e[i]? = some c:=⟨_,gEt0 hil⟩
      have hcI:e[((i:Nat):Int).toNat]? = some c:=hc
      have htc:=htx c (mOf0 hc)
      rw[fdrop_at hc] at ht
      by_cases hk:c.kind=3
      . by_cases hE:errC l c.t=0
        . have hcu:=cubes_ok l r (by have:=(chk_lay (l:=l) (by assumption)).2;omega) c.t.f c.t.op c.t.form c.t.lo c.t.hi c.t.len c.t.pat htc.2 hE
          generalize cubL l ⟨c.t.f,c.t.op,c.t.form,c.t.lo,c.t.hi,c.t.len,c.t.pat⟩=Q at *
          rw[tstE_ok (fun h=>h.2 hE)] at ht
          (try (conv=>whnf));repeat' (first|refine Ok.seq ?_|((first|refine Ok.region tok ?_|refine Ok.cond ?_);conv=>whnf)|refine Ok.block ?_|((first|refine Ok.skip ?_|refine nI ?_|refine ix _ (by assumption) ?_);conv=>whnf)|(refine Or.inr (Or.inl ?_);(conv=>whnf);(repeat (refine aI ?_;conv=>whnf));refine⟨_,hcu,?_⟩;rintro _ _ ⟨rfl,rfl⟩;conv=>whnf)|(refine bI ?_ ?_<;>intro<;>(conv=>whnf)<;>(try (exfalso;omega)))|fail)
          all_goals first
           | (exfalso;omega)
           | (refine⟨i+1,by omega,⟨by omega,ht⟩,?_⟩
              (conv=>whnf)
              rfl)
        . have hcu:=cubes_err l r (by have:=(chk_lay (l:=l) (by assumption)).2;omega) c.t.f c.t.op c.t.form c.t.lo c.t.hi c.t.len c.t.pat htc.2 hE
          rw[tstE_bad hk hE] at ht
          rw[chkD_err (hce.trans ht) hE]
          have hE2:errC l ⟨c.t.f,c.t.op,c.t.form,c.t.lo,c.t.hi,c.t.len,c.t.pat⟩=errC l c.t:=rfl
          rw[hE2] at hcu
          generalize errC l c.t=k at *
          (try (conv=>whnf));repeat' (first|refine Ok.seq ?_|((first|refine Ok.region tok ?_|refine Ok.cond ?_);conv=>whnf)|refine Ok.block ?_|((first|refine Ok.skip ?_|refine Ok.ret ?_|refine ix _ (by assumption) ?_);conv=>whnf)|(refine Or.inr (Or.inl ?_);(conv=>whnf);(repeat (refine aI ?_;conv=>whnf));refine⟨_,hcu,?_⟩;rintro _ _ ⟨rfl,rfl⟩;conv=>whnf)|(refine bI ?_ ?_<;>intro<;>(conv=>whnf)<;>(try (exfalso;omega)))|fail)
          all_goals first
           | (exfalso;omega)
           | (refine Or.inl ?_;(conv=>whnf)
              exact⟨rfl,rfl⟩)
      . rw[tstE_ok (fun h=>hk h.1)] at ht
        (try (conv=>whnf));repeat' (first|refine Ok.seq ?_|((first|refine Ok.region tok ?_|refine Ok.cond ?_);conv=>whnf)|refine Ok.block ?_|((first|refine Ok.skip ?_|refine Ok.exit ?_|refine nI ?_|refine ix _ (by assumption) ?_);conv=>whnf)|(refine bI ?_ ?_<;>intro<;>(conv=>whnf)<;>(try (exfalso;omega)))|fail)
        all_goals first
         | (exfalso;omega)
         | (refine⟨i+1,by omega,⟨by omega,ht⟩,?_⟩
            (conv=>whnf)
            rfl)
    . have hie:i=e.length:=by omega
      subst hie
      rw[List.drop_length] at ht
      rw[chkD_ok (hce.trans ht) hb]
      (try (conv=>whnf));repeat' (first|refine Ok.seq ?_|((first|refine Ok.region tok ?_|refine Ok.cond ?_|refine Ok.exit ?_|refine Ok.ret ?_);conv=>whnf)|(refine bI ?_ ?_<;>intro<;>(conv=>whnf)<;>(try (exfalso;omega)))|fail)
      all_goals first
       | (exfalso;omega)
       | (refine Or.inl ?_;(conv=>whnf)
          exact⟨rfl,rfl⟩)
end Go.Proofs.YtcglkonooeddfaaGreatDoor
namespace Go.Proofs.YtcglkonooeddfaaGreatDoor
open Go Go.Vx Go.Shelf
theorem chkD_two(l:List Fd)(e:List Nd):∃ y:D,chkD l e = .tup [y,.i .i64 (chkE l e)]/\(y = .nilI\/∃ x:Tr,y=x.d):=by
 by_cases h:chkE l e=0
 . cases hb:bldO e with
   | none=>
    exfalso
    unfold chkE at h
    split at h
    . rename_i h1;exact h1 h
    split at h
    . cases h
    . rw[hb] at h;cases h
   | some x=>exact⟨x.d,by rw[chkD_ok h hb,h],.inr ⟨x,rfl⟩⟩
 . exact⟨.nilI,chkD_err rfl h,.inl rfl⟩
theorem pcheck_at(l:List Fd)(r:List (List D))(e:List Nd)(r2:List (List D))(hl:l.length<=2000000)(he:e.length<=2000000)(htx:TxtOk e) :
    FSpec Tryz.prog T 142 [.lst 127 (l.map frow) r,.lst 219 (e.map nrow) r2] (fun d _=>d = .i .i64 (chkE l e)):=by
 have hk:=echk_at l r e r2 hl he htx
 obtain⟨y,hy,hx⟩:=chkD_two l e
 rw[hy] at hk
 refine FSpec.of_ok tok Tryz.func142 rfl Tryz.call142 (by simp) ?_
 rcases hx with rfl|⟨x,rfl⟩
 . (try (conv=>whnf));repeat' (first|refine Ok.seq ?_|((first|refine Ok.region tok ?_|refine Ok.ret ?_);conv=>whnf)|(refine Or.inr (Or.inl ?_);(conv=>whnf);(repeat (refine aI ?_;conv=>whnf));refine⟨_,hk,?_⟩;rintro _ _ ⟨rfl,rfl⟩;conv=>whnf)|fail)
   refine Or.inl ?_;(conv=>whnf)
   rfl
 . (try (conv=>whnf));repeat' (first|refine Ok.seq ?_|((first|refine Ok.region tok ?_|refine Ok.ret ?_);conv=>whnf)|(refine Or.inr (Or.inl ?_);(conv=>whnf);(repeat (refine aI ?_;conv=>whnf));refine⟨_,hk,?_⟩;rintro _ _ ⟨rfl,rfl⟩;conv=>whnf)|fail)
   refine Or.inl ?_;(conv=>whnf)
   rfl
end Go.Proofs.YtcglkonooeddfaaGreatDoor
namespace Go.Proofs.YtcglkonooeddfaaGreatDoor
open Go Go.Vx
structure SI where
 s:Str
 n:Int
def SI.row(x:SI):List D:=[.s x.s,.i .i64 x.n]
structure Node where
 kind:Int
 field:Str
 op:Int
 form:Int
 lo:Int
 hi:Int
 len:Int
 pat:Str
def Node.row(x:Node):List D:=[.i .i64 x.kind,.s x.field,.i .i64 x.op,.i .i64 x.form,.i .i64 x.lo,.i .i64 x.hi,.i .i64 x.len,.s x.pat]
structure Pfx where
 value:Int
 len:Int
 dst:Str
def Pfx.row(x:Pfx):List D:=[.i .i64 x.value,.i .i64 x.len,.s x.dst]
structure Link where
 frm:Str
 dst:Str
 cost:Int
def Link.row(x:Link):List D:=[.s x.frm,.s x.dst,.i .i64 x.cost]
end Go.Proofs.YtcglkonooeddfaaGreatDoor
namespace Go.Proofs.YtcglkonooeddfaaGreatDoor
open Go Go.Vx
structure Ls(α:Type) where
 l:List α
 room:List (List D)
structure Line where
 port:Str
 permit:Prop
 mtch:Ls Node
def Line.row(x:Line):List D:=[.s x.port,.b x.permit,.lst 219 (x.mtch.l.map Node.row) x.mtch.room]
structure Rule where
 prio:Int
 frm:Ls Str
 mtch:Ls Node
 sets:Ls SI
 dst:Ls Str
def Rule.row(x:Rule):List D:=[.i .i64 x.prio,.lst 9 (x.frm.l.map srow) x.frm.room,.lst 219 (x.mtch.l.map Node.row) x.mtch.room,.lst 243 (x.sets.l.map SI.row) x.sets.room,.lst 9 (x.dst.l.map srow) x.dst.room]
structure Box where
 name:Str
 ins:Ls Str
 outs:Ls Str
 guards:Ls Line
 rules:Ls Rule
 owns:Ls Pfx
 routes:Ls Pfx
def Box.row(x:Box):List D:=[.s x.name,.lst 9 (x.ins.l.map srow) x.ins.room,.lst 9 (x.outs.l.map srow) x.outs.room,.lst 112 (x.guards.l.map Line.row) x.guards.room,.lst 115 (x.rules.l.map Rule.row) x.rules.room,.lst 246 (x.owns.l.map Pfx.row) x.owns.room,.lst 246 (x.routes.l.map Pfx.row) x.routes.room]
structure Slc where
 name:Str
 ports:Ls Str
 whr:Ls Node
def Slc.row(x:Slc):List D:=[.s x.name,.lst 9 (x.ports.l.map srow) x.ports.room,.lst 219 (x.whr.l.map Node.row) x.whr.room]
structure Config where
 title:Str
 fields:Ls SI
 routing:Str
 slim:Prop
 boxes:Ls Box
 links:Ls Link
 slices:Ls Slc
def Config.row(x:Config):List D:=[.s x.title,.lst 127 (x.fields.l.map SI.row) x.fields.room,.s x.routing,.b x.slim,.lst 87 (x.boxes.l.map Box.row) x.boxes.room,.lst 91 (x.links.l.map Link.row) x.links.room,.lst 54 (x.slices.l.map Slc.row) x.slices.room]
structure LineB where
 port:Str
 permit:Prop
 mtch:List Node
def Line.b(x:Line):LineB:=⟨x.port,x.permit,x.mtch.l⟩
structure RuleB where
 prio:Int
 frm:List Str
 mtch:List Node
 sets:List SI
 dst:List Str
def Rule.b(x:Rule):RuleB:=⟨x.prio,x.frm.l,x.mtch.l,x.sets.l,x.dst.l⟩
structure BoxB where
 name:Str
 ins:List Str
 outs:List Str
 guards:List LineB
 rules:List RuleB
 owns:List Pfx
 routes:List Pfx
def Box.b(x:Box):BoxB:=⟨x.name,x.ins.l,x.outs.l,x.guards.l.map Line.b,x.rules.l.map Rule.b,x.owns.l,x.routes.l⟩
structure SlcB where
 name:Str
 ports:List Str
 whr:List Node
def Slc.b(x:Slc):SlcB:=⟨x.name,x.ports.l,x.whr.l⟩
structure ConfigB where
 title:Str
 fields:List SI
 routing:Str
 slim:Prop
 boxes:List BoxB
 links:List Link
 slices:List SlcB
def Config.b(x:Config):ConfigB:=⟨x.title,x.fields.l,x.routing,x.slim,x.boxes.l.map Box.b,x.links.l,x.slices.l.map Slc.b⟩
end Go.Proofs.YtcglkonooeddfaaGreatDoor
namespace Go.Proofs.YtcglkonooeddfaaGreatDoor
open Go Go.Vx
structure Line.Ok(x:Line):Prop where
 mtch:x.mtch.l.length<=1048576
structure Rule.Ok(x:Rule):Prop where
 frm:x.frm.l.length<=1048576
 mtch:x.mtch.l.length<=1048576
 sets:x.sets.l.length<=1048576
 dst:x.dst.l.length<=1048576
structure Box.Ok(x:Box):Prop where
 ins:x.ins.l.length<=1048576
 outs:x.outs.l.length<=1048576
 guards:x.guards.l.length<=1048576
 rules:x.rules.l.length<=1048576
 owns:x.owns.l.length<=1048576
 routes:x.routes.l.length<=1048576
 line:∀ g ∈ x.guards.l,g.Ok
 rule:∀ r ∈ x.rules.l,r.Ok
end Go.Proofs.YtcglkonooeddfaaGreatDoor
namespace Go.Proofs.YtcglkonooeddfaaGreatDoor
open Go Go.Vx
structure Slc.Ok(x:Slc):Prop where
 ports:x.ports.l.length<=1048576
 whr:x.whr.l.length<=1048576
structure Config.Ok(c:Config):Prop where
 fields:c.fields.l.length<=1048576
 boxes:c.boxes.l.length<=1048576
 links:c.links.l.length<=1048576
 slices:c.slices.l.length<=1048576
 box:∀ b ∈ c.boxes.l,b.Ok
 slc:∀ s ∈ c.slices.l,s.Ok
end Go.Proofs.YtcglkonooeddfaaGreatDoor
namespace Go.Proofs.YtcglkonooeddfaaGreatDoor
open Go Go.Vx
def SOk(s:Str):Prop:=s.length<=1048576
end Go.Proofs.YtcglkonooeddfaaGreatDoor
