/- The walks and the plain laws that a law of networks needs, part 4 of 7. -/
import Derived.Test.YtnlingegeangmaaGreatDoorQIC
import Derived.Lib.ItoaNum
import Derived.MapKept
import Derived.Maps.RangeRun
set_option linter.unusedVariables false
set_option linter.unusedSimpArgs false
set_option linter.unusedSectionVars false
set_option maxRecDepth 100000
set_option maxHeartbeats 16000000
namespace Go.Proofs.YtnlingegeangmaaGreatDoor
open Go Go.Vx
theorem YR(c d:Str)(hc:CN c)(hd:CT d):aF Tryz.prog T 268 [.agg (cZ c),.agg (cZ d)] (fun r rows=>∃ rm,r = .lst 377 ((pV c d).map cZ) rm/\rows=[]):=by
 have hcl:=hc.1.len;have hm:=aad c d hc.1 hd;refine aF.aB tok Tryz.func268 rfl Tryz.call268 sI ?_;by_cases hs:(jP c d).isSome=true
 . have hl:d.length=c.length:=by
     obtain⟨m,hm⟩:=Option.isSome_iff_exists.1 hs;rw[IW hc.2] at hm;have:=yB hm;omega
   (try (conv=>whnf));repeat' (first|refine Ok.seq ?_|((first|refine Ok.region tok ?_|refine Ok.cond ?_);conv=>whnf)|refine Ok.block ?_|((first|refine Ok.skip ?_|refine Ok.ret ?_);conv=>whnf)|(refine Or.inr (Or.inl ?_);(conv=>whnf);(repeat (refine aI ?_;conv=>whnf));refine⟨_,hm,?_⟩;rintro _ _ ⟨rfl,rfl⟩<;>(conv=>whnf))|(refine bI ?_ ?_<;>intro<;>first|omega|conv=>whnf)|fail)
   . exact absurd hs aS
   refine Ok.ghost 7 377 rfl ?_;(conv=>whnf);have e0:cZ c=cZ (iM c d 0):=by rw[Iw]
   have hll:((List.length c:Nat):Int)=((List.length (iM c d 0):Nat):Int):=by rw[Iw]
   refine Ok.aT [2,3,21] [7,22] 1 3 (fun (i:Nat)=>[.own 0 (jV c d i).length,.i .i64 (i:Nat)]) (fun (i:Nat) (_:List (List D))=>[cZ (iM c d i),cZ d,cZ ((jP c d).getD [])]) (fun (i:Nat) (_:Vx.Rows)=>[some (377,(jV c d i).map cZ)]) (fun (i:Nat)=>i<=c.length) (fun (i:Nat)=>c.length - i) (0) (Nat.zero_le _) ?_;(conv=>whnf);refine⟨by ((conv=>whnf);first|rfl|(simp[ak,au,cells9,cZ];done)|(simp[ak,au,cells9,cZ];rw[IntKind.wrap_i64];omega)),?_⟩;rintro i hi;have hcu:=Qm hl i;have hct:=Ry hc.1 hd hl i;have hpl:=Qn c d i;have hpm:((jV c d i).map cZ).length=(jV c d i).length:=sI;(conv=>whnf);by_cases hil:i<c.length
   . obtain⟨a,ha⟩:∃ a,c[i]? = some a:=⟨_,aC hil⟩
     obtain⟨b,hb⟩:∃ b,d[i]? = some b:=⟨_,aC oA⟩;have hz:=Rx ha (show i<d.length by omega);have hac:=hc.1.cub a (aU ha);have hbc:=hd.cub b (aU hb);have hpc:=abp ha hb;have hsu:=Iu ha hb;have hsm:=fun h=>XC ha hb h
     generalize hL:iM c d i=L at *;generalize hQ:jV c d i=Q at *;have s1:=Tt (car L) (one L) i oA;have s2:=Tt (car d) (one d) i oA;have s3:=at_one (one d) i oA;rw[(gQ hz).1] at s1;rw[(gQ hb).1] at s2;rw[(gQ hb).2] at s3;obtain⟨q,r,hqr,hr,hq⟩:=yH i oA;have jq:=BA hqr hr;have jr:=Bz hqr hr oA;have hrr:((r:Nat):Int)=((r:Nat):Int)/\r<64:=⟨rfl,hr⟩;by_cases hab:a=120/\b ≠ 120
     . obtain⟨rfl,hb2⟩:=hab
       rw[if_pos ⟨rfl,hb2⟩] at hpc;have hsn:=XA hpc;rw[hQ] at hsn;rw[show ov1 120 b=b from rfl] at hsu;rcases hbc with rfl|rfl|rfl
       . rw[show (97:UInt8) - 48=49 from rfl] at hsn
         have k:=jg (f:=car L) (g:=car (L.set i 48)) hqr hr (EO hz rfl);have k':=jg (f:=car L) (g:=car (L.set i 49)) hqr hr (EO hz rfl);have o:=fun k=>EG (f:=one (L.set i 48)) (g:=one L) (k:=k) fun j _=>Qo hz _
         have o':=jg (f:=one L) (g:=one (L.set i 49)) hqr hr (one_set hz);rcases hq with rfl|rfl|rfl|rfl
         all_goals
          (try (conv=>whnf));repeat' (first|refine Ok.seq ?_|((first|refine Ok.region tok ?_|refine Ok.cond ?_);conv=>whnf)|refine Ok.block ?_|((first|refine Ok.skip ?_|refine Ok.exit ?_|refine nI ?_);conv=>whnf)|(refine Or.inr (Or.inr (Or.inr (Or.inr ?_)));(conv=>whnf);refine mV.of (bW.peek (by rfl) (pk2 (.bp _ _ ( cZ L) rfl (fun d hd=>o9 _ d (List.mem_of_mem_drop hd))) (.i _ _)) (s1 ) ?_);rintro _ _ ⟨rfl,rfl⟩;(refine And.intro (by simp[iy,grounds,D.ground]) ?_;conv=>whnf))|(refine Or.inr (Or.inr (Or.inr (Or.inr ?_)));(conv=>whnf);refine mV.of (bW.peek (by rfl) (pk2 (.bp _ _ ( cZ d) rfl (fun d hd=>o9 _ d (List.mem_of_mem_drop hd))) (.i _ _)) (s2 ) ?_);rintro _ _ ⟨rfl,rfl⟩;(refine And.intro (by simp[iy,grounds,D.ground]) ?_;conv=>whnf))|(refine bI ?_ ?_<;>intro<;>first|omega|conv=>whnf)|fail)
          all_goals first
           | contradiction
           | skip
          refine Or.inr (Or.inr (Or.inl ?_));(conv=>whnf);refine⟨_,_,Tryz.func280,rfl,Tryz.call280,?_⟩;(conv=>whnf);(try (conv=>whnf));repeat' (first|((with_reducible_and_instances (first|refine wH rfl aS ?_|refine nOr ?_));conv=>whnf)|refine Ok.seq ?_|((first|refine Ok.region tok ?_|refine Ok.aW (id:=0) tok follows [(5,12,[])] [.q 0,.q 1,.q 2,.q 3,.q 4,.q 5,.q 6,.q 7,.q 8,.q 9,.q 10,.q 11,.l 12] kR ?_|refine⟨_,(jr.symm).symm,?_⟩|refine⟨_,(jq.symm).symm,?_⟩|refine Ok.cond ?_);conv=>whnf)|(refine Or.inr (Or.inr (Or.inr (Or.inr ?_)));(conv=>whnf);refine mV.of (bW.peek (by rfl) (pk2 (.bp _ _ ( cZ d) rfl (fun d hd=>o9 _ d (List.mem_of_mem_drop hd))) (.i _ _)) (s3 ) ?_);rintro _ _ ⟨rfl,rfl⟩;(refine And.intro (by simp[iy,grounds,D.ground]) ?_;conv=>whnf))|(refine bI ?_ ?_<;>intro<;>first|omega|conv=>whnf)|((first|refine aJ ?_|refine⟨_,rfl,?_⟩);conv=>whnf)|fail)
          all_goals first
           | contradiction
           | skip
          refine Or.inr (Or.inr (Or.inl ?_));(conv=>whnf);refine⟨_,_,Tryz.func280,rfl,Tryz.call280,?_⟩;(conv=>whnf);(try (conv=>whnf));repeat' (first|((first|(with_reducible_and_instances (first|refine wH rfl aS ?_|refine nOr ?_))|refine Ok.region tok ?_|refine Ok.aW (id:=0) tok follows [(5,12,[])] [.q 0,.q 1,.q 2,.q 3,.q 4,.q 5,.q 6,.q 7,.q 8,.q 9,.q 10,.q 11,.l 12] kR ?_|refine⟨_,(jr.symm).symm,?_⟩|refine⟨_,(jq.symm).symm,?_⟩|refine nI ?_|refine bU.l (aI ?_)|refine⟨_,.inl ⟨rfl,rfl⟩,?_⟩|refine⟨_,_,rfl,rfl,?_⟩|refine aJ ?_|refine⟨_,rfl,?_⟩);conv=>whnf)|fail)
          refine⟨i+1,oA,oA,?_⟩;rw[hsu,hsn];have a0:=(k 0).trans iP;have a1:=(k 1).trans iP;have a2:=(k 2).trans iP;have a3:=(k 3).trans iP;have b0:=o 0;have b1:=o 1;have b2:=o 2;have b3:=o 3;have e0:=(k' 0).trans iP;have e1:=(k' 1).trans iP;have e2:=(k' 2).trans iP;have e3:=(k' 3).trans iP;have f0:=(o' 0).trans iP;have f1:=(o' 1).trans iP;have f2:=(o' 2).trans iP;have f3:=(o' 3).trans iP;(conv=>whnf);simp only[ak,cZ,cells9,List.length_set,List.map_append,List.map_cons,List.map_nil,List.length_append,bV,List.length_cons,List.length_nil,a0,a1,a2,a3,b0,b1,b2,b3,e0,e1,e2,e3,f0,f1,f2,f3];rfl
       . rw[show (97:UInt8) - 49=48 from rfl] at hsn
         have k:=jg (f:=car L) (g:=car (L.set i 49)) hqr hr (EO hz rfl);have k':=jg (f:=car L) (g:=car (L.set i 48)) hqr hr (EO hz rfl);have o:=jg (f:=one L) (g:=one (L.set i 49)) hqr hr (one_set hz);have o':=fun k=>EG (f:=one (L.set i 48)) (g:=one L) (k:=k) fun j _=>Qo hz _
         rcases hq with rfl|rfl|rfl|rfl
         all_goals
          (try (conv=>whnf));repeat' (first|refine Ok.seq ?_|((first|refine Ok.region tok ?_|refine Ok.cond ?_);conv=>whnf)|refine Ok.block ?_|((first|refine Ok.skip ?_|refine Ok.exit ?_|refine nI ?_);conv=>whnf)|(refine Or.inr (Or.inr (Or.inr (Or.inr ?_)));(conv=>whnf);refine mV.of (bW.peek (by rfl) (pk2 (.bp _ _ ( cZ L) rfl (fun d hd=>o9 _ d (List.mem_of_mem_drop hd))) (.i _ _)) (s1 ) ?_);rintro _ _ ⟨rfl,rfl⟩;(refine And.intro (by simp[iy,grounds,D.ground]) ?_;conv=>whnf))|(refine Or.inr (Or.inr (Or.inr (Or.inr ?_)));(conv=>whnf);refine mV.of (bW.peek (by rfl) (pk2 (.bp _ _ ( cZ d) rfl (fun d hd=>o9 _ d (List.mem_of_mem_drop hd))) (.i _ _)) (s2 ) ?_);rintro _ _ ⟨rfl,rfl⟩;(refine And.intro (by simp[iy,grounds,D.ground]) ?_;conv=>whnf))|(refine bI ?_ ?_<;>intro<;>first|omega|conv=>whnf)|fail)
          all_goals first
           | contradiction
           | skip
          refine Or.inr (Or.inr (Or.inl ?_));(conv=>whnf);refine⟨_,_,Tryz.func280,rfl,Tryz.call280,?_⟩;(conv=>whnf);(try (conv=>whnf));repeat' (first|((with_reducible_and_instances (first|refine wH rfl aS ?_|refine nOr ?_));conv=>whnf)|refine Ok.seq ?_|((first|refine Ok.region tok ?_|refine Ok.aW (id:=0) tok follows [(5,12,[])] [.q 0,.q 1,.q 2,.q 3,.q 4,.q 5,.q 6,.q 7,.q 8,.q 9,.q 10,.q 11,.l 12] kR ?_|refine⟨_,(jr.symm).symm,?_⟩|refine⟨_,(jq.symm).symm,?_⟩|refine Ok.cond ?_);conv=>whnf)|(refine Or.inr (Or.inr (Or.inr (Or.inr ?_)));(conv=>whnf);refine mV.of (bW.peek (by rfl) (pk2 (.bp _ _ ( cZ d) rfl (fun d hd=>o9 _ d (List.mem_of_mem_drop hd))) (.i _ _)) (s3 ) ?_);rintro _ _ ⟨rfl,rfl⟩;(refine And.intro (by simp[iy,grounds,D.ground]) ?_;conv=>whnf))|(refine bI ?_ ?_<;>intro<;>first|omega|conv=>whnf)|((first|refine aJ ?_|refine⟨_,rfl,?_⟩);conv=>whnf)|fail)
          all_goals first
           | contradiction
           | skip
          refine Or.inr (Or.inr (Or.inl ?_));(conv=>whnf);refine⟨_,_,Tryz.func280,rfl,Tryz.call280,?_⟩;(conv=>whnf);(try (conv=>whnf));repeat' (first|((first|(with_reducible_and_instances (first|refine wH rfl aS ?_|refine nOr ?_))|refine Ok.region tok ?_|refine Ok.aW (id:=0) tok follows [(5,12,[])] [.q 0,.q 1,.q 2,.q 3,.q 4,.q 5,.q 6,.q 7,.q 8,.q 9,.q 10,.q 11,.l 12] kR ?_|refine⟨_,(jr.symm).symm,?_⟩|refine⟨_,(jq.symm).symm,?_⟩|refine nI ?_|refine bU.l (aI ?_)|refine⟨_,.inl ⟨rfl,rfl⟩,?_⟩|refine⟨_,_,rfl,rfl,?_⟩|refine aJ ?_|refine⟨_,rfl,?_⟩);conv=>whnf)|fail)
          refine⟨i+1,oA,oA,?_⟩;rw[hsu,hsn];have a0:=(k 0).trans iP;have a1:=(k 1).trans iP;have a2:=(k 2).trans iP;have a3:=(k 3).trans iP;have b0:=(o 0).trans iP;have b1:=(o 1).trans iP;have b2:=(o 2).trans iP;have b3:=(o 3).trans iP;have e0:=(k' 0).trans iP;have e1:=(k' 1).trans iP;have e2:=(k' 2).trans iP;have e3:=(k' 3).trans iP;have f0:=o' 0;have f1:=o' 1;have f2:=o' 2;have f3:=o' 3;(conv=>whnf);simp only[ak,cZ,cells9,List.length_set,List.map_append,List.map_cons,List.map_nil,List.length_append,bV,List.length_cons,List.length_nil,a0,a1,a2,a3,b0,b1,b2,b3,e0,e1,e2,e3,f0,f1,f2,f3];rfl
       . exact absurd rfl hb2
     . rw[if_neg hab] at hpc
       have hsn:=XB hpc;rw[hQ] at hsn;have hsm:=hsm hab;have hcases:(dig a=true)\/(dig a=false/\dig b=false):=by
        rcases hac with rfl|rfl|rfl
        . left;rfl
        . left;rfl
        . right
          rcases hbc with rfl|rfl|rfl
          . exact absurd ⟨rfl,dC⟩ hab
          . exact absurd ⟨rfl,dC⟩ hab
          . exact⟨rfl,rfl⟩
       rcases hcases with hda|⟨hda,hdb⟩
       . rw[hda] at s1
         (try (conv=>whnf));repeat' (first|refine Ok.seq ?_|((first|refine Ok.region tok ?_|refine Ok.cond ?_);conv=>whnf)|refine Ok.block ?_|((first|refine Ok.skip ?_|refine Ok.exit ?_|refine nI ?_);conv=>whnf)|(refine Or.inr (Or.inr (Or.inr (Or.inr ?_)));(conv=>whnf);refine mV.of (bW.peek (by rfl) (pk2 (.bp _ _ ( cZ L) rfl (fun d hd=>o9 _ d (List.mem_of_mem_drop hd))) (.i _ _)) (s1 ) ?_);rintro _ _ ⟨rfl,rfl⟩;(refine And.intro (by simp[iy,grounds,D.ground]) ?_;conv=>whnf))|(refine Or.inr (Or.inr (Or.inr (Or.inr ?_)));(conv=>whnf);refine mV.of (bW.peek (by rfl) (pk2 (.bp _ _ ( cZ d) rfl (fun d hd=>o9 _ d (List.mem_of_mem_drop hd))) (.i _ _)) (s2 ) ?_);rintro _ _ ⟨rfl,rfl⟩;(refine And.intro (by simp[iy,grounds,D.ground]) ?_;conv=>whnf))|(refine bI ?_ ?_<;>intro<;>first|omega|conv=>whnf)|fail)
         all_goals first
          | contradiction
          | (refine⟨i+1,oA,oA,?_⟩
             rw[hsm,hsn];(conv=>whnf);rfl)
          | (rename_i h;exact absurd rfl h)
       . rw[hda] at s1
         rw[hdb] at s2;(try (conv=>whnf));repeat' (first|refine Ok.seq ?_|((first|refine Ok.region tok ?_|refine Ok.cond ?_);conv=>whnf)|refine Ok.block ?_|((first|refine Ok.skip ?_|refine Ok.exit ?_|refine nI ?_);conv=>whnf)|(refine Or.inr (Or.inr (Or.inr (Or.inr ?_)));(conv=>whnf);refine mV.of (bW.peek (by rfl) (pk2 (.bp _ _ ( cZ L) rfl (fun d hd=>o9 _ d (List.mem_of_mem_drop hd))) (.i _ _)) (s1 ) ?_);rintro _ _ ⟨rfl,rfl⟩;(refine And.intro (by simp[iy,grounds,D.ground]) ?_;conv=>whnf))|(refine Or.inr (Or.inr (Or.inr (Or.inr ?_)));(conv=>whnf);refine mV.of (bW.peek (by rfl) (pk2 (.bp _ _ ( cZ d) rfl (fun d hd=>o9 _ d (List.mem_of_mem_drop hd))) (.i _ _)) (s2 ) ?_);rintro _ _ ⟨rfl,rfl⟩;(refine And.intro (by simp[iy,grounds,D.ground]) ?_;conv=>whnf))|(refine bI ?_ ?_<;>intro<;>first|omega|conv=>whnf)|fail)
         all_goals first
          | contradiction
          | (refine⟨i+1,oA,oA,?_⟩
             rw[hsm,hsn];(conv=>whnf);rfl)
          | (rename_i h;exact absurd (fun q=>by cases q) h)
   . have hie:i=c.length:=oA
     subst hie;have hsp:pV c d=jV c d c.length:=if_pos hs;rw[hsp];(try (conv=>whnf));repeat' (first|refine Ok.seq ?_|((first|refine Ok.region tok ?_|refine Ok.cond ?_|refine Ok.exit ?_|refine Ok.ret ?_);conv=>whnf)|(refine bI ?_ ?_<;>intro<;>first|omega|conv=>whnf)|fail)
     refine Or.inl ?_;(conv=>whnf);refine⟨[],?_,rfl⟩;rw[au sI,List.drop_of_length_le sI];rfl
 . have hn:pV c d=[c]:=by unfold pV;rw[if_neg hs]
   rw[hn];(try (conv=>whnf));repeat' (first|refine Ok.seq ?_|((first|refine Ok.region tok ?_|refine Ok.cond ?_);conv=>whnf)|refine Ok.block ?_|((first|refine Ok.skip ?_|refine Ok.ret ?_);conv=>whnf)|(refine Or.inr (Or.inl ?_);(conv=>whnf);(repeat (refine aI ?_;conv=>whnf));refine⟨_,hm,?_⟩;rintro _ _ ⟨rfl,rfl⟩<;>(conv=>whnf))|(refine bI ?_ ?_<;>intro<;>first|omega|conv=>whnf)|fail)
   . refine Or.inl ?_;(conv=>whnf)
     exact⟨_,rfl,rfl⟩
   . rename_i h
     exact absurd (Classical.not_not.1 h) hs
end Go.Proofs.YtnlingegeangmaaGreatDoor
namespace Go.Proofs.YtnlingegeangmaaGreatDoor
open Go Go.Vx Go.Shelf
theorem Rz(n:Nat)(i:Nat):car (xsT n) i=false/\one (xsT n) i=false:=by
 by_cases h:i<n
 . have e:(xsT n)[i]? = some 120:=by simp[xsT,List.getElem?_replicate,h]
   rw[(gQ e).1,(gQ e).2];exact⟨rfl,rfl⟩
 . exact at_out (by simp[xsT];omega)
theorem Tv{f:Nat->Bool}(h:∀ i,f i=false)(k:Nat):wof f k=0#64:=BitVec.eq_of_getLsbD_eq fun i hi=>by rw[iH _ _ _ hi,h];simp
theorem aar(n:Nat):cZ (xsT n)=[.i .i64 n,.i .u64 0,.i .u64 0,.i .u64 0,.i .u64 0,.i .u64 0,.i .u64 0,.i .u64 0,.i .u64 0]:=by
 have h1:=Tv (fun i=>(Rz n i).1);have h2:=Tv (fun i=>(Rz n i).2);simp only[cZ,cells9,h1,h2,qV];rfl
theorem ab1{n:Nat}(h:n<=256):CT (xsT n):=⟨by simp[xsT];omega,fun b hb=>by rw[(List.mem_replicate.1 hb).2];simp⟩
theorem J7{n:Nat}(h:n<=256)(h0:1<=n):CN (xsT n):=⟨ab1 h,fun e=>by have:=congrArg List.length e;rw[qV] at this;simp at this;omega⟩
theorem aas(n:Nat)(h:n<=256)(h0:1<=n):aF Tryz.prog T 267 [.i .i64 (n:Nat)] (fun d rows=>d = .agg (cZ (xsT n))/\rows=[]):=by
 refine aF.aB tok Tryz.func267 rfl Tryz.call267 sI ?_;rw[aar];(try (conv=>whnf));repeat' (first|refine Ok.seq ?_|((first|refine Ok.region tok ?_|refine Ok.cond ?_|refine Ok.skip ?_|refine Ok.ret ?_);conv=>whnf)|(refine bI ?_ ?_<;>intro<;>first|omega|conv=>whnf)|fail)
 all_goals first
  | omega
  | (refine Or.inl ?_;(conv=>whnf)
     exact⟨rfl,rfl⟩)
end Go.Proofs.YtnlingegeangmaaGreatDoor
namespace Go.Proofs.YtnlingegeangmaaGreatDoor
open Go Go.Vx Go.Shelf
def oL(t:Tst)(b:Nat):Str:=if t.form=4 then t.pat else if t.form=2 then lS t.lo.toNat b t.len.toNat else lS t.lo.toNat b b
theorem abq(f:Str)(op form hi:Int)(vl vn:Nat)(pat:Str)(b:Nat)(hb:b<=32)(hvl:vl<9223372036854775808)(hvn:vn<=b):aF Tryz.prog T 265 [.agg (tcl f op form vl hi vn pat),.i .i64 (b:Nat)] (fun d _=>d = .s (oL ⟨f,op,form,vl,hi,vn,pat⟩ b)):=by
 have hp1:=prefix_at vl b vn hvl oA hvn vl b vn rfl rfl rfl;have hp2:=prefix_at vl b b hvl oA (Nat.le_refl _) vl b b rfl rfl rfl;refine aF.aB tok Tryz.func265 rfl Tryz.call265 sI ?_;unfold oL;dsimp only;(try (conv=>whnf));repeat' (first|refine Ok.seq ?_|((first|refine Ok.region tok ?_|refine Ok.cond ?_);conv=>whnf)|refine Ok.block ?_|((first|refine Ok.skip ?_|refine Ok.ret ?_);conv=>whnf)|(refine Or.inl ?_;(conv=>whnf);(repeat (refine aI ?_;conv=>whnf));refine⟨_,hp1,rfl,?_⟩;conv=>whnf)|(refine Or.inl ?_;(conv=>whnf);(repeat (refine aI ?_;conv=>whnf));refine⟨_,hp2,rfl,?_⟩;conv=>whnf)|(refine bI ?_ ?_<;>intro<;>first|omega|conv=>whnf)|fail)
 all_goals first
  | omega
  | (refine Or.inl ?_;(conv=>whnf)
     first
      | (rw[if_pos oA];rfl)
      | (rw[if_neg oA,if_pos oA];rfl)
      | (rw[if_neg oA,if_neg oA];rfl))
theorem RD{t:Tst}{b:Nat}(h1:t.form=4->t.pat.length=b)(h2:t.len.toNat<=b):(oL t b).length=b:=by
 unfold oL;split
 . rename_i h;exact h1 h
 split
 . exact IY h2
 . exact IY (Nat.le_refl _)
theorem RF(v b n:Nat):mM (lS v b n):=by
 intro x hx;unfold lS at hx;rcases bQ.1 hx with h|h
 . unfold lQ at h
   obtain⟨i,_,rfl⟩:=List.mem_map.1 h;unfold xG;split<;>simp
 . rw[(List.mem_replicate.1 h).2];simp
theorem RG{t:Tst}{b:Nat}(h1:t.form=4->mM t.pat):mM (oL t b):=by
 unfold oL;split
 . rename_i h;exact h1 h
 split
 . exact RF _ _ _
 . exact RF _ _ _
end Go.Proofs.YtnlingegeangmaaGreatDoor
namespace Go.Proofs.YtnlingegeangmaaGreatDoor
open Go Go.Vx Go.Shelf
def xI(t:Tst)(b:Nat):List Str:=
 if t.form=3 then (if t.op=1 then eu b (t.hi.toNat+1) t.lo.toNat else eu b t.lo.toNat 0++eu b (tw b) (t.hi.toNat+1))
 else if t.op=1 then [oL t b] else pV (xsT b) (oL t b)
def qy(t:Tst)(b:Nat):List Str:=
 if t.op<=2 then xI t b else if t.op=3 then eu b t.lo.toNat 0 else if t.op=4 then eu b (t.lo.toNat+1) 0
 else if t.op=5 then eu b (tw b) (t.lo.toNat+1) else eu b (tw b) t.lo.toNat
theorem XD(f:Str)(op form:Int)(vl vh vn:Nat)(pat:Str)(b:Nat)(h0:1<=b)(hb:b<=32)(hvl:vl<tw b)(hvh:vh<tw b)(hvn:vn<=b)(hpl:form=4->pat.length=b)(hpc:form=4->mM pat) :
    aF Tryz.prog T 242 [.agg (tcl f op form vl vh vn pat),.i .i64 (b:Nat)] (fun d rows=>d = .own 0 (xI ⟨f,op,form,vl,vh,vn,pat⟩ b).length/\rows=[some (9,(xI ⟨f,op,form,vl,vh,vn,pat⟩ b).map aG)]):=by
 have htb:=rZ (show b<=62 by omega);have htop:=yO b oA;refine aF.aB tok Tryz.func242 rfl Tryz.call242 sI ?_;unfold xI;dsimp only;simp only[Int.toNat_natCast];by_cases h3:form=3
 . rw[if_pos h3]
   by_cases h1:op=1
   . rw[if_pos h1]
     have hc:=vK b vl (vh+1) hb oA oA b vl vh rfl rfl oA;generalize eu b (vh+1) vl=C at *;have hlm:(C.map aG).length=C.length:=sI;(try (conv=>whnf));repeat' (first|refine Ok.seq ?_|((first|refine Ok.region tok ?_|refine Ok.cond ?_|refine Ok.ret ?_);conv=>whnf)|(refine Or.inr (Or.inl ?_);(conv=>whnf);(repeat (refine aI ?_;conv=>whnf));refine⟨_,hc,?_⟩;rintro _ _ ⟨rfl,rfl⟩;conv=>whnf)|(refine bI ?_ ?_<;>intro<;>first|omega|conv=>whnf)|fail)
     all_goals first
      | omega
      | (refine Or.inr (Or.inl ?_);(conv=>whnf)
         exact⟨rfl,rfl⟩)
   . rw[if_neg h1]
     have hc1:=vK b 0 vl hb oA oA b 0 ((vl:Int) - 1) rfl rfl rfl;have hc2:=vK b (vh+1) (tw b) hb oA oA b ((vh:Int)+1) ((tw b:Int) - 1) rfl rfl rfl;have hl1:=Dv (bits:=b) (lo:=0) (H:=vl) (by show vl<=tw b;omega);have hl2:=Dv (bits:=b) (lo:=vh+1) (H:=tw b) (Nat.le_refl _);generalize eu b vl 0=A at *;generalize eu b (tw b) (vh+1)=B at *;have hlA:(A.map aG).length=A.length:=sI;have hlB:(B.map aG).length=B.length:=sI;(try (conv=>whnf));repeat' (first|(refine⟨B.map aG,.inl ⟨hlB.symm,rfl⟩,?_⟩;conv=>whnf)|refine Ok.seq ?_|((first|refine Ok.region tok ?_|refine Ok.aW (id:=4) tok follows [(2,4,[3]),(2,10,[4,3]),(4,10,[]),(2,11,[10,4,3]),(7,11,[8]),(4,11,[10]),(10,11,[]),(2,12,[4,3]),(7,12,[11,8]),(4,12,[]),(10,12,[11]),(11,12,[])] [.q 0,.q 1,.q 2,.q 3,.q 5,.q 6,.q 7,.q 8,.q 9,.l 4,.l 10,.l 11,.l 12,.q 13] kR ?_|refine Ok.cond ?_|refine Ok.skip ?_|refine Ok.ret ?_|refine nI ?_);conv=>whnf)|(refine Or.inl ?_;(conv=>whnf);(repeat (refine aI ?_;conv=>whnf));refine⟨_,htop,rfl,?_⟩;conv=>whnf)|(refine Or.inr (Or.inl ?_);(conv=>whnf);(repeat (refine aI ?_;conv=>whnf));refine⟨_,hc1,?_⟩;rintro _ _ ⟨rfl,rfl⟩;conv=>whnf)|(refine Or.inr (Or.inl ?_);(conv=>whnf);(repeat (refine aI ?_;conv=>whnf));refine⟨_,hc2,?_⟩;rintro _ _ ⟨rfl,rfl⟩;conv=>whnf)|((first|refine bU.l (aI ?_)|refine⟨_,_,rfl,rfl,?_⟩);conv=>whnf)|(refine bI ?_ ?_<;>intro<;>first|omega|conv=>whnf)|(refine aJ ?_;conv=>whnf)|fail)
     all_goals first
      | omega
      | (refine Or.inr (Or.inl ?_);(conv=>whnf)
         exact⟨by simp;rfl,sI⟩)
 . rw[if_neg h3]
   have ho:=abq f op form vh vl vn pat b hb oA hvn;have hcl:(oL ⟨f,op,form,vl,vh,vn,pat⟩ b).length=b:=RD hpl sO;have hcc:mM (oL ⟨f,op,form,vl,vh,vn,pat⟩ b):=RG hpc;generalize oL ⟨f,op,form,vl,vh,vn,pat⟩ b=c at *;have hct:CT c:=⟨oA,hcc⟩;by_cases h1:op=1
   . rw[if_pos h1]
     (try (conv=>whnf));repeat' (first|refine Ok.seq ?_|((first|refine Ok.region tok ?_|refine Ok.cond ?_|refine Ok.skip ?_|refine Ok.ret ?_);conv=>whnf)|(refine Or.inl ?_;(conv=>whnf);(repeat (refine aI ?_;conv=>whnf));refine⟨_,ho,rfl,?_⟩;conv=>whnf)|(refine bI ?_ ?_<;>intro<;>first|omega|conv=>whnf)|fail)
     all_goals first
      | omega
      | (refine Or.inr (Or.inl ?_);(conv=>whnf)
         exact⟨rfl,rfl⟩)
   . rw[if_neg h1]
     have hne:c ≠ []:=fun e=>by rw[e] at hcl;simp at hcl;omega
     have hpz:xE c=0:=by unfold xE;rw[if_neg oA,if_pos ⟨hct,hne⟩]
     have hpa:=YI c;rw[Tc ⟨hct,hne⟩,hpz] at hpa;have hsp:=YR (xsT b) c (J7 oA h0) hct;have hPc:=O1 (J7 (show b<=256 by omega) h0) hct;have hPl:=NZ (c:=xsT b) (d:=c) (by rw[qV];omega);generalize pV (xsT b) c=P at *;have hlP:(P.map cZ).length=P.length:=sI;(try (conv=>whnf));repeat' (first|refine Ok.seq ?_|((first|refine Ok.region tok ?_|refine Ok.aW (id:=10) tok follows [(2,3,[]),(1,3,[])] [.q 0,.q 2,.q 5,.l 1,.l 3,.q 4] kR ?_|refine Ok.cond ?_);conv=>whnf)|refine Ok.block ?_|(refine Ok.skip ?_;conv=>whnf)|(refine Or.inl ?_;(conv=>whnf);(repeat (refine aI ?_;conv=>whnf));refine⟨_,ho,rfl,?_⟩;conv=>whnf)|(refine Or.inr (Or.inl ?_);(conv=>whnf);(repeat (refine aI ?_;conv=>whnf));refine⟨_,hpa,?_⟩;rintro _ _ ⟨rfl,rfl⟩;conv=>whnf)|(refine Or.inr (Or.inl ?_);(conv=>whnf);(repeat (refine aI ?_;conv=>whnf));refine⟨_,aas b oA h0,?_⟩;rintro _ _ ⟨rfl,rfl⟩;conv=>whnf)|(refine Or.inr (Or.inl ?_);(conv=>whnf);(repeat (refine aI ?_;conv=>whnf));refine⟨_,hsp , ?_⟩;rintro _ _ ⟨rm,rfl,rfl⟩<;>(conv=>whnf))|(refine bI ?_ ?_<;>intro<;>first|omega|conv=>whnf)|fail)
     all_goals first
      | omega
      | skip
     refine Ok.ghost 8 9 rfl ?_;(conv=>whnf);refine Ok.aT [52,53] [8,54] 1 2 (fun (i:Nat)=>[.own 0 i,.i .i64 (i:Nat)]) (fun _ b=>b) (fun (i:Nat) (_:Vx.Rows)=>[some (9,(P.take i).map aG)]) (fun (i:Nat)=>i<=P.length) (fun (i:Nat)=>P.length - i) (0) (Nat.zero_le _) ?_;(conv=>whnf);refine⟨by ((conv=>whnf);first|rfl|(simp[ak,au,eY,bJ,bT,aG,ny,cZ];done)|(simp[ak,au,eY,bJ,bT,aG,ny,cZ];rw[IntKind.wrap_i64];omega)),?_⟩;intro i hi;have hti:((P.take i).map aG).length=i:=by simp;omega
     (conv=>whnf);by_cases hil:i<P.length
     . obtain⟨x,hx⟩:∃ x,P[i]? = some x:=⟨_,aC hil⟩
       have hxI:P[((i:Nat):Int).toNat]? = some x:=hx;have hxt:=aaf x (hPc x (aU hx)).1.1;have hsn:(P.take (i+1)).map aG=(P.take i).map aG++[aG x]:=by rw[take_snoc hx,List.map_append];rfl
       repeat' (first|refine Ok.seq ?_|((first|refine Ok.region tok ?_|refine Ok.cond ?_);conv=>whnf)|refine Ok.block ?_|((first|refine Ok.skip ?_|refine nI ?_|refine ix _ aS ?_);conv=>whnf)|(refine Or.inl ?_;(conv=>whnf);(repeat (refine aI ?_;conv=>whnf));refine⟨_,hxt,rfl,?_⟩;conv=>whnf)|((first|refine bU.l (aI ?_)|refine⟨_,.inl ⟨rfl,rfl⟩,?_⟩|refine⟨_,_,rfl,rfl,?_⟩);conv=>whnf)|(refine bI ?_ ?_<;>intro<;>first|omega|conv=>whnf)|(refine aJ ?_;conv=>whnf)|fail)
       all_goals first
        | omega
        | skip
       refine⟨i+1,oA,oA,?_⟩;rw[hsn];(conv=>whnf);simp[ak];omega
     . have hie:i=P.length:=oA
       subst hie;rw[List.take_length];(try (conv=>whnf));repeat' (first|refine Ok.seq ?_|((first|refine Ok.region tok ?_|refine Ok.cond ?_|refine Ok.exit ?_|refine Ok.ret ?_);conv=>whnf)|(refine bI ?_ ?_<;>intro<;>first|omega|conv=>whnf)|fail)
       all_goals first
        | omega
        | (refine Or.inr (Or.inl ?_);(conv=>whnf)
           exact⟨rfl,rfl⟩)
theorem XE(f:Str)(op form:Int)(vl vh vn:Nat)(pat:Str)(b:Nat)(h0:1<=b)(hb:b<=32)(ho:1<=op/\op<=6)(hvl:vl<tw b)(hvh:vh<tw b)(hvn:vn<=b)(hpl:form=4->pat.length=b)(hpc:form=4->mM pat) :
    aF Tryz.prog T 218 [.agg (tcl f op form vl vh vn pat),.i .i64 (b:Nat)] (fun d rows=>d = .own 0 (qy ⟨f,op,form,vl,vh,vn,pat⟩ b).length/\rows=[some (9,(qy ⟨f,op,form,vl,vh,vn,pat⟩ b).map aG)]):=by
 have htb:=rZ (show b<=62 by omega);have htop:=yO b oA;refine aF.aB tok Tryz.func218 rfl Tryz.call218 sI ?_;unfold qy;dsimp only;simp only[Int.toNat_natCast];by_cases h2:op<=2
 . rw[if_pos h2]
   have he:=XD f op form vl vh vn pat b h0 hb hvl hvh hvn hpl hpc;generalize xI ⟨f,op,form,vl,vh,vn,pat⟩ b=C at *;have hlm:(C.map aG).length=C.length:=sI;(try (conv=>whnf));repeat' (first|refine Ok.seq ?_|((first|refine Ok.region tok ?_|refine Ok.bH tok follows kR ?_|refine Ok.cond ?_);conv=>whnf)|refine Ok.block ?_|((first|refine Ok.skip ?_|refine Ok.exit ?_|refine Ok.ret ?_);conv=>whnf)|(refine Or.inr (Or.inl ?_);(conv=>whnf);(repeat (refine aI ?_;conv=>whnf));refine⟨_,he,?_⟩;rintro _ _ ⟨rfl,rfl⟩;conv=>whnf)|(refine bI ?_ ?_<;>intro<;>first|omega|conv=>whnf)|fail)
   all_goals first
    | omega
    | (refine Or.inr (Or.inl ?_);(conv=>whnf)
       exact⟨rfl,rfl⟩)
 rw[if_neg h2];by_cases h3:op=3
 . rw[if_pos h3]
   have hc:=vK b 0 vl hb oA oA b 0 ((vl:Int) - 1) rfl rfl rfl;generalize eu b vl 0=C at *;have hlm:(C.map aG).length=C.length:=sI;(try (conv=>whnf));repeat' (first|refine Ok.seq ?_|((first|refine Ok.region tok ?_|refine Ok.bH tok follows kR ?_|refine Ok.cond ?_);conv=>whnf)|refine Ok.block ?_|((first|refine Ok.skip ?_|refine Ok.exit ?_|refine Ok.ret ?_|refine nI ?_);conv=>whnf)|(refine Or.inr (Or.inl ?_);(conv=>whnf);(repeat (refine aI ?_;conv=>whnf));refine⟨_,hc,?_⟩;rintro _ _ ⟨rfl,rfl⟩;conv=>whnf)|(refine bI ?_ ?_<;>intro<;>first|omega|conv=>whnf)|fail)
   all_goals first
    | omega
    | (refine Or.inr (Or.inl ?_);(conv=>whnf)
       exact⟨rfl,rfl⟩)
 rw[if_neg h3];by_cases h4:op=4
 . rw[if_pos h4]
   have hc:=vK b 0 (vl+1) hb oA oA b 0 ((vl:Int)+1 - 1) rfl rfl oA;generalize eu b (vl+1) 0=C at *;have hlm:(C.map aG).length=C.length:=sI;(try (conv=>whnf));repeat' (first|refine Ok.seq ?_|((first|refine Ok.region tok ?_|refine Ok.bH tok follows kR ?_|refine Ok.cond ?_);conv=>whnf)|refine Ok.block ?_|((first|refine Ok.skip ?_|refine Ok.exit ?_|refine Ok.ret ?_|refine nI ?_);conv=>whnf)|(refine Or.inr (Or.inl ?_);(conv=>whnf);(repeat (refine aI ?_;conv=>whnf));refine⟨_,hc,?_⟩;rintro _ _ ⟨rfl,rfl⟩;conv=>whnf)|(refine bI ?_ ?_<;>intro<;>first|omega|conv=>whnf)|fail)
   all_goals first
    | omega
    | (refine Or.inr (Or.inl ?_);(conv=>whnf)
       exact⟨rfl,rfl⟩)
 rw[if_neg h4];by_cases h5:op=5
 . rw[if_pos h5]
   have hc:=vK b (vl+1) (tw b) hb oA oA b ((vl:Int)+1) ((tw b:Int) - 1) rfl rfl rfl;generalize eu b (tw b) (vl+1)=C at *;have hlm:(C.map aG).length=C.length:=sI;(try (conv=>whnf));repeat' (first|refine Ok.seq ?_|((first|refine Ok.region tok ?_|refine Ok.bH tok follows kR ?_|refine Ok.cond ?_);conv=>whnf)|refine Ok.block ?_|((first|refine Ok.skip ?_|refine Ok.exit ?_|refine Ok.ret ?_|refine nI ?_);conv=>whnf)|(refine Or.inl ?_;(conv=>whnf);(repeat (refine aI ?_;conv=>whnf));refine⟨_,htop,rfl,?_⟩;conv=>whnf)|(refine Or.inr (Or.inl ?_);(conv=>whnf);(repeat (refine aI ?_;conv=>whnf));refine⟨_,hc,?_⟩;rintro _ _ ⟨rfl,rfl⟩;conv=>whnf)|(refine bI ?_ ?_<;>intro<;>first|omega|conv=>whnf)|fail)
   all_goals first
    | omega
    | (refine Or.inr (Or.inl ?_);(conv=>whnf)
       exact⟨rfl,rfl⟩)
 rw[if_neg h5];have hc:=vK b vl (tw b) hb oA oA b ((vl:Int) - 1+1) ((tw b:Int) - 1) rfl oA rfl;generalize eu b (tw b) vl=C at *;have hlm:(C.map aG).length=C.length:=sI;(try (conv=>whnf));repeat' (first|refine Ok.seq ?_|((first|refine Ok.region tok ?_|refine Ok.bH tok follows kR ?_|refine Ok.cond ?_);conv=>whnf)|refine Ok.block ?_|((first|refine Ok.skip ?_|refine Ok.exit ?_|refine Ok.ret ?_|refine nI ?_);conv=>whnf)|(refine Or.inl ?_;(conv=>whnf);(repeat (refine aI ?_;conv=>whnf));refine⟨_,htop,rfl,?_⟩;conv=>whnf)|(refine Or.inr (Or.inl ?_);(conv=>whnf);(repeat (refine aI ?_;conv=>whnf));refine⟨_,hc,?_⟩;rintro _ _ ⟨rfl,rfl⟩;conv=>whnf)|(refine bI ?_ ?_<;>intro<;>first|omega|conv=>whnf)|fail)
 all_goals first
  | omega
  | (refine Or.inr (Or.inl ?_);(conv=>whnf)
     exact⟨rfl,rfl⟩)
end Go.Proofs.YtnlingegeangmaaGreatDoor
namespace Go.Proofs.YtnlingegeangmaaGreatDoor
open Go Go.Vx Go.Shelf
theorem Nj{all:List Fd}:∀ (r:List Fd) (i:Nat) (sum:Int),(kD all r i sum).1=0->∀ f ∈ r,1<=f.bits/\f.bits<=32
 | [],_,_,_=>by simp
 | f :: r,i,sum,h=>by
  by_cases hb:uT (all.take i) f sum
  . rw[Dc hb] at h;cases h
  . rw[Du hb] at h
    intro g hg;rcases List.mem_cons.1 hg with rfl|hg
    . refine⟨Classical.byContradiction fun e=>hb ?_,Classical.byContradiction fun e=>hb ?_⟩
      . exact .inr (.inr (.inr (.inr (.inl oA))))
      . exact .inr (.inr (.inr (.inr (.inr (.inl oA)))))
    . exact Nj r _ _ h g hg
theorem vV{l:List Fd}(h:(dh l).1=0):xH l/\l.length<=12:=by
 by_cases h1:12<l.length
 . rw[Ip h1] at h;cases h
 by_cases h2:l.length=0
 . rw[IX h2] at h;cases h
 rw[Jt h1 h2] at h;exact⟨Nj _ _ _ h,oA⟩
theorem XF{t:Tst}{b:Nat}(h:jH t b=0):pU t/\nO t b/\(t.form=4->y9 t.pat b):=by
 by_cases h1:pU t
 . by_cases h2:nO t b
   . refine⟨h1,h2,fun h4=>Classical.byContradiction fun hd=>?_⟩
     by_cases h3:t.form=2/\t.lo.toNat % tw (b - t.len.toNat) ≠ 0
     . rw[Qi h1 h2 h3] at h;cases h
     . by_cases h5:t.form=3/\t.hi<t.lo
       . rw[Qj h1 h2 h3 h5] at h;cases h
       . rw[Qk h1 h2 h3 h5 ⟨h4,hd⟩] at h;cases h
   . rw[Qh h1 h2] at h;cases h
 . rw[OW h1] at h;cases h
theorem N7{bits H:Nat}:∀ (k lo:Nat),∀ s ∈ pR bits H k lo,s.length=bits
 | 0,lo=>by simp[pR]
 | k+1,lo=>by
  unfold pR;split
  . intro s hs
    rcases List.mem_cons.1 hs with rfl|hs
    . exact IY (Nat.sub_le _ _)
    . exact N7 k _ s hs
  . simp
theorem val_one{t:Tst}{b:Nat}(h0:1<=b)(hb:b<=32)(hpl:t.form=4->y9 t.pat b)(hn:t.len.toNat<=b):∀ s ∈ qy t b,s.length=b:=by
 have hc:∀ H lo,∀ s ∈ eu b H lo,s.length=b:=fun H lo=>N7 _ _
 have hol:=RD (t:=t) (b:=b) (fun h=>(hpl h).1) hn;have hoc:=RG (t:=t) (b:=b) (fun h=>(hpl h).2);intro s hs;unfold qy xI at hs
 repeat' split at hs
 all_goals first
  | exact hc _ _ s hs
  | (rcases bQ.1 hs with h|h<;>exact hc _ _ s h)
  | (rw[List.mem_singleton.1 hs];exact hol)
  | (rw[((O1 (J7 oA h0) ⟨oA,hoc⟩) s hs).2,qV])
theorem aat{t:Tst}{b:Nat}(h0:1<=b)(hb:b<=32)(h1:t.lo.toNat<tw b)(h2:t.hi.toNat<tw b):(qy t b).length<=400:=by
 have hc:∀ H lo,H<=tw b->(eu b H lo).length<=66:=fun H lo h=>by
  have:=Dv (bits:=b) (lo:=lo) (H:=H) h;omega
 unfold qy xI
 repeat' split
 all_goals first
  | (refine Nat.le_trans (hc _ _ oA) oA)
  | (rw[List.length_append]
     have a1:=hc t.lo.toNat 0 oA;have a2:=hc (tw b) (t.hi.toNat+1) (Nat.le_refl _);omega)
  | (simp;done)
  | (refine Nat.le_trans (NZ (by rw[qV];omega)) oA)
theorem aau(l:List Fd)(k:Nat):wid l=wid (l.take k)+wid (l.drop k):=by
 unfold wid;rw[<- List.sum_append,<- List.map_append,List.take_append_drop]
theorem YS{l:List Fd}(h:xH l)(k:Nat):xH (l.take k):=fun x hx=>h x (List.mem_of_mem_take hx)
theorem YT{l:List Fd}(h:xH l)(k:Nat):xH (l.drop k):=fun x hx=>h x (List.mem_of_mem_drop hx)
open Classical in
noncomputable def jW(l:List Fd)(t:Tst):Int:=if (dh l).1 ≠ 0 then (dh l).1 else zo l t
theorem Qp{l:List Fd}{t:Tst}(h:(dh l).1 ≠ 0):jW l t=(dh l).1:=by unfold jW;rw[if_pos h]
theorem Tz{l:List Fd}{t:Tst}(h:(dh l).1=0):jW l t=zo l t:=by unfold jW;rw[if_neg (fun e=>e h)]
def ab2(l:List Fd)(k:Nat)(x:Str):Str:=xsT (wid (l.take k))++x++xsT (wid (l.drop (k+1)))
def CG(l:List Fd)(t:Tst):List Str:=match l[(cO t.f l 0).toNat]? with
 | some c=>(qy t c.bits.toNat).map (ab2 l (cO t.f l 0).toNat)
 | none=>[]
theorem XG(l:List Fd)(r:List (List D))(hl:l.length<=1000)(f:Str)(op form lo hi len:Int)(pat:Str)(hs:pat.length<=1000000000000)(he:jW l ⟨f,op,form,lo,hi,len,pat⟩ ≠ 0) :
    aF Tryz.prog T 178 [.lst 93 (l.map bJ) r,.agg (tcl f op form lo hi len pat)] (fun d rows=>d = .tup [.own 0 0,.i .i64 (jW l ⟨f,op,form,lo,hi,len,pat⟩)]/\rows=[some (9,[])]):=by
 have h1:(l.map bJ).length=l.length:=sI;have hch:=Af l r oA;have hfd:=EK l r f oA;refine aF.aB tok Tryz.func178 rfl Tryz.call178 sI ?_;by_cases hc0:(dh l).1=0
 . obtain⟨mX,_⟩:=vV hc0
   rw[Tz hc0] at he ⊢;rcases NW f l with hfi|⟨k,c,hfi,hc⟩
   . rw[OX hfi]
     rw[hfi] at hfd;(try (conv=>whnf));repeat' (first|refine Ok.seq ?_|((first|refine Ok.region tok ?_|refine Ok.cond ?_|refine Ok.skip ?_|refine Ok.ret ?_);conv=>whnf)|(refine Or.inl ?_;(conv=>whnf);(repeat (refine aI ?_;conv=>whnf));refine⟨_,hch,rfl,?_⟩;conv=>whnf)|(refine Or.inl ?_;(conv=>whnf);(repeat (refine aI ?_;conv=>whnf));refine⟨_,hfd,rfl,?_⟩;conv=>whnf)|(refine bI ?_ ?_<;>intro<;>first|omega|conv=>whnf)|fail)
     all_goals first
      | omega
      | (refine Or.inr (Or.inr ?_);(conv=>whnf)
         exact⟨rfl,rfl⟩)
   . have hcb:=mX _ (aU hc)
     have hcI:l[((k:Nat):Int).toNat]? = some c:=hc;have hft:=Tn f op form lo hi len pat c.bits.toNat oA oA hs;rw[show ((c.bits.toNat:Nat):Int)=c.bits by omega] at hft;rw[OY hfi hc] at he ⊢;rw[hfi] at hfd;generalize jH ⟨f,op,form,lo,hi,len,pat⟩ c.bits.toNat=e at *;(try (conv=>whnf));repeat' (first|refine Ok.seq ?_|((first|refine Ok.region tok ?_|refine Ok.cond ?_|refine Ok.skip ?_|refine Ok.ret ?_|refine ix _ aS ?_);conv=>whnf)|(refine Or.inl ?_;(conv=>whnf);(repeat (refine aI ?_;conv=>whnf));refine⟨_,hch,rfl,?_⟩;conv=>whnf)|(refine Or.inl ?_;(conv=>whnf);(repeat (refine aI ?_;conv=>whnf));refine⟨_,hfd,rfl,?_⟩;conv=>whnf)|(refine Or.inl ?_;(conv=>whnf);(repeat (refine aI ?_;conv=>whnf));refine⟨_,hft,rfl,?_⟩;conv=>whnf)|(refine bI ?_ ?_<;>intro<;>first|omega|conv=>whnf)|fail)
     all_goals first
      | omega
      | (refine Or.inr (Or.inr ?_);(conv=>whnf)
         exact⟨rfl,rfl⟩)
 . rw[Qp hc0]
   generalize (dh l).1=e at *;(try (conv=>whnf));repeat' (first|refine Ok.seq ?_|((first|refine Ok.region tok ?_|refine Ok.cond ?_|refine Ok.ret ?_);conv=>whnf)|(refine Or.inl ?_;(conv=>whnf);(repeat (refine aI ?_;conv=>whnf));refine⟨_,hch,rfl,?_⟩;conv=>whnf)|(refine bI ?_ ?_<;>intro<;>first|omega|conv=>whnf)|fail)
   all_goals first
    | omega
    | (refine Or.inr (Or.inr ?_);(conv=>whnf)
       exact⟨rfl,rfl⟩)
def gL(A B:Str)(C:List Str)(i:Nat):List Str:=(C.take i).map (fun x=>A++x++B)++C.drop i
theorem abr(A B:Str)(C:List Str){i:Nat}(h:i<=C.length):(gL A B C i).length=C.length:=by simp[gL];omega
theorem aav(A B:Str)(C:List Str):gL A B C 0=C:=by simp[gL]
theorem abt(A B:Str)(C:List Str):gL A B C C.length=C.map (fun x=>A++x++B):=by simp[gL]
theorem abu{A B:Str}{C:List Str}{i:Nat}{x:Str}(h:C[i]? = some x):(gL A B C i)[i]? = some x:=by
 have hi:=(aK.1 h).1;unfold gL;rw[List.getElem?_append_right sO];simp[Nat.min_eq_left (Nat.le_of_lt hi),h]
theorem abv{A B:Str}{C:List Str}{i:Nat}{x:Str}(h:C[i]? = some x):(gL A B C i).set i (A++x++B)=gL A B C (i+1):=by
 obtain⟨hi,rfl⟩:=aK.1 h;unfold gL;have h1:((C.take i).map fun x=>A++x++B).length=i:=by simp;omega
 rw[List.set_append_right _ _ oA,h1,Nat.sub_self,List.drop_eq_getElem_cons hi,take_snoc h,List.map_append,List.set_cons_zero];simp only[List.map_cons,List.map_nil,List.append_assoc,List.cons_append,List.nil_append]
theorem aaw{l:List Fd}{t:Tst}{k:Nat}{c:Fd}(hfi:cO t.f l 0=(k:Nat))(hc:l[k]? = some c):CG l t=(qy t c.bits.toNat).map (fun x=>xsT (wid (l.take k))++x++xsT (wid (l.drop (k+1)))):=by
 unfold CG;rw[hfi,Int.toNat_natCast,hc];rfl
theorem YU(l:List Fd)(r:List (List D))(hl:l.length<=1000)(f:Str)(op form lo hi len:Int)(pat:Str)(hs:pat.length<=1000000000000)(he:jW l ⟨f,op,form,lo,hi,len,pat⟩=0) :
    aF Tryz.prog T 178 [.lst 93 (l.map bJ) r,.agg (tcl f op form lo hi len pat)] (fun d rows=>d = .tup [.own 0 (CG l ⟨f,op,form,lo,hi,len,pat⟩).length,.i .i64 0]/\rows=[some (9,(CG l ⟨f,op,form,lo,hi,len,pat⟩).map aG)]):=by
 have h1:(l.map bJ).length=l.length:=sI;have hch:=Af l r oA;have hfd:=EK l r f oA;by_cases hc0:(dh l).1=0
 case neg=>exact absurd he (by rw[Qp hc0];exact hc0)
 obtain⟨mX,hl12⟩:=vV hc0;rw[Tz hc0] at he;rcases NW f l with hfi|⟨k,c,hfi,hc⟩
 . rw[OX hfi] at he;cases he
 rw[OY hfi hc] at he;rw[aaw hfi hc];have hcb:=mX _ (aU hc);have hcI:l[((k:Nat):Int).toNat]? = some c:=hc;have hkl:=(aK.1 hc).1;obtain⟨b,hb⟩:∃ b:Nat,c.bits=(b:Nat):=⟨c.bits.toNat,oA⟩;have hft:=Tn f op form lo hi len pat c.bits.toNat oA oA hs;rw[he,show ((c.bits.toNat:Nat):Int)=c.bits by omega] at hft;rw[show c.bits.toNat=b by omega] at he ⊢;rw[hfi] at hfd;obtain⟨hF,hV,hD⟩:=XF he;have hV2:=hV;unfold nO at hV2;have hA:=hF.a;dsimp only at hV2 hA hD;obtain⟨vl,rfl⟩:∃ v:Nat,lo=v:=⟨lo.toNat,oA⟩;obtain⟨vh,rfl⟩:∃ v:Nat,hi=v:=⟨hi.toNat,oA⟩;obtain⟨vn,rfl⟩:∃ v:Nat,len=v:=⟨len.toNat,oA⟩;have hva:=XE f op form vl vh vn pat b oA oA oA oA oA oA (fun h=>(hD h).1) (fun h=>(hD h).2);have hvo:=val_one (t:=⟨f,op,form,vl,vh,vn,pat⟩) (b:=b) oA oA hD sO;have hvn:=aat (t:=⟨f,op,form,vl,vh,vn,pat⟩) (b:=b) oA oA sO sO;rw[<- hb] at hva;generalize qy ⟨f,op,form,vl,vh,vn,pat⟩ b=C at *;have hlt:=YS mX k;have hld:=YT mX (k+1);have hw1:=AZ hlt;have hw2:=AZ hld;have ht1:(l.take k).length=k:=by simp;omega
 have ht2:(l.drop (k+1)).length=l.length - (k+1):=sI;have hx1:=EL (wid (l.take k)) oA;have hx2:=EL (wid (l.drop (k+1))) oA;have ada:=qV (wid (l.take k));have Gl:=qV (wid (l.drop (k+1)));have hwa:=fun r=>D9 (l.take k) r oA hlt
 have hwb:=fun r=>D9 (l.drop (k+1)) r oA hld
 have hm1:(l.take k).map bJ=((l.map bJ++r).take k).drop 0:=by rw[List.drop_zero,List.take_append_of_le_length oA,List.map_take]
 have hm2:(l.drop (k+1)).map bJ=((l.map bJ++r).take (l.map bJ).length).drop (k+1):=by rw[List.take_append_of_le_length (Nat.le_refl _),List.take_length,List.map_drop]
 generalize xsT (wid (l.take k))=X at *;generalize xsT (wid (l.drop (k+1)))=Y at *;have hlC:(C.map aG).length=C.length:=sI;refine aF.aB tok Tryz.func178 rfl Tryz.call178 sI ?_;(try (conv=>whnf));repeat' (first|((first|refine⟨k+1,(l.map bJ).length,rfl,rfl,oA,oA,(l.drop (k+1)).map bJ,_,hm2,rfl,?_⟩|refine⟨(l.take k).map bJ,_,hm1,rfl,?_⟩);conv=>whnf)|refine Ok.seq ?_|((first|refine Ok.region tok ?_|refine Ok.cond ?_);conv=>whnf)|refine Ok.block ?_|((first|refine Ok.skip ?_|refine nI ?_|refine ix _ aS ?_);conv=>whnf)|(refine Or.inl ?_;(conv=>whnf);(repeat (refine aI ?_;conv=>whnf));refine⟨_,hch,rfl,?_⟩;conv=>whnf)|(refine Or.inl ?_;(conv=>whnf);(repeat (refine aI ?_;conv=>whnf));refine⟨_,hfd,rfl,?_⟩;conv=>whnf)|(refine Or.inl ?_;(conv=>whnf);(repeat (refine aI ?_;conv=>whnf));refine⟨_,hft,rfl,?_⟩;conv=>whnf)|(refine Or.inl ?_;(conv=>whnf);(repeat (refine aI ?_;conv=>whnf));refine⟨_,hwa _,rfl,?_⟩;conv=>whnf)|(refine Or.inl ?_;(conv=>whnf);(repeat (refine aI ?_;conv=>whnf));refine⟨_,hwb _,rfl,?_⟩;conv=>whnf)|(refine Or.inl ?_;(conv=>whnf);(repeat (refine aI ?_;conv=>whnf));refine⟨_,hx1,rfl,?_⟩;conv=>whnf)|(refine Or.inl ?_;(conv=>whnf);(repeat (refine aI ?_;conv=>whnf));refine⟨_,hx2,rfl,?_⟩;conv=>whnf)|(refine Or.inr (Or.inl ?_);(conv=>whnf);(repeat (refine aI ?_;conv=>whnf));refine⟨_,hva,?_⟩;rintro _ _ ⟨rfl,rfl⟩;conv=>whnf)|(refine⟨_,_,rfl,rfl,?_⟩;conv=>whnf)|(refine bI ?_ ?_<;>intro<;>first|omega|conv=>whnf)|(refine aJ ?_;conv=>whnf)|fail)
 all_goals first
  | omega
  | skip
 rw[show C.map aG=(gL X Y C 0).map aG by rw[aav]];refine Ok.aT [11,12,13,55] [56] 1 1 (fun (i:Nat)=>[.i .i64 (i:Nat)]) (fun _ b=>b) (fun (i:Nat) (_:Vx.Rows)=>[some (9,(gL X Y C i).map aG)]) (fun (i:Nat)=>i<=C.length) (fun (i:Nat)=>C.length - i) (0) (Nat.zero_le _) ?_;(conv=>whnf);refine⟨by ((conv=>whnf);first|rfl|(simp[ak,au,eY,bJ,bT,aG,ny,cZ];done)|(simp[ak,au,eY,bJ,bT,aG,ny,cZ];rw[IntKind.wrap_i64];omega)),?_⟩;intro i hi;have hgl:=abr X Y C hi;have hgm:((gL X Y C i).map aG).length=C.length:=by rw[bV,hgl]
 (conv=>whnf);by_cases hil:i<C.length
 . obtain⟨x,hx⟩:∃ x,C[i]? = some x:=⟨_,aC hil⟩
   have hg:=abu (A:=X) (B:=Y) hx;have hgs:=abv (A:=X) (B:=Y) hx;have hxl:=hvo x (aU hx);have hgI:(gL X Y C i)[((i:Nat):Int).toNat]? = some x:=hg;have hap:(X++x:Str).length=X.length+x.length:=List.length_append
   repeat' (first|((first|refine rd rfl hgI ?_|refine st (X++x++Y) hgI sI rfl ?_);conv=>whnf)|refine Ok.seq ?_|((first|refine Ok.region tok ?_|refine Ok.cond ?_);conv=>whnf)|refine Ok.block ?_|((first|refine Ok.skip ?_|refine nI ?_);conv=>whnf)|(refine bI ?_ ?_<;>intro<;>first|omega|conv=>whnf)|(refine aJ ?_;conv=>whnf)|fail)
   all_goals first
    | omega
    | skip
   refine⟨i+1,oA,oA,?_⟩;rw[<- hgs];(conv=>whnf);rfl
 . have hie:i=C.length:=oA
   subst hie;rw[abt];(try (conv=>whnf));repeat' (first|refine Ok.seq ?_|((first|refine Ok.region tok ?_|refine Ok.cond ?_|refine Ok.exit ?_|refine Ok.ret ?_);conv=>whnf)|(refine bI ?_ ?_<;>intro<;>first|omega|conv=>whnf)|fail)
   all_goals first
    | omega
    | (refine Or.inr (Or.inl ?_);(conv=>whnf)
       exact⟨by simp;rfl,rfl⟩)
end Go.Proofs.YtnlingegeangmaaGreatDoor
namespace Go.Vx
open Go.RowKit Go.Instr
def RH(T:Tab)(t:TypeId):Bool:=match T t with|some ⟨_,_,.struct _,_⟩=>true|_=>false
def TY(P:Program)(t:TypeId)(m:String)(f:FuncId):Bool:=match P.info? t with
 | some i=>(match i.methods.find? (fun x=>x.name == m) with
  | some mm=>mm.path.isEmpty && (match mm.func with|some (g,false)=>Nat.beq g f|_=>false)
  | none=>false)
 | none=>false
theorem lu.of{P:Program}{T:Tab}(hT:TOk P T){t:TypeId}{f:FuncId}{m:String}(hs:RH T t=true)(hm:TY P t m f=true)(hc:∀ args w,(callFunc f args).run P w = .ok (.enter f args) w):lu P m t f:=by
 unfold RH at hs;split at hs
 case h_2=>cases hs
 rename_i fs z hti;obtain⟨fa,hu,-⟩:=(hT _ _ hti).kind;unfold TY at hm;split at hm
 case h_2=>cases hm
 rename_i i hi;split at hm
 case h_2=>cases hm
 rename_i mm hfind;simp only[Bool.and_eq_true] at hm;obtain⟨hp,hm⟩:=hm;split at hm
 case h_2=>cases hm
 rename_i g hg;have hgf:g=f:=Nat.eq_of_beq_eq_true hm;subst hgf;have ab3:mm.path=#[]:=by simpa using hp
 refine⟨fun x args w=>?_⟩;have hr:∀ w,(method (P.types.size+Made.depth) t x m).run P w = .ok (g,x) w:=by
  intro w;obtain⟨n,hn⟩:∃ n,P.types.size+Made.depth=n+1:=⟨P.types.size+99,rfl⟩;rw[hn];simp[method,typeInfo,hi,hfind,ab3,hg,follow,receiverAt,dF hu,Place.get]
 have hprog:(program:Sem Program).run P w = .ok P w:=sI;simp only[callMethod,Sem.run_bind,hprog,Result.andThen_ok,hr,hc]
end Go.Vx
namespace Go.Proofs.YtnlingegeangmaaGreatDoor
open Go Go.Vx Go.Shelf
inductive Tr where
 | leaf (p:Prop)
 | test (t:Tst)
 | neg (x:Tr)
 | and (x y:Tr)
 | or (x y:Tr)
def Tr.ty:Tr->Nat
 | .leaf _=>311|.test _=>313|.neg _=>315|.and _ _=>319|.or _ _=>320
def Tr.cs:Tr->List D
 | .leaf p=>[.b p]|.test t=>ny t|.neg x=>[.ifc x.ty (.agg x.cs)]
 | .and x y=>[.ifc x.ty (.agg x.cs),.ifc y.ty (.agg y.cs)]|.or x y=>[.ifc x.ty (.agg x.cs),.ifc y.ty (.agg y.cs)]
@[reducible] def Tr.d(x:Tr):D:=.ifc x.ty (.agg x.cs)
def Tr.isO:Tr->Bool|.or _ _=>true|_=>false
def Tr.isJ:Tr->Bool|.or _ _=>true|.and _ _=>true|_=>false
def cnt:Bool->Nat|true=>1|false=>0
def Tr.sz:Tr->Nat|.leaf _=>1|.test _=>1|.neg x=>x.sz+1|.and x y=>x.sz+y.sz+1|.or x y=>x.sz+y.sz+1
def Tr.nest:Tr->Nat
 | .leaf _=>0|.test _=>0|.neg x=>x.nest+cnt x.isJ+1
 | .and x y=>max (x.nest+cnt x.isO) (y.nest+cnt y.isJ)|.or x y=>max x.nest (y.nest+cnt y.isO)
theorem cnt_le(b:Bool):cnt b<=1:=by cases b<;>simp[cnt]
theorem EP(x:Tr):x.nest<=2*x.sz:=by
 induction x with
 | leaf _=>simp[Tr.nest]
 | test _=>simp[Tr.nest]
 | neg x ih=>have:=cnt_le x.isJ;simp only[Tr.nest,Tr.sz];omega
 | and x y h1 h2=>have:=cnt_le x.isO;have:=cnt_le y.isJ;simp only[Tr.nest,Tr.sz];omega
 | or x y h1 h2=>have:=cnt_le y.isO;simp only[Tr.nest,Tr.sz];omega
theorem bff{p:Prop}(h:¬ p):D.b False=D.b p:=by congr 1;exact propext ⟨False.elim,h⟩
theorem btt{p:Prop}(h:p):D.b True=D.b p:=by congr 1;exact propext ⟨fun _=>h,fun _=>trivial⟩
theorem O4(x:Tr):aF Tryz.prog T 324 [x.d] (fun d _=>d = .b (x.isJ=true)):=by
 refine aF.aB tok Tryz.func324 rfl Tryz.call324 sI ?_;cases x
 all_goals
  (try (conv=>whnf));repeat' (first|refine Ok.seq ?_|((first|refine Ok.region tok ?_|refine Ok.cond ?_);conv=>whnf)|refine Ok.block ?_|((first|refine Ok.skip ?_|refine Ok.ret ?_);conv=>whnf)|fail)
  refine Or.inl ?_;(conv=>whnf)
  first|exact btt rfl|exact bff (by simp[Tr.isJ])
theorem RJ(x:Tr):aF Tryz.prog T 331 [x.d] (fun d _=>d = .b (x.isO=true)):=by
 refine aF.aB tok Tryz.func331 rfl Tryz.call331 sI ?_;cases x
 all_goals
  (try (conv=>whnf));repeat' (first|refine Ok.seq ?_|((first|refine Ok.region tok ?_|refine Ok.cond ?_);conv=>whnf)|refine Ok.block ?_|((first|refine Ok.skip ?_|refine Ok.ret ?_);conv=>whnf)|fail)
  refine Or.inl ?_;(conv=>whnf)
  first|exact btt rfl|exact bff (by simp[Tr.isO])
theorem IZ(b:Bool):aF Tryz.prog T 330 [.b (b=true)] (fun d _=>d = .i .i64 (cnt b:Nat)):=by
 refine aF.aB tok Tryz.func330 rfl Tryz.call330 sI ?_;cases b
 all_goals
  (try (conv=>whnf));repeat' (first|refine Ok.seq ?_|((first|refine Ok.region tok ?_|refine Ok.cond ?_|refine Ok.skip ?_|refine Ok.ret ?_);conv=>whnf)|(refine bI ?_ ?_<;>intro<;>first|omega|conv=>whnf)|fail)
  all_goals first
   | (rename_i h;cases h;done)
   | (rename_i h;exact absurd rfl h)
   | (refine Or.inl ?_;(conv=>whnf)
      rfl)
theorem ab4:lu Tryz.prog "reach/expr.nesting" 311 313:=.of tok kR kR Tryz.call313
theorem ab5:lu Tryz.prog "reach/expr.nesting" 313 317:=.of tok kR kR Tryz.call317
theorem acz:lu Tryz.prog "reach/expr.nesting" 315 321:=.of tok kR kR Tryz.call321
theorem acA:lu Tryz.prog "reach/expr.nesting" 319 327:=.of tok kR kR Tryz.call327
theorem mOr:lu Tryz.prog "reach/expr.nesting" 320 333:=.of tok kR kR Tryz.call333
theorem ab6(cs:List D)(p:Prop)(h:cs=[.b p]):aF Tryz.prog T 313 [.agg cs] (fun d _=>d = .i .i64 0):=by
 subst h;refine aF.aB tok Tryz.func313 rfl Tryz.call313 sI ?_;(try (conv=>whnf));repeat' (first|refine Ok.seq ?_|((first|refine Ok.region tok ?_|refine Ok.ret ?_);conv=>whnf)|fail)
 refine Or.inl ?_;(conv=>whnf);rfl
theorem ab7(t:Tst):aF Tryz.prog T 317 [.agg (ny t)] (fun d _=>d = .i .i64 0):=by
 refine aF.aB tok Tryz.func317 rfl Tryz.call317 sI ?_;(try (conv=>whnf));repeat' (first|refine Ok.seq ?_|((first|refine Ok.region tok ?_|refine Ok.ret ?_);conv=>whnf)|fail)
 refine Or.inl ?_;(conv=>whnf);rfl
theorem O5(x y:Tr)(a b:Nat)(ha:a ≤ 1)(hb:b ≤ 1)(hx:x.sz ≤ 1000)(hy:y.sz ≤ 1000)(fx fy:FuncId)(mx:lu Tryz.prog "reach/expr.nesting" x.ty fx)(my:lu Tryz.prog "reach/expr.nesting" y.ty fy)
    (sx:aF Tryz.prog T fx [.agg x.cs] (fun d _=>d = .i .i64 (x.nest:Nat)))(sy:aF Tryz.prog T fy [.agg y.cs] (fun d _=>d = .i .i64 (y.nest:Nat))) :
    aF Tryz.prog T 325 [.agg [x.d,y.d],.i .i64 (a:Nat),.i .i64 (b:Nat)] (fun d _=>d = .i .i64 (max (x.nest+a) (y.nest+b):Nat)):=by
 have h1:=EP x;have h2:=EP y;refine aF.aB tok Tryz.func325 rfl Tryz.call325 sI ?_;(try (conv=>whnf));repeat' (first|refine Ok.seq ?_|((first|refine Ok.region tok ?_|refine Ok.aW (id:=1) tok follows [(1,2,[]),(1,7,[2]),(6,7,[]),(2,7,[]),(1,10,[4,2]),(6,10,[9,7]),(2,10,[4]),(7,10,[9])] [.q 0,.q 1,.q 3,.q 5,.q 6,.q 8,.l 2,.q 4,.l 7,.q 9,.l 10,.q 11] kR ?_|refine Ok.ret ?_|refine nI ?_|refine⟨_,aS,?_⟩|refine aJ ?_|refine jh ?_);conv=>whnf)|fail)
 refine Or.inl ?_;(conv=>whnf);refine congrArg (D.i .i64) ?_;split<;>omega
theorem aax(x:Tr)(hx:x.sz ≤ 1000):∃ f,lu Tryz.prog "reach/expr.nesting" x.ty f ∧ aF Tryz.prog T f [.agg x.cs] (fun d _=>d = .i .i64 (x.nest:Nat)):=by
 induction x with
 | leaf p=>exact⟨_,ab4,ab6 _ p rfl⟩
 | test t=>exact⟨_,ab5,ab7 t⟩
 | neg x ih=>
  simp only[Tr.sz] at hx;obtain⟨fx,mx,sx⟩:=ih oA;have hn:=EP x;refine⟨_,acz,?_⟩;refine aF.aB tok Tryz.func321 rfl Tryz.call321 sI ?_;have hj:=O4 x;cases hJ:x.isJ
  all_goals
   rw[hJ] at hj;(try (conv=>whnf));repeat' (first|refine Ok.seq ?_|((first|refine Ok.region tok ?_|refine Ok.cond ?_|refine Ok.skip ?_|refine Ok.ret ?_|refine nI ?_);conv=>whnf)|(refine Or.inl ?_;(conv=>whnf);(repeat (refine aI ?_;conv=>whnf));refine⟨_,hj,rfl,?_⟩;conv=>whnf)|(refine Or.inl ?_;(conv=>whnf);(repeat (refine aI ?_;conv=>whnf));refine⟨_,mx,_,sx,rfl,?_⟩;conv=>whnf)|(refine bI ?_ ?_<;>intro<;>first|omega|conv=>whnf)|fail)
   all_goals first
    | (rename_i h;cases h;done)
    | (rename_i h;exact absurd rfl h)
    | (refine Or.inl ?_;(conv=>whnf)
       show D.i .i64 _=D.i .i64 ((x.nest+cnt x.isJ+1:Nat):Int);rw[hJ];refine congrArg (D.i .i64) ?_;simp only[cnt];omega)
 | and x y ih1 ih2=>
  simp only[Tr.sz] at hx;obtain⟨fx,mx,sx⟩:=ih1 oA;obtain⟨fy,my,sy⟩:=ih2 oA;refine⟨_,acA,?_⟩;refine aF.aB tok Tryz.func327 rfl Tryz.call327 sI ?_;(try (conv=>whnf));repeat' (first|refine Ok.seq ?_|((first|refine Ok.region tok ?_|refine Ok.bH tok follows kR ?_|refine Ok.ret ?_|refine⟨_,RJ x,rfl,?_⟩|refine⟨_,O4 y,rfl,?_⟩|refine⟨_,IZ x.isO,rfl,?_⟩|refine⟨_,IZ y.isJ,rfl,?_⟩|refine⟨_,O5 x y _ _ (cnt_le _) (cnt_le _) oA oA fx fy mx my sx sy,rfl,?_⟩);conv=>whnf)|fail)
  refine Or.inl ?_;(conv=>whnf);rfl
 | or x y ih1 ih2=>
  simp only[Tr.sz] at hx;obtain⟨fx,mx,sx⟩:=ih1 oA;obtain⟨fy,my,sy⟩:=ih2 oA;refine⟨_,mOr,?_⟩;refine aF.aB tok Tryz.func333 rfl Tryz.call333 sI ?_;(try (conv=>whnf));repeat' (first|refine Ok.seq ?_|((first|refine Ok.region tok ?_|refine Ok.bH tok follows kR ?_|refine Ok.ret ?_|refine⟨_,RJ y,rfl,?_⟩|refine⟨_,IZ y.isO,rfl,?_⟩|refine⟨_,O5 x y 0 _ oA (cnt_le _) oA oA fx fy mx my sx sy,rfl,?_⟩);conv=>whnf)|fail)
  refine Or.inl ?_;(conv=>whnf);rfl
end Go.Proofs.YtnlingegeangmaaGreatDoor
namespace Go.Proofs.YtnlingegeangmaaGreatDoor
open Go Go.Vx Go.Shelf
theorem YV{α:Type}{l:List α}{i:Nat}{x:α}(h:l[i]? = some x):l.drop i=x :: l.drop (i+1):=by
 obtain⟨h1,rfl⟩:=aK.1 h;exact List.drop_eq_getElem_cons h1
@[reducible] def nY(x:Tr):List D:=[x.d]
def zT(t:Tst):Prop:=dM (ny t) [.s [],.i .i64 0,.i .i64 0,.i .i64 0,.i .i64 0,.i .i64 0,.s []]
def jK(c:Nd)(rs:List Tr):Option (List Tr):=
 if c.kind=1\/c.kind=2 then some (.leaf (c.kind=1) :: rs)
 else if c.kind=3 then some (.test c.t :: rs)
 else if c.kind=4 then match rs with|x :: r=>some (.neg x :: r)|[]=>none
 else if c.kind=5 then match rs with|y :: x :: r=>some (.and x y :: r)|_=>none
 else if c.kind=6 then match rs with|y :: x :: r=>some (.or x y :: r)|_=>none
 else none
open Classical in
noncomputable def stepT(c:Nd)(rs:List Tr):Option (List Tr):=if c.kind ≠ 3/\¬ zT c.t then none else jK c rs
noncomputable def iI:List Nd->List Tr->Option (List Tr)
 | [],rs=>some rs
 | c :: e,rs=>match stepT c rs with|some rs'=>iI e rs'|none=>none
def Ux:List Tr->Option Tr|[x]=>some x|_=>none
noncomputable def kN(e:List Nd):Option Tr:=(iI e []).bind Ux
def szs(rs:List Tr):Nat:=(rs.map Tr.sz).sum
theorem XH{c:Nd}{rs rs':List Tr}(h:jK c rs=some rs'):szs rs'<=szs rs+1:=by
 unfold jK at h;split at h
 . cases h;simp[szs,Tr.sz];omega
 split at h
 . cases h;simp[szs,Tr.sz];omega
 split at h
 . split at h
   . cases h;simp[szs,Tr.sz];omega
   . cases h
 split at h
 . split at h
   . cases h;simp[szs,Tr.sz];omega
   . cases h
 split at h
 . split at h
   . cases h;simp[szs,Tr.sz];omega
   . cases h
 . cases h
theorem O6:∀ (e:List Nd) (rs rs':List Tr),iI e rs=some rs'->szs rs'<=szs rs+e.length
 | [],rs,rs',h=>by unfold iI at h;cases h;simp
 | c :: e,rs,rs',h=>by
  unfold iI at h;split at h
  . rename_i r1 h1
    have h2:=O6 e _ _ h;unfold stepT at h1;split at h1
    . cases h1
    . have:=XH h1
      simp only[List.length_cons];omega
  . cases h
theorem aay{e:List Nd}{x:Tr}(h:kN e=some x):x.sz<=e.length:=by
 unfold kN at h
 cases hb:iI e [] with
 | none=>rw[hb] at h;cases h
 | some l=>
  rw[hb] at h;have:=O6 _ _ _ hb
  match l,h with
  | [y],h=>cases h;simpa[szs] using this
def acB:Option Tr->D|some x=>.tup [x.d,.b True]|none=>.tup [.fG,.b False]
theorem ab8{c:Nd}{rs:List Tr}(h:c.kind ≠ 3)(h2:¬ zT c.t):stepT c rs=none:=by unfold stepT;rw[if_pos ⟨h,h2⟩]
theorem YW{c:Nd}{rs:List Tr}(h:¬ (c.kind ≠ 3/\¬ zT c.t)):stepT c rs=jK c rs:=by unfold stepT;rw[if_neg h]
theorem vM{e:List Nd}{c:Nd}{r:List Nd}{rs:List Tr}(h:iI e []=iI (c :: r) rs)(hs:stepT c rs=none):kN e=none:=by
 have h2:iI (c :: r) rs=none:=by unfold iI;rw[hs]
 unfold kN;rw[h,h2];rfl
theorem Ag{e:List Nd}{c:Nd}{r:List Nd}{rs rs':List Tr}(h:iI e []=iI (c :: r) rs)(hs:stepT c rs=some rs'):iI e []=iI r rs':=by
 rw[h]
 conv=>lhs;unfold iI
 rw[hs]
theorem Qq(rs:List Tr)(x:Tr):((rs.reverse++[]).map nY)++[nY x]=((x :: rs).reverse++[]).map nY:=sI
theorem O7(rs:List Tr)(x y:Tr)(j:List Tr):((rs.reverse++y :: j).map nY).set rs.length (nY x)=((x :: rs).reverse++j).map nY:=by
 rw[List.map_append,List.set_append_right _ _ sI];simp
theorem I4(x:Tr)(r j:List Tr):((x :: r).reverse++j)[r.length]? = some x:=sI
theorem O8(x y:Tr)(r j:List Tr):((y :: x :: r).reverse++j)[r.length]? = some x:=sI
theorem aaz(x x':Tr)(r j:List Tr):((x :: r).reverse++j).set r.length x'=(x' :: r).reverse++j:=sI
theorem Qr(x y x':Tr)(r j:List Tr):((y :: x :: r).reverse++j).set r.length x'=(x' :: r).reverse++(y :: j):=sI
theorem acC{c:Nd}{rs:List Tr}(h:c.kind=1\/c.kind=2):jK c rs=some (.leaf (c.kind=1) :: rs):=by unfold jK;rw[if_pos h]
theorem sh3{c:Nd}{rs:List Tr}(h:c.kind=3):jK c rs=some (.test c.t :: rs):=by unfold jK;rw[if_neg oA,if_pos h]
theorem sh4{c:Nd}{rs:List Tr}(h:c.kind=4):jK c rs=match rs with|x :: r=>some (.neg x :: r)|[]=>none:=by unfold jK;rw[if_neg oA,if_neg oA,if_pos h]
theorem sh5{c:Nd}{rs:List Tr}(h:c.kind=5):jK c rs=match rs with|y :: x :: r=>some (.and x y :: r)|_=>none:=by unfold jK;rw[if_neg oA,if_neg oA,if_neg oA,if_pos h]
theorem sh6{c:Nd}{rs:List Tr}(h:c.kind=6):jK c rs=match rs with|y :: x :: r=>some (.or x y :: r)|_=>none:=by unfold jK;rw[if_neg oA,if_neg oA,if_neg oA,if_neg oA,if_pos h]
theorem sh0{c:Nd}{rs:List Tr}(h:c.kind<1\/6<c.kind):jK c rs=none:=by unfold jK;rw[if_neg oA,if_neg oA,if_neg oA,if_neg oA,if_neg oA]
theorem aaA{e:List Nd}{rs:List Tr}(h:iI e []=iI [] rs):kN e=Ux rs:=by
 have h2:iI e []=some rs:=h.trans (by unfold iI;rfl);unfold kN;rw[h2];rfl
theorem YX(e:List Nd)(r1:List (List D))(hl:e.length<=2000000):aF Tryz.prog T 177 [.lst 174 (e.map eY) r1] (fun d _=>d=acB (kN e)):=by
 have h1:(e.map eY).length=e.length:=sI;refine aF.aB tok Tryz.func177 rfl Tryz.call177 sI ?_;(try (conv=>whnf));repeat' (first|refine Ok.seq ?_|(refine Ok.region tok ?_;conv=>whnf)|refine Ok.block ?_|fail)
 refine Ok.ghost 4 241 rfl ?_;(conv=>whnf);refine Ok.aT [9,10] [4,11] 1 0 (fun (x:Nat × Nat × List Tr × List Tr)=>[.own 0 x.2.1,.i .i64 (x.1:Nat)]) (fun _ b=>b) (fun (x:Nat × Nat × List Tr × List Tr) (_:Vx.Rows)=>[some (241,(x.2.2.1.reverse++x.2.2.2).map nY)]) (fun (x:Nat × Nat × List Tr × List Tr)=>x.1<=e.length/\x.2.2.1.length=x.2.1/\x.2.1+x.2.2.2.length<=x.1/\iI e []=iI (e.drop x.1) x.2.2.1) (fun (x:Nat × Nat × List Tr × List Tr)=>e.length - x.1) ((0,0,[],[])) (⟨Nat.zero_le _,rfl,Nat.le_refl _,rfl⟩) ?_;(conv=>whnf);refine⟨by ((conv=>whnf);first|rfl|(simp[ak,au,eY,bJ,ny,nY];done)|(simp[ak,au,eY,bJ,ny,nY];rw[IntKind.wrap_i64];omega)),?_⟩;rintro⟨i,n,rs,j⟩ ⟨hi,hn,hj,hb⟩;dsimp only at hi hn hj hb ⊢;have hlm:((rs.reverse++j).map nY).length=n+j.length:=by simp[hn]
 (conv=>whnf);by_cases hil:i<e.length
 . obtain⟨c,hc⟩:∃ c,e[i]? = some c:=⟨_,aC hil⟩
   have hcI:e[((i:Nat):Int).toNat]? = some c:=hc;rw[YV hc] at hb;by_cases hz:c.kind ≠ 3/\¬ zT c.t
   . rw[vM hb (ab8 hz.1 hz.2)]
     have hz1:=hz.1;have hz2:=hz.2;(try (conv=>whnf));repeat' (first|((first|refine⟨_,nC,kR,?_⟩|refine⟨fun _=>?_,fun h=>absurd (Classical.not_not.1 h) hz2⟩);conv=>whnf)|refine Ok.seq ?_|((first|refine Ok.region tok ?_|refine Ok.cond ?_);conv=>whnf)|refine Ok.block ?_|((first|refine Ok.skip ?_|refine Ok.ret ?_|refine ix _ aS ?_);conv=>whnf)|(refine bI ?_ ?_<;>intro<;>first|omega|conv=>whnf)|fail)
     all_goals first
      | omega
      | (refine Or.inl ?_;(conv=>whnf)
         rfl)
   . have hst:=YW (rs:=rs) hz
     have hz3:c.kind=3\/zT c.t:=by
      by_cases h:c.kind=3
      . exact .inl h
      . exact .inr (Classical.byContradiction fun h2=>hz ⟨h,h2⟩)
     by_cases hk3:c.kind=3
     . have hb2:=Ag hb (hst.trans (sh3 hk3))
       cases j with
       | nil=>
        simp only[List.length_nil,Nat.add_zero] at hj hlm;(try (conv=>whnf));repeat' (first|(refine And.intro ⟨kR⟩ ?_;conv=>whnf)|refine Ok.seq ?_|((first|refine Ok.region tok ?_|refine Ok.cond ?_);conv=>whnf)|refine Ok.block ?_|((first|refine Ok.skip ?_|refine nI ?_|refine ix _ aS ?_|refine bU.l (aI ?_)|refine⟨_,.inl ⟨rfl,rfl⟩,?_⟩|refine⟨_,_,rfl,rfl,?_⟩);conv=>whnf)|(refine bI ?_ ?_<;>intro<;>first|omega|conv=>whnf)|(refine aJ ?_;conv=>whnf)|fail)
        all_goals first
         | omega
         | skip
        all_goals
         refine⟨(i+1,n+1,Tr.test c.t :: rs,[]),by dsimp only;omega,⟨by dsimp only;omega,by simp[hn],by simp;omega,hb2⟩,?_⟩;rw[<- Qq];(conv=>whnf);simp[ak,hn]
         try exact⟨rfl,rfl⟩
       | cons y j=>
        simp only[List.length_cons] at hj hlm;(try (conv=>whnf));repeat' (first|(refine And.intro ⟨kR⟩ ?_;conv=>whnf)|refine Ok.seq ?_|((first|refine Ok.region tok ?_|refine Ok.cond ?_);conv=>whnf)|refine Ok.block ?_|((first|refine Ok.skip ?_|refine nI ?_|refine ix _ aS ?_|refine bU.r (aI ?_)|refine⟨_,.inl ⟨rfl,rfl⟩,?_⟩|refine⟨_,_,rfl,rfl,?_⟩);conv=>whnf)|(refine bI ?_ ?_<;>intro<;>first|omega|conv=>whnf)|((first|refine aJ ?_|refine⟨_,rfl,?_⟩);conv=>whnf)|fail)
        all_goals first
         | omega
         | skip
        all_goals
         refine⟨(i+1,n+1,Tr.test c.t :: rs,j),by dsimp only;omega,⟨by dsimp only;omega,by simp[hn],by simp;omega,hb2⟩,?_⟩;rw[<- O7 rs _ y j,hn];(conv=>whnf);simp[ak]
         try rfl
     have hz4:zT c.t:=hz3.resolve_left hk3;by_cases hk1:c.kind=1\/c.kind=2
     . have hb2:=Ag hb (hst.trans (acC hk1))
       cases j with
       | nil=>
        simp only[List.length_nil,Nat.add_zero] at hj hlm;(try (conv=>whnf));repeat' (first|((first|refine⟨_,nC,kR,?_⟩|refine⟨fun h=>absurd hz4 h,fun _=>?_⟩|refine And.intro ⟨kR⟩ ?_);conv=>whnf)|refine Ok.seq ?_|((first|refine Ok.region tok ?_|refine Ok.cond ?_);conv=>whnf)|refine Ok.block ?_|((first|refine Ok.skip ?_|refine nI ?_|refine ix _ aS ?_|refine bU.l (aI ?_)|refine⟨_,.inl ⟨rfl,rfl⟩,?_⟩|refine⟨_,_,rfl,rfl,?_⟩);conv=>whnf)|(refine bI ?_ ?_<;>intro<;>first|omega|conv=>whnf)|(refine aJ ?_;conv=>whnf)|fail)
        all_goals first
         | omega
         | skip
        all_goals
         refine⟨(i+1,n+1,Tr.leaf (c.kind=1) :: rs,[]),by dsimp only;omega,⟨by dsimp only;omega,by simp[hn],by simp;omega,hb2⟩,?_⟩;rw[<- Qq];(conv=>whnf);simp[ak,hn]
         try exact⟨rfl,rfl⟩
       | cons y j=>
        simp only[List.length_cons] at hj hlm;(try (conv=>whnf));repeat' (first|((first|refine⟨_,nC,kR,?_⟩|refine⟨fun h=>absurd hz4 h,fun _=>?_⟩|refine And.intro ⟨kR⟩ ?_);conv=>whnf)|refine Ok.seq ?_|((first|refine Ok.region tok ?_|refine Ok.cond ?_);conv=>whnf)|refine Ok.block ?_|((first|refine Ok.skip ?_|refine nI ?_|refine ix _ aS ?_|refine bU.r (aI ?_)|refine⟨_,.inl ⟨rfl,rfl⟩,?_⟩|refine⟨_,_,rfl,rfl,?_⟩);conv=>whnf)|(refine bI ?_ ?_<;>intro<;>first|omega|conv=>whnf)|((first|refine aJ ?_|refine⟨_,rfl,?_⟩);conv=>whnf)|fail)
        all_goals first
         | omega
         | skip
        all_goals
         refine⟨(i+1,n+1,Tr.leaf (c.kind=1) :: rs,j),by dsimp only;omega,⟨by dsimp only;omega,by simp[hn],by simp;omega,hb2⟩,?_⟩;rw[<- O7 rs _ y j,hn];(conv=>whnf);simp[ak]
         try rfl
     by_cases hk4:c.kind=4
     . match rs,hn with
       | [],hn=>
        simp only[List.length_nil] at hn;subst hn;rw[vM hb (hst.trans (sh4 hk4))];(try (conv=>whnf));repeat' (first|((first|refine⟨_,nC,kR,?_⟩|refine⟨fun h=>absurd hz4 h,fun _=>?_⟩);conv=>whnf)|refine Ok.seq ?_|((first|refine Ok.region tok ?_|refine Ok.cond ?_);conv=>whnf)|refine Ok.block ?_|((first|refine Ok.skip ?_|refine Ok.ret ?_|refine nI ?_|refine ix _ aS ?_);conv=>whnf)|(refine bI ?_ ?_<;>intro<;>first|omega|conv=>whnf)|fail)
        all_goals first
         | omega
         | (refine Or.inl ?_;(conv=>whnf)
            rfl)
       | x :: r,hn=>
        simp only[List.length_cons] at hn;obtain⟨m,rfl⟩:∃ m,n=m+1:=⟨n - 1,oA⟩;have hm:r.length=m:=oA;have hb2:=Ag hb (hst.trans (sh4 hk4));have hmI:(((m+1:Nat):Int) - 1).toNat=m:=oA;have hg1:((x :: r).reverse++j)[(((m+1:Nat):Int) - 1).toNat]? = some x:=by rw[hmI,<- hm];exact I4 x r j
        (try (conv=>whnf));repeat' (first|((first|refine⟨_,nC,kR,?_⟩|refine⟨fun h=>absurd hz4 h,fun _=>?_⟩|refine And.intro ⟨kR⟩ ?_|refine rd rfl hg1 ?_|refine st (Tr.neg x) hg1 sI rfl ?_);conv=>whnf)|refine Ok.seq ?_|((first|refine Ok.region tok ?_|refine Ok.cond ?_);conv=>whnf)|refine Ok.block ?_|((first|refine Ok.skip ?_|refine nI ?_|refine ix _ aS ?_);conv=>whnf)|(refine bI ?_ ?_<;>intro<;>first|omega|conv=>whnf)|(refine aJ ?_;conv=>whnf)|fail)
        all_goals first
         | omega
         | skip
        all_goals
         refine⟨(i+1,m+1,Tr.neg x :: r,j),by dsimp only;omega,⟨by dsimp only;omega,by simp[hm],by dsimp only;omega,hb2⟩,?_⟩;rw[hmI,<- hm,aaz];(conv=>whnf);rfl
     by_cases hk5:c.kind=5
     . match rs,hn with
       | [],hn=>
        simp only[List.length_nil] at hn;subst hn;rw[vM hb (hst.trans (sh5 hk5))];(try (conv=>whnf));repeat' (first|((first|refine⟨_,nC,kR,?_⟩|refine⟨fun h=>absurd hz4 h,fun _=>?_⟩);conv=>whnf)|refine Ok.seq ?_|((first|refine Ok.region tok ?_|refine Ok.cond ?_);conv=>whnf)|refine Ok.block ?_|((first|refine Ok.skip ?_|refine Ok.ret ?_|refine nI ?_|refine ix _ aS ?_);conv=>whnf)|(refine bI ?_ ?_<;>intro<;>first|omega|conv=>whnf)|fail)
        all_goals first
         | omega
         | (refine Or.inl ?_;(conv=>whnf)
            rfl)
       | [y],hn=>
        simp only[List.length_cons,List.length_nil] at hn;subst hn;rw[vM hb (hst.trans (sh5 hk5))];(try (conv=>whnf));repeat' (first|((first|refine⟨_,nC,kR,?_⟩|refine⟨fun h=>absurd hz4 h,fun _=>?_⟩);conv=>whnf)|refine Ok.seq ?_|((first|refine Ok.region tok ?_|refine Ok.cond ?_);conv=>whnf)|refine Ok.block ?_|((first|refine Ok.skip ?_|refine Ok.ret ?_|refine nI ?_|refine ix _ aS ?_);conv=>whnf)|(refine bI ?_ ?_<;>intro<;>first|omega|conv=>whnf)|fail)
        all_goals first
         | omega
         | (refine Or.inl ?_;(conv=>whnf)
            rfl)
       | y :: x :: r,hn=>
        simp only[List.length_cons] at hn;obtain⟨m,rfl⟩:∃ m,n=m+2:=⟨n - 2,oA⟩;have hm:r.length=m:=oA;have hb2:=Ag hb (hst.trans (sh5 hk5));have hmI:(((m+2:Nat):Int) - 1).toNat=m+1:=oA;have hmJ:(((m+2:Nat):Int) - 1 - 1).toNat=m:=oA;have hg1:((y :: x :: r).reverse++j)[(((m+2:Nat):Int) - 1).toNat]? = some y:=by rw[hmI,<- hm];exact I4 y (x :: r) j
        have hg2:((y :: x :: r).reverse++j)[(((m+2:Nat):Int) - 1 - 1).toNat]? = some x:=by rw[hmJ,<- hm];exact O8 x y r j
        (try (conv=>whnf));repeat' (first|((first|refine⟨_,nC,kR,?_⟩|refine⟨fun h=>absurd hz4 h,fun _=>?_⟩|refine And.intro ⟨kR⟩ ?_|refine rd rfl hg1 ?_|refine rd rfl hg2 ?_|refine st (Tr.and x y) hg2 sI rfl ?_);conv=>whnf)|(refine⟨m+1,rfl,(by show ((m+2:Nat):Int) - 1=((m+1:Nat):Int);omega),oA,?_⟩;conv=>whnf)|refine Ok.seq ?_|((first|refine Ok.region tok ?_|refine Ok.aW (id:=23) tok follows [(4,11,[]),(8,11,[]),(10,11,[])] [.q 0,.q 1,.q 2,.q 3,.q 4,.q 5,.q 6,.q 7,.q 8,.q 9,.l 10,.l 11] kR ?_|refine Ok.cond ?_);conv=>whnf)|refine Ok.block ?_|((first|refine Ok.skip ?_|refine nI ?_|refine ix _ aS ?_);conv=>whnf)|(refine bI ?_ ?_<;>intro<;>first|omega|conv=>whnf)|(refine aJ ?_;conv=>whnf)|fail)
        all_goals first
         | omega
         | skip
        all_goals
         refine⟨(i+1,m+1,Tr.and x y :: r,y :: j),by dsimp only;omega,⟨by dsimp only;omega,by simp[hm],by simp;omega,hb2⟩,?_⟩;rw[hmJ,<- hm,Qr];(conv=>whnf);rfl
     by_cases hk6:c.kind=6
     . match rs,hn with
       | [],hn=>
        simp only[List.length_nil] at hn;subst hn;rw[vM hb (hst.trans (sh6 hk6))];(try (conv=>whnf));repeat' (first|((first|refine⟨_,nC,kR,?_⟩|refine⟨fun h=>absurd hz4 h,fun _=>?_⟩);conv=>whnf)|refine Ok.seq ?_|((first|refine Ok.region tok ?_|refine Ok.cond ?_);conv=>whnf)|refine Ok.block ?_|((first|refine Ok.skip ?_|refine Ok.ret ?_|refine nI ?_|refine ix _ aS ?_);conv=>whnf)|(refine bI ?_ ?_<;>intro<;>first|omega|conv=>whnf)|fail)
        all_goals first
         | omega
         | (refine Or.inl ?_;(conv=>whnf)
            rfl)
       | [y],hn=>
        simp only[List.length_cons,List.length_nil] at hn;subst hn;rw[vM hb (hst.trans (sh6 hk6))];(try (conv=>whnf));repeat' (first|((first|refine⟨_,nC,kR,?_⟩|refine⟨fun h=>absurd hz4 h,fun _=>?_⟩);conv=>whnf)|refine Ok.seq ?_|((first|refine Ok.region tok ?_|refine Ok.cond ?_);conv=>whnf)|refine Ok.block ?_|((first|refine Ok.skip ?_|refine Ok.ret ?_|refine nI ?_|refine ix _ aS ?_);conv=>whnf)|(refine bI ?_ ?_<;>intro<;>first|omega|conv=>whnf)|fail)
        all_goals first
         | omega
         | (refine Or.inl ?_;(conv=>whnf)
            rfl)
       | y :: x :: r,hn=>
        simp only[List.length_cons] at hn;obtain⟨m,rfl⟩:∃ m,n=m+2:=⟨n - 2,oA⟩;have hm:r.length=m:=oA;have hb2:=Ag hb (hst.trans (sh6 hk6));have hmI:(((m+2:Nat):Int) - 1).toNat=m+1:=oA;have hmJ:(((m+2:Nat):Int) - 1 - 1).toNat=m:=oA;have hg1:((y :: x :: r).reverse++j)[(((m+2:Nat):Int) - 1).toNat]? = some y:=by rw[hmI,<- hm];exact I4 y (x :: r) j
        have hg2:((y :: x :: r).reverse++j)[(((m+2:Nat):Int) - 1 - 1).toNat]? = some x:=by rw[hmJ,<- hm];exact O8 x y r j
        (try (conv=>whnf));repeat' (first|((first|refine⟨_,nC,kR,?_⟩|refine⟨fun h=>absurd hz4 h,fun _=>?_⟩|refine And.intro ⟨kR⟩ ?_|refine rd rfl hg1 ?_|refine rd rfl hg2 ?_|refine st (Tr.or x y) hg2 sI rfl ?_);conv=>whnf)|(refine⟨m+1,rfl,(by show ((m+2:Nat):Int) - 1=((m+1:Nat):Int);omega),oA,?_⟩;conv=>whnf)|refine Ok.seq ?_|((first|refine Ok.region tok ?_|refine Ok.aW (id:=23) tok follows [(4,11,[]),(8,11,[]),(10,11,[])] [.q 0,.q 1,.q 2,.q 3,.q 4,.q 5,.q 6,.q 7,.q 8,.q 9,.l 10,.l 11] kR ?_|refine Ok.cond ?_);conv=>whnf)|refine Ok.block ?_|((first|refine Ok.skip ?_|refine nI ?_|refine ix _ aS ?_);conv=>whnf)|(refine bI ?_ ?_<;>intro<;>first|omega|conv=>whnf)|(refine aJ ?_;conv=>whnf)|fail)
        all_goals first
         | omega
         | skip
        all_goals
         refine⟨(i+1,m+1,Tr.or x y :: r,y :: j),by dsimp only;omega,⟨by dsimp only;omega,by simp[hm],by simp;omega,hb2⟩,?_⟩;rw[hmJ,<- hm,Qr];(conv=>whnf);rfl
     rw[vM hb (hst.trans (sh0 oA))];(try (conv=>whnf));repeat' (first|((first|refine⟨_,nC,kR,?_⟩|refine⟨fun h=>absurd hz4 h,fun _=>?_⟩);conv=>whnf)|refine Ok.seq ?_|((first|refine Ok.region tok ?_|refine Ok.cond ?_);conv=>whnf)|refine Ok.block ?_|((first|refine Ok.skip ?_|refine Ok.ret ?_|refine nI ?_|refine ix _ aS ?_);conv=>whnf)|(refine bI ?_ ?_<;>intro<;>first|omega|conv=>whnf)|fail)
     all_goals first
      | omega
      | (refine Or.inl ?_;(conv=>whnf)
         rfl)
 . have hie:i=e.length:=oA
   subst hie;rw[List.drop_length] at hb;have hbe:=aaA hb
   match rs,hn with
   | [],hn=>
    simp only[List.length_nil] at hn;subst hn;rw[hbe];(try (conv=>whnf));repeat' (first|refine Ok.seq ?_|((first|refine Ok.region tok ?_|refine Ok.cond ?_|refine Ok.exit ?_|refine Ok.ret ?_);conv=>whnf)|(refine bI ?_ ?_<;>intro<;>first|omega|conv=>whnf)|fail)
    all_goals first
     | omega
     | (refine Or.inl ?_;(conv=>whnf)
        rfl)
   | [x],hn=>
    simp only[List.length_cons,List.length_nil] at hn;subst hn;rw[hbe];have hg0:([x].reverse++j)[(0:Int).toNat]? = some x:=sI;(try (conv=>whnf));repeat' (first|(refine rd rfl hg0 ?_;conv=>whnf)|refine Ok.seq ?_|((first|refine Ok.region tok ?_|refine Ok.cond ?_|refine Ok.skip ?_|refine Ok.exit ?_|refine Ok.ret ?_);conv=>whnf)|(refine bI ?_ ?_<;>intro<;>first|omega|conv=>whnf)|(refine aJ ?_;conv=>whnf)|fail)
    all_goals first
     | omega
     | (refine Or.inl ?_;(conv=>whnf)
        rfl)
   | x :: y :: r,hn=>
    simp only[List.length_cons] at hn;rw[hbe];(try (conv=>whnf));repeat' (first|refine Ok.seq ?_|((first|refine Ok.region tok ?_|refine Ok.cond ?_|refine Ok.exit ?_|refine Ok.ret ?_);conv=>whnf)|(refine bI ?_ ?_<;>intro<;>first|omega|conv=>whnf)|fail)
    all_goals first
     | omega
     | (refine Or.inl ?_;(conv=>whnf)
        rfl)
end Go.Proofs.YtnlingegeangmaaGreatDoor
namespace Go.Proofs.YtnlingegeangmaaGreatDoor
open Go Go.Vx Go.Shelf
def J8(e:List Nd):Prop:=∀ c ∈ e,c.t.f.length<=1000000000000/\c.t.pat.length<=1000000000000
end Go.Proofs.YtnlingegeangmaaGreatDoor
namespace Go.Proofs.YtnlingegeangmaaGreatDoor
open Go Go.Vx Go.Shelf
open Classical in
noncomputable def qA(l:List Fd):List Nd->Int
 | []=>0
 | c :: r=>if c.kind=3/\jW l c.t ≠ 0 then jW l c.t else qA l r
theorem YZ{l:List Fd}{c:Nd}{r:List Nd}(h:c.kind=3)(h2:jW l c.t ≠ 0):qA l (c :: r)=jW l c.t:=by unfold qA;rw[if_pos ⟨h,h2⟩]
theorem RN{l:List Fd}{c:Nd}{r:List Nd}(h:¬ (c.kind=3/\jW l c.t ≠ 0)):qA l (c :: r)=qA l r:=by conv=>lhs;unfold qA;rw[if_neg h]
noncomputable def ab9(l:List Fd)(e:List Nd):Option Tr->Int|none=>52|some x=>if 32<x.nest then 53 else qA l e
open Classical in
/-- What Check tells. -/
noncomputable def dZ(l:List Fd)(e:List Nd):Int:=if (dh l).1 ≠ 0 then (dh l).1 else if 64<e.length then 51 else ab9 l e (kN e)
theorem abw{l:List Fd}{e:List Nd}(h:(dh l).1 ≠ 0):dZ l e=(dh l).1:=by unfold dZ;rw[if_pos h]
theorem abx{l:List Fd}{e:List Nd}(h:(dh l).1=0)(h2:64<e.length):dZ l e=51:=by unfold dZ;rw[if_neg (fun x=>x h),if_pos h2]
theorem aby{l:List Fd}{e:List Nd}(h:(dh l).1=0)(h2:¬ 64<e.length)(h3:kN e=none):dZ l e=52:=by unfold dZ;rw[if_neg (fun x=>x h),if_neg h2,h3];rfl
theorem abz{l:List Fd}{e:List Nd}{x:Tr}(h:(dh l).1=0)(h2:¬ 64<e.length)(h3:kN e=some x)(h4:32<x.nest):dZ l e=53:=by unfold dZ;rw[if_neg (fun x=>x h),if_neg h2,h3];exact if_pos h4
theorem abA{l:List Fd}{e:List Nd}{x:Tr}(h:(dh l).1=0)(h2:¬ 64<e.length)(h3:kN e=some x)(h4:¬ 32<x.nest):dZ l e=qA l e:=by unfold dZ;rw[if_neg (fun x=>x h),if_neg h2,h3];exact if_neg h4
open Classical in
noncomputable def zq(l:List Fd)(e:List Nd):D:=if dZ l e=0 then (match kN e with|some x=>.tup [x.d,.i .i64 0]|none=>.u) else .tup [.fG,.i .i64 (dZ l e)]
theorem yE{l:List Fd}{e:List Nd}{k:Int}(h:dZ l e=k)(h2:k ≠ 0):zq l e = .tup [.fG,.i .i64 k]:=by unfold zq;rw[h,if_neg h2]
theorem RP{l:List Fd}{e:List Nd}{x:Tr}(h:dZ l e=0)(h2:kN e=some x):zq l e = .tup [x.d,.i .i64 0]:=by unfold zq;rw[if_pos h,h2]
theorem aaB(l:List Fd)(r:List (List D))(e:List Nd)(r2:List (List D))(hl:l.length<=2000000)(he:e.length<=2000000)(htx:J8 e) :
    aF Tryz.prog T 153 [.lst 93 (l.map bJ) r,.lst 174 (e.map eY) r2] (fun d rows=>d=zq l e/\rows=[]):=by
 have h1:(l.map bJ).length=l.length:=sI;have h2:(e.map eY).length=e.length:=sI;have hch:=Af l r hl;refine aF.aB tok Tryz.func153 rfl Tryz.call153 sI ?_;by_cases c1:(dh l).1=0
 case neg=>
  rw[yE (abw c1) c1];generalize (dh l).1=k at *;(try (conv=>whnf));repeat' (first|refine Ok.seq ?_|((first|refine Ok.region tok ?_|refine Ok.cond ?_|refine Ok.ret ?_);conv=>whnf)|(refine Or.inl ?_;(conv=>whnf);(repeat (refine aI ?_;conv=>whnf));refine⟨_,hch,rfl,?_⟩;conv=>whnf)|(refine bI ?_ ?_<;>intro<;>first|omega|conv=>whnf)|fail)
  all_goals first
   | omega
   | (refine Or.inl ?_;(conv=>whnf)
      exact⟨rfl,rfl⟩)
 by_cases c2:64<e.length
 . rw[yE (abx c1 c2) dC]
   (try (conv=>whnf));repeat' (first|refine Ok.seq ?_|((first|refine Ok.region tok ?_|refine Ok.cond ?_|refine Ok.skip ?_|refine Ok.ret ?_);conv=>whnf)|(refine Or.inl ?_;(conv=>whnf);(repeat (refine aI ?_;conv=>whnf));refine⟨_,hch,rfl,?_⟩;conv=>whnf)|(refine bI ?_ ?_<;>intro<;>first|omega|conv=>whnf)|fail)
   all_goals first
    | omega
    | (refine Or.inl ?_;(conv=>whnf)
       exact⟨rfl,rfl⟩)
 have hbl:=YX e r2 he
 cases hb:kN e with
 | none=>
  rw[yE (aby c1 c2 hb) dC];rw[hb] at hbl;(try (conv=>whnf));repeat' (first|refine Ok.seq ?_|((first|refine Ok.region tok ?_|refine Ok.cond ?_|refine Ok.skip ?_|refine Ok.ret ?_);conv=>whnf)|(refine Or.inl ?_;(conv=>whnf);(repeat (refine aI ?_;conv=>whnf));refine⟨_,hch,rfl,?_⟩;conv=>whnf)|(refine Or.inr (Or.inl ?_);(conv=>whnf);(repeat (refine aI ?_;conv=>whnf));refine⟨_,hbl,?_⟩;rintro _ _ ⟨rfl,rfl⟩;conv=>whnf)|(refine bI ?_ ?_<;>intro<;>first|omega|conv=>whnf)|fail)
  all_goals first
   | omega
   | (rename_i h;exact absurd (fun h2=>h2) h)
   | (refine Or.inl ?_;(conv=>whnf)
      exact⟨rfl,rfl⟩)
 | some x=>
  rw[hb] at hbl;have hsz:=aay hb;obtain⟨fx,mx,sx⟩:=aax x oA;have hnx:=EP x;by_cases c4:32<x.nest
  . rw[yE (abz c1 c2 hb c4) dC]
    (try (conv=>whnf));repeat' (first|(refine⟨fun h=>absurd trivial h,fun _=>?_⟩;conv=>whnf)|refine Ok.seq ?_|((first|refine Ok.region tok ?_|refine Ok.cond ?_|refine Ok.skip ?_|refine Ok.ret ?_);conv=>whnf)|(refine Or.inl ?_;(conv=>whnf);(repeat (refine aI ?_;conv=>whnf));refine⟨_,hch,rfl,?_⟩;conv=>whnf)|(refine Or.inr (Or.inl ?_);(conv=>whnf);(repeat (refine aI ?_;conv=>whnf));refine⟨_,hbl,?_⟩;rintro _ _ ⟨rfl,rfl⟩;conv=>whnf)|(refine Or.inl ?_;(conv=>whnf);(repeat (refine aI ?_;conv=>whnf));refine⟨_,mx,_,sx,rfl,?_⟩;conv=>whnf)|(refine bI ?_ ?_<;>intro<;>first|omega|conv=>whnf)|fail)
    all_goals first
     | omega
     | (refine Or.inl ?_;(conv=>whnf)
        exact⟨rfl,rfl⟩)
  . have hce:=abA c1 c2 hb c4
    (try (conv=>whnf));repeat' (first|(refine⟨fun h=>absurd trivial h,fun _=>?_⟩;conv=>whnf)|refine Ok.seq ?_|((first|refine Ok.region tok ?_|refine Ok.cond ?_);conv=>whnf)|refine Ok.block ?_|(refine Ok.skip ?_;conv=>whnf)|(refine Or.inl ?_;(conv=>whnf);(repeat (refine aI ?_;conv=>whnf));refine⟨_,hch,rfl,?_⟩;conv=>whnf)|(refine Or.inr (Or.inl ?_);(conv=>whnf);(repeat (refine aI ?_;conv=>whnf));refine⟨_,hbl,?_⟩;rintro _ _ ⟨rfl,rfl⟩;conv=>whnf)|(refine Or.inl ?_;(conv=>whnf);(repeat (refine aI ?_;conv=>whnf));refine⟨_,mx,_,sx,rfl,?_⟩;conv=>whnf)|(refine bI ?_ ?_<;>intro<;>first|omega|conv=>whnf)|fail)
    all_goals first
     | omega
     | skip
    refine Ok.aT [0,8,35,36] [37] 0 0 (fun (i:Nat)=>[.i .i64 (i:Nat)]) (fun _ b=>b) (fun _ r=>r) (fun (i:Nat)=>i<=e.length/\qA l e=qA l (e.drop i)) (fun (i:Nat)=>e.length - i) (0) (⟨Nat.zero_le _,rfl⟩) ?_;(conv=>whnf);refine⟨by ((conv=>whnf);first|rfl|(simp[ak, au, eY, bJ, bT, aG, ny, cZ, nY];done)|(simp[ak, au, eY, bJ, bT, aG, ny, cZ, nY];rw[IntKind.wrap_i64];omega)),?_⟩;rintro i ⟨hi,ht⟩;(conv=>whnf);by_cases hil:i<e.length
    . obtain⟨c,hc⟩:∃ c,e[i]? = some c:=⟨_,aC hil⟩
      have hcI:e[((i:Nat):Int).toNat]? = some c:=hc;have htc:=htx c (aU hc);rw[Ad hc] at ht;by_cases hk:c.kind=3
      . by_cases hE:jW l c.t=0
        . have hcu:=YU l r (by have:=(vV (l:=l) aS).2;omega) c.t.f c.t.op c.t.form c.t.lo c.t.hi c.t.len c.t.pat htc.2 hE
          generalize CG l ⟨c.t.f,c.t.op,c.t.form,c.t.lo,c.t.hi,c.t.len,c.t.pat⟩=Q at *;rw[RN (fun h=>h.2 hE)] at ht;(try (conv=>whnf));repeat' (first|refine Ok.seq ?_|((first|refine Ok.region tok ?_|refine Ok.cond ?_);conv=>whnf)|refine Ok.block ?_|((first|refine Ok.skip ?_|refine nI ?_|refine ix _ aS ?_);conv=>whnf)|(refine Or.inr (Or.inl ?_);(conv=>whnf);(repeat (refine aI ?_;conv=>whnf));refine⟨_,hcu,?_⟩;rintro _ _ ⟨rfl,rfl⟩;conv=>whnf)|(refine bI ?_ ?_<;>intro<;>first|omega|conv=>whnf)|fail)
          all_goals first
           | omega
           | (refine⟨i+1,oA,⟨oA,ht⟩,?_⟩
              (conv=>whnf);rfl)
        . have hcu:=XG l r (by have:=(vV (l:=l) aS).2;omega) c.t.f c.t.op c.t.form c.t.lo c.t.hi c.t.len c.t.pat htc.2 hE
          rw[YZ hk hE] at ht;rw[yE (hce.trans ht) hE];have hE2:jW l ⟨c.t.f,c.t.op,c.t.form,c.t.lo,c.t.hi,c.t.len,c.t.pat⟩=jW l c.t:=rfl;rw[hE2] at hcu;generalize jW l c.t=k at *;(try (conv=>whnf));repeat' (first|refine Ok.seq ?_|((first|refine Ok.region tok ?_|refine Ok.cond ?_);conv=>whnf)|refine Ok.block ?_|((first|refine Ok.skip ?_|refine Ok.ret ?_|refine ix _ aS ?_);conv=>whnf)|(refine Or.inr (Or.inl ?_);(conv=>whnf);(repeat (refine aI ?_;conv=>whnf));refine⟨_,hcu,?_⟩;rintro _ _ ⟨rfl,rfl⟩;conv=>whnf)|(refine bI ?_ ?_<;>intro<;>first|omega|conv=>whnf)|fail)
          all_goals first
           | omega
           | (refine Or.inl ?_;(conv=>whnf)
              exact⟨rfl,rfl⟩)
      . rw[RN (fun h=>hk h.1)] at ht
        (try (conv=>whnf));repeat' (first|refine Ok.seq ?_|((first|refine Ok.region tok ?_|refine Ok.cond ?_);conv=>whnf)|refine Ok.block ?_|((first|refine Ok.skip ?_|refine Ok.exit ?_|refine nI ?_|refine ix _ aS ?_);conv=>whnf)|(refine bI ?_ ?_<;>intro<;>first|omega|conv=>whnf)|fail)
        all_goals first
         | omega
         | (refine⟨i+1,oA,⟨oA,ht⟩,?_⟩
            (conv=>whnf);rfl)
    . have hie:i=e.length:=oA
      subst hie;rw[List.drop_length] at ht;rw[RP (hce.trans ht) hb];(try (conv=>whnf));repeat' (first|refine Ok.seq ?_|((first|refine Ok.region tok ?_|refine Ok.cond ?_|refine Ok.exit ?_|refine Ok.ret ?_);conv=>whnf)|(refine bI ?_ ?_<;>intro<;>first|omega|conv=>whnf)|fail)
      all_goals first
       | omega
       | (refine Or.inl ?_;(conv=>whnf)
          exact⟨rfl,rfl⟩)
end Go.Proofs.YtnlingegeangmaaGreatDoor
namespace Go.Proofs.YtnlingegeangmaaGreatDoor
open Go Go.Vx
open Classical
def SI.fd(x:SI):Fd:=⟨x.s,x.n⟩
def Node.nd(x:Node):Nd:=⟨x.kind,⟨x.field,x.op,x.form,x.lo,x.hi,x.len,x.pat⟩⟩
def fds(l:List SI):List Fd:=l.map SI.fd
def nds(l:List Node):List Nd:=l.map Node.nd
theorem Au(l:List SI):(fds l).map bJ=l.map SI.row:=by simp[fds,Function.comp_def,SI.fd,SI.row]
theorem RQ(l:List Node):(nds l).map eY=l.map Node.row:=by simp[nds,Function.comp_def,Node.nd,Node.row]
abbrev Er:=Int × Str
noncomputable def orE(a b:Er):Er:=if a.1 ≠ 0 then a else b
theorem rO{a:Er}(b:Er)(h:a.1 ≠ 0):orE a b=a:=if_pos h
theorem lG{a:Er}(b:Er)(h:a.1=0):orE a b=b:=if_neg (fun x=>x h)
noncomputable def aV{α:Type}(f:List α->α->Er)(pre:List α):List α->Er
 | []=>(0,[])
 | x :: l=>if (f pre x).1 ≠ 0 then f pre x else aV f (pre++[x]) l
section
variable {α : Type} {f : List α → α → Er} {l : List α} {k : Nat} {x : α}
theorem zF(hx:l[k]? = some x):aV f (l.take k) (l.drop k)=if (f (l.take k) x).1 ≠ 0 then f (l.take k) x else aV f (l.take (k+1)) (l.drop (k+1)):=by
 rw[Ad hx,List.take_add_one,hx];rfl
theorem iW(hx:l[k]? = some x)(h:(f (l.take k) x).1 ≠ 0):aV f (l.take k) (l.drop k)=f (l.take k) x:=by rw[zF hx,if_pos h]
theorem qN(hx:l[k]? = some x)(h:(f (l.take k) x).1=0):aV f (l.take k) (l.drop k)=aV f (l.take (k+1)) (l.drop (k+1)):=by rw[zF hx,if_neg (fun g=>g h)]
theorem lX(h:l.length<=k):aV f (l.take k) (l.drop k)=(0,[]):=by rw[List.drop_eq_nil_of_le h];rfl
theorem sU:(aV f [] l).1=0->∀ (k:Nat) x,l[k]? = some x->(f (l.take k) x).1=0:=by
 have key:∀ (r pre:List α),(aV f pre r).1=0->∀ (k:Nat) x,r[k]? = some x->(f (pre++r.take k) x).1=0:=by
  intro r
  induction r with
  | nil=>intro pre _ k x h;simp at h
  | cons y r ih=>
   intro pre h k x hx;unfold aV at h;split at h
   . rename_i h1;exact absurd h h1
   . rename_i h1
     cases k with
     | zero=>simp at hx;subst hx;simpa using Classical.not_not.1 h1
     | succ k=>
      have:=ih _ h k x (by simpa using hx);simpa using this
 intro h k x hx;simpa using key l [] h k x hx
theorem WE:(aV f [] l).1=0->aV f [] l=(0,[]):=by
 have key:∀ (r pre:List α),(aV f pre r).1=0->aV f pre r=(0,[]):=by
  intro r
  induction r with
  | nil=>intro pre _;rfl
  | cons y r ih=>
   intro pre h;unfold aV at h ⊢;split at h
   . rename_i h1;exact absurd h h1
   . rename_i h1
     rw[if_neg h1];exact ih _ h
 exact key l []
end
def FT:List Str:=[[110,101,116,119,111,114,107],[104,101,97,100,101,114],[114,111,117,116,105,110,103],[115,108,105,109],[98,111,120],[105,110],[111,117,116],[103,117,97,114,100],[112,101,114,109,105,116],[100,101,110,121],[114,117,108,101],[102,114,111,109],[109,97,116,99,104],[115,101,116],[116,111],[100,114,111,112],[111,119,110],[114,111,117,116,101],[108,105,110,107],[99,111,115,116],[115,108,105,99,101],[119,104,101,114,101],[97,110,121],[110,111,110,101],[97,116],[110,111]]
def Rsv(s:Str):Prop:=s ∈ FT
def iR(s:Str):Prop:=J6 s/\¬ Rsv s
noncomputable def wV(_:List SI)(f:SI):Er:=if Rsv f.s then (70,f.s) else (0,[])
noncomputable def jQ(c:bC):Er:=
 if 256<c.title.length then (71,[110,101,116,119,111,114,107]) else
 if (dh (fds c.fields)).1=2\/c.fields=[] then (70,[]) else
 if (dh (fds c.fields)).1 ≠ 0 then (70,((c.fields[(dh (fds c.fields)).2.toNat]?).getD ⟨[],0⟩).s) else
 orE (aV wV [] c.fields) (if (c.routing ≠ []/\¬ ∃ f ∈ c.fields,f.s=c.routing)\/(c.gB/\c.routing=[]) then (73,c.routing) else (0,[]))
def rC(l:List bf):Nat:=(l.map fun b=>b.ins.length+b.outs.length).sum
def yP(l:List bf):Nat:=(l.map fun b=>b.guards.length).sum
def yQ(l:List bf):Nat:=(l.map fun b=>b.rules.length).sum
def qW(l:List bf):Nat:=(l.map fun b=>b.owns.length+b.routes.length).sum
def nZ(c:bC):List (Nat × Nat × Str):=
 [(c.boxes.length,16,[98,111,120,101,115]),(rC c.boxes,48,[112,111,114,116,115]),(yP c.boxes,64,[103,117,97,114,100,115]),(yQ c.boxes,64,[114,117,108,101,115]),(qW c.boxes,64,[114,111,117,116,101,115]),(c.links.length,48,[108,105,110,107,115]),(c.slices.length,8,[115,108,105,99,101,115])]
def zu(_:List (Nat × Nat × Str))(x:Nat × Nat × Str):Er:=if x.2.1<x.1 then (71,x.2.2) else (0,[])
noncomputable def jL(c:bC):Er:=aV zu [] (nZ c)
def dot(n p:Str):Str:=n++[46]++p
noncomputable def lH(n:Str)(pre:List Str)(p:Str):Er:=if ¬ iR p then (36,dot n p) else if p ∈ pre then (72,dot n p) else (0,[])
noncomputable def uU(pre:List bf)(b:bf):Er:=
 if ¬ iR b.name then (36,b.name) else if ∃ x ∈ pre,x.name=b.name then (72,b.name) else aV (lH b.name) [] (b.ins++b.outs)
noncomputable def lJ(c:bC):Er:=aV uU [] c.boxes
noncomputable def jc(want other:List Str)(pre:List Str)(s:Str):Er:=if s ∉ want then (if s ∉ other then (73,[]) else (74,[])) else if s ∈ pre then (72,[]) else (0,[])
theorem qO{want other pre:List Str}{s:Str}(h:s ∉ want)(h2:s ∉ other):jc want other pre s=(73,[]):=by unfold jc;rw[if_pos h,if_pos h2]
theorem vC{want other pre:List Str}{s:Str}(h:s ∉ want)(h2:s ∈ other):jc want other pre s=(74,[]):=by unfold jc;rw[if_pos h,if_neg (fun g=>g h2)]
theorem O9{want other pre:List Str}{s:Str}(h:s ∈ want)(h2:s ∈ pre):jc want other pre s=(72,[]):=by unfold jc;rw[if_neg (fun g=>g h),if_pos h2]
theorem Ah{want other pre:List Str}{s:Str}(h:s ∈ want)(h2:s ∉ pre):jc want other pre s=(0,[]):=by unfold jc;rw[if_neg (fun g=>g h),if_neg h2]
noncomputable def dG(l want other:List Str):Int:=(aV (jc want other) [] l).1
noncomputable def qB(fs:List Fd)(pre:List SI)(s:SI):Er:=
 if cO s.s fs 0<0 then (41,[]) else if ∃ t ∈ pre,t.s=s.s then (45,[]) else
 if s.n<0\/(tw ((fs[(cO s.s fs 0).toNat]?).getD ⟨[],0⟩).bits.toNat:Int) - 1<s.n then (42,[]) else (0,[])
noncomputable def rP(fs:List Fd)(l:List SI):Int:=if 12<l.length then 2 else if (dh fs).1 ≠ 0 then (dh fs).1 else (aV (qB fs) [] l).1
noncomputable def kK(c:bC)(b:bf)(pre:List uG)(r:uG):Int:=
 if r.prio<0\/65535<r.prio then 76 else if ∃ s ∈ pre,s.prio=r.prio then 76 else
 if dG r.frm b.ins b.outs ≠ 0 then dG r.frm b.ins b.outs else
 if dZ (fds c.fields) (nds r.dY) ≠ 0 then 77 else if rP (fds c.fields) r.sets ≠ 0 then 79 else
 if 4<r.dst.length then 71 else dG r.dst b.outs b.ins
def cu(c:bC):Int:=if c.routing=[] then 0 else if cO c.routing (fds c.fields) 0<0 then 0 else (((fds c.fields)[(cO c.routing (fds c.fields) 0).toNat]?).getD ⟨[],0⟩).bits
noncomputable def mP(c:bC)(b:bf)(pre:List Pfx)(p:Pfx):Int:=
 if cu c=0\/p.len<0\/cu c<p.len\/p.value<0\/(tw (cu c).toNat:Int)<=p.value then 78 else
 if p.value % (tw (cu c - p.len).toNat:Int) ≠ 0 then 78 else
 if ∃ q ∈ pre,q.value=p.value/\q.len=p.len then 78 else dG [p.dst] b.outs b.ins
noncomputable def told(e:Int)(t:Str):Er:=if e ≠ 0 then (e,t) else (0,[])
noncomputable def guardE(c:bC)(b:bf)(_:List qg)(g:qg):Er:=
 if g.port ∉ b.ins++b.outs then (73,b.name++[32,103,117,97,114,100,32]++g.port) else if dZ (fds c.fields) (nds g.dY) ≠ 0 then (77,b.name++[32,103,117,97,114,100,32]++g.port) else (0,[])
noncomputable def qh(c:bC)(b:bf)(pre:List uG)(r:uG):Er:=told (kK c b pre r) (b.name++[32,114,117,108,101,32]++Lib.itoa r.prio)
noncomputable def oP(c:bC)(b:bf)(pre:List Pfx)(p:Pfx):Er:=told (mP c b pre p) (b.name++[32,111,119,110])
noncomputable def qj(c:bC)(b:bf)(pre:List Pfx)(p:Pfx):Er:=told (mP c b pre p) (b.name++[32,114,111,117,116,101])
noncomputable def oM(c:bC)(_:List bf)(b:bf):Er:=
 orE (aV (guardE c b) [] b.guards) (orE (aV (qh c b) [] b.rules) (orE (aV (oP c b) [] b.owns) (aV (qj c b) [] b.routes)))
noncomputable def ql(c:bC):Er:=aV (oM c) [] c.boxes
def yR(b:bf):List Str:=(b.ins++b.outs).map (dot b.name)
def dQ(c:bC):List Str:=c.boxes.flatMap fun b=>b.ins.map (dot b.name)
def dU(c:bC):List Str:=c.boxes.flatMap fun b=>b.outs.map (dot b.name)
noncomputable def jl(c:bC)(pre:List Link)(x:Link):Er:=
 if dG [x.frm] (dU c) (dQ c) ≠ 0 then (dG [x.frm] (dU c) (dQ c),x.frm) else
 if dG [x.dst] (dQ c) (dU c) ≠ 0 then (dG [x.dst] (dQ c) (dU c),x.dst) else
 if x.cost<1\/9999<x.cost then (71,x.frm) else if ∃ y ∈ pre,y.frm=x.frm then (75,x.frm) else (0,[])
noncomputable def lK(c:bC):Er:=aV (jl c) [] c.links
noncomputable def kG(c:bC)(pre:List Str)(p:Str):Er:=if p ∉ dQ c/\p ∉ dU c then (73,p) else if p ∈ pre then (72,p) else (0,[])
noncomputable def wI(c:bC)(pre:List qx)(s:qx):Er:=
 if ¬ iR s.name then (36,s.name) else if ∃ x ∈ pre,x.name=s.name then (72,s.name) else
 orE (aV (kG c) [] s.eX) (if dZ (fds c.fields) (nds s.whr) ≠ 0 then (77,s.name) else (0,[]))
noncomputable def nD(c:bC):Er:=aV (wI c) [] c.slices
noncomputable def fZ(c:bC):Er:=orE (jQ c) (orE (jL c) (orE (lJ c) (orE (ql c) (orE (lK c) (nD c)))))
end Go.Proofs.YtnlingegeangmaaGreatDoor
namespace Go.Proofs.YtnlingegeangmaaGreatDoor
open Go Go.Vx
def iO(s:Str):List Str->Nat->Int
 | [],_=>-1
 | x :: l,k=>if x=s then (k:Int) else iO s l (k+1)
def plc(l:List Str)(s:Str):Int:=iO s l 0
theorem Ea(s:Str):∀ (l:List Str) (k:Nat),(iO s l k<0 ↔ s ∉ l)/\-1<=iO s l k/\(s ∈ l->(k:Int)<=iO s l k)/\iO s l k<(k+l.length:Nat)/\(s ∈ l->l[(iO s l k).toNat - k]? = some s)/\∀ i:Nat,iO s l k<(k+i:Nat) ↔ s ∉ l\/s ∈ l.take i
 | [],k=>⟨by simp[iO],by simp[iO],sI,by simp[iO];omega,sI,fun i=>by simp[iO];omega⟩
 | x :: l,k=>by
  unfold iO;split
  . rename_i h
    subst h;refine⟨⟨fun h=>absurd h oA,fun h=>absurd (List.mem_cons_self) h⟩,oA,fun _=>by omega,by simp;omega,fun _=>by simp,fun i=>?_⟩
    cases i with
    | zero=>simp
    | succ i=>
     simp;omega
  . rename_i h
    obtain⟨h1,h2,h3,h4,h5,h6⟩:=Ea s l (k+1);have hne:¬ s=x:=fun e=>h e.symm
    refine⟨by rw[h1];simp[hne],h2,fun hm=>?_,by simp at h4 ⊢;omega,fun hm=>?_,fun i=>?_⟩
    . have:=h3 (by simpa[hne] using hm)
      omega
    . have hm':s ∈ l:=by simpa[hne] using hm
      have:=h3 hm';have h7:=h5 hm';rw[show (iO s l (k+1)).toNat - k=((iO s l (k+1)).toNat - (k+1))+1 by omega,List.getElem?_cons_succ];exact h7
    . cases i with
      | zero=>
       simp only[List.take_zero,List.not_mem_nil,or_false,Nat.add_zero,List.mem_cons,not_or];constructor
       . intro hx
         refine⟨hne,fun hm=>?_⟩;have:=h3 hm;omega
       . rintro⟨_,hm⟩
         have:=h1.2 hm;omega
      | succ i=>
       rw[show k+(i+1)=k+1+i by omega,h6 i];simp[hne]
theorem A8(l:List Str)(s:Str):plc l s<l.length:=by
 have:=(Ea s l 0).2.2.2.1;rw[Nat.zero_add] at this;exact this
theorem rD{l:List Str}{s:Str}(h:s ∈ l):0<=plc l s/\l[(plc l s).toNat]? = some s:=by
 have h1:=(Ea s l 0).2.2.1 h;have h2:=(Ea s l 0).2.2.2.2.1 h;rw[Nat.sub_zero] at h2;exact⟨h1,h2⟩
end Go.Proofs.YtnlingegeangmaaGreatDoor
namespace Go.Vx
open Go.RowKit
abbrev aH:=List (Nat × Obj)
def Fr.with(F:Fr)(M:aH):Fr:={ F with kp:=M++F.kp }
structure dD(sz:TypeId->Nat)(w0:World)(F:Fr)(V:Vw)(μ:List Nat)(ω:List Value)(s:St)(a:Act)(w:World)(H M:aH):Prop where
 sim:Sim sz w0 (F.with M) V μ ω s a w
 nodup:((M++F.kp).map (·.1)).Nodup
 old:∀ x ∈ H,w0.heap[x.1]? = some x.2
structure OkM(P:Program)(T:Tab)(H:aH)(c:Code)(Q:Exit->St->aH->Prop)(s:St)(M:aH):Prop where
 run:∀ (w0:World) (F:Fr) (V:Vw) (μ:List Nat) (ω:List Value) (a:Act) (w:World),dD (ah T) w0 F V μ ω s a w H M ->
  c.wp P (fun e a' w'=>∃ s' V' μ' ω' M',Q e s' M'/\dD (ah T) w0 F V' μ' ω' s' a' w' H M') a w
section
variable {P : Program} {T : Tab} {H M : aH} {s : St} {Q : Exit → St → aH → Prop}
theorem OkM.aB{c:Code}(h:Ok P T c (fun e s'=>Q e s' M) s):OkM P T H c Q s M:=by
 refine⟨fun w0 F V μ ω a w hS=>wp_mono (h.run w0 (F.with M) V μ ω a w hS.sim) ?_⟩;rintro e a' w' ⟨s',V',μ',ω',hk,hS'⟩;exact⟨s',V',μ',ω',M,hk,hS',hS.nodup,hS.old⟩
def J9(N:St->aH->Prop)(Q:Exit->St->aH->Prop):Exit->St->aH->Prop
 | .normal,s,M=>N s M
 | e,s,M=>Q e s M
theorem OkM.seq{x y:Code}(h:OkM P T H x (J9 (OkM P T H y Q) Q) s M):OkM P T H (.seq x y) Q s M:=by
 refine⟨fun w0 F V μ ω a w hS=>wp_seq (wp_mono (h.run w0 F V μ ω a w hS) ?_)⟩;rintro e a' w' ⟨s',V',μ',ω',M',hk,hS'⟩
 cases e with
 | normal=>exact OkM.run hk w0 F V' μ' ω' a' w' hS'
 | _=>exact⟨s',V',μ',ω',M',hk,hS'⟩
theorem OkM.skip(h:Q .normal s M):OkM P T H .skip Q s M:=⟨fun _ _ V μ ω _ _ hS=>wp_skip ⟨s,V,μ,ω,M,h,hS⟩⟩
theorem OkM.ret(h:Q .ret s M):OkM P T H .ret Q s M:=⟨fun _ _ V μ ω _ _ hS=>wp_ret ⟨s,V,μ,ω,M,h,hS⟩⟩
theorem OkM.exit{id:Nat}(h:Q (.exit id) s M):OkM P T H (.exit id) Q s M:=⟨fun _ _ V μ ω _ _ hS=>wp_exit ⟨s,V,μ,ω,M,h,hS⟩⟩
def TA(id:Nat)(Q:Exit->St->aH->Prop):Exit->St->aH->Prop
 | .exit id',s,M=>match Nat.beq id' id with|true=>Q .normal s M|false=>Q (.exit id') s M
 | e,s,M=>Q e s M
theorem OkM.block{id:Nat}{c:Code}(h:OkM P T H c (TA id Q) s M):OkM P T H (.block id c) Q s M:=by
 refine⟨fun w0 F V μ ω a w hS=>?_⟩;refine wp_block (wp_mono (h.run w0 F V μ ω a w hS) ?_);rintro e a' w' ⟨s',V',μ',ω',M',hk,hS'⟩
 cases e with
 | exit id'=>
  simp only[TA] at hk;simp only[Exit.inBlock];split at hk
  . rename_i hb
    rw[if_pos (dO hb)];exact⟨s',V',μ',ω',M',hk,hS'⟩
  . rename_i hb
    rw[if_neg (by rintro rfl;rw[Nat.beq_refl] at hb;cases hb)];exact⟨s',V',μ',ω',M',hk,hS'⟩
 | _=>exact⟨s',V',μ',ω',M',hk,hS'⟩
theorem dD.of{sz:TypeId->Nat}{w0 w w':World}{F:Fr}{V V':Vw}{μ μ':List Nat}{ω ω':List Value}{s s':St}{a a':Act}(h:dD sz w0 F V μ ω s a w H M)(h':Sim sz w0 (F.with M) V' μ' ω' s' a' w'):dD sz w0 F V' μ' ω' s' a' w' H M:=
 ⟨h',h.nodup,h.old⟩
theorem dD.sub{sz:TypeId->Nat}{w0 w:World}{F:Fr}{V:Vw}{μ:List Nat}{ω:List Value}{a:Act}{M':aH}(h:dD sz w0 F V μ ω s a w H M)(hs:M'.Sublist M):dD sz w0 F V μ ω s a w H M':=by
 have hm:∀ x ∈ M'++F.kp,x ∈ M++F.kp:=fun x hx=>by
  rcases bQ.1 hx with hx|hx
  . exact List.mem_append_left _ (hs.subset hx)
  . exact List.mem_append_right _ hx
 obtain⟨ms,e1,e2,e3⟩:=h.sim.defers.marks;exact⟨⟨h.sim.tmps,⟨⟨ms,e1,e2,fun D hD=>⟨(e3 D hD).1,(e3 D hD).2.1,fun x hx=>(e3 D hD).2.2 x (hm x hx)⟩⟩,fun x hx=>h.sim.defers.kept x (hm x hx)⟩,h.sim.env,h.sim.mem.fr rfl⟩,h.nodup.sublist ((hs.append (List.Sublist.refl _)).map _),h.old⟩
theorem OkM.cond{c:Operand}{x y:Code}(h:yX s c (fun s=>OkM P T H x Q s M) (fun s=>OkM P T H y Q s M)):OkM P T H (.cond c x y) Q s M:=by
 refine⟨fun w0 F V μ ω a w hS=>?_⟩;have hc:=hS.sim.get c;unfold yX at h;split at h
 . rename_i hd;rw[hd] at hc;exact wp_cond_true hc.tt_ (h.run w0 F V μ ω a w hS)
 . rename_i hd;rw[hd] at hc;exact wp_cond_false hc.ff_ (h.run w0 F V μ ω a w hS)
 . rename_i p hd
   rw[hd] at hc;obtain⟨b,hb,hbp⟩:=hc.bool
   cases b with
   | true=>exact wp_cond_true hb ((h.1 (hbp.1 rfl)).run w0 F V μ ω a w (hS.of (hS.sim.know c (by rw[hb];exact .imm _ _ .tt))))
   | false=>exact wp_cond_false hb ((h.2 (fun hp=>by simpa using hbp.2 hp)).run w0 F V μ ω a w (hS.of (hS.sim.know c (by rw[hb];exact .imm _ _ .ff))))
 . exact h.elim
theorem OkM.oJ{c:Code}{ι:Type}(L:List Nat)(k kb:Nat)(mk:ι->St)(mo:ι->aH)(I:ι->Prop)(m:ι->Nat)(x0:ι)(h0:I x0)(hm:(mo x0).Sublist M)(hs:dN L k kb s (·=mk x0))
    (round:∀ x,I x->OkM P T H c (J9 (fun s' M'=>∃ x',m x' < m x/\I x'/\(mo x').Sublist M'/\dN L k kb s' (·=mk x')) Q) (mk x) (mo x)):OkM P T H (.loop c) Q s M:=by
 refine⟨fun w0 F V μ ω a w hS=>?_⟩;replace hS:=hS.sub hm;obtain⟨s',μ',ω',rfl,hS'⟩:=og hS.sim hs;refine Ht (fun n a w=>∃ x V μ ω,m x=n/\I x/\dD (ah T) w0 F V μ ω (mk x) a w H (mo x)) ?_ ⟨x0,V,μ',ω',rfl,h0,hS.of hS'⟩;rintro n a w ⟨x,V,μ,ω,rfl,hI,hS⟩;refine wp_mono ((round x hI).run w0 F V μ ω a w hS) ?_;rintro e a' w' ⟨s',V',μ',ω',M',hk,hS'⟩
 cases e with
 | normal=>
  obtain⟨x',hlt,hI',hsb,hk⟩:=hk;replace hS':=hS'.sub hsb;obtain⟨s2,μ2,ω2,rfl,hS2⟩:=og hS'.sim hk;exact⟨m x',hlt,x',V',μ2,ω2,rfl,hI',hS'.of hS2⟩
 | _=>exact⟨s',V',μ',ω',M',hk,hS'⟩
theorem OkM.aT{c:Code}{ι:Type}(L Cs:List Nat)(k kb:Nat)(C:ι->List D)(B:ι->List (List D)->List (List D))(R:ι->Rows->Rows)(mo:ι->aH)(I:ι->Prop)(m:ι->Nat)(x0:ι)(h0:I x0)(hm:(mo x0).Sublist M)
    (h:dN L k kb s fun s0=>match s0 with
     | ⟨env,box,row,n⟩=>(dN (je Cs L) k kb s fun s1=>s1=⟨ak Cs (C x0) env,B x0 box,R x0 row,n⟩) /\
      ∀ x,I x->mg Cs (C x) env fun env'=>OkM P T H c (J9 (fun s' M'=>∃ x',m x' < m x/\I x'/\(mo x').Sublist M'/\dN (je Cs L) k kb s' fun s1=>s1=⟨ak Cs (C x') env,B x' box,R x' row,n⟩) Q) ⟨env',B x box,R x row,n⟩ (mo x)):OkM P T H (.loop c) Q s M:=by
 obtain⟨⟨env,box,row,n⟩,h1,h2⟩:=sZ h;exact OkM.oJ (je Cs L) k kb (fun x=>⟨ak Cs (C x) env,B x box,R x row,n⟩) mo I m x0 h0 hm h1 fun x hx=>by
  have:=h2 x hx;rwa [qJ] at this
end
end Go.Vx
namespace Go.Vx
open Go.RowKit Go.MapKept
section
variable {κ α : Type} [DecidableEq κ]
def dB(k:κ):List (κ × α × Nat)->Nat->Option (Nat × α)
 | [],_=>none
 | e :: l,i=>if e.1=k then some (i,e.2.1) else dB k l (i+1)
def lk(l:List (κ × α × Nat))(k:κ):Option α:=(dB k l 0).map (·.2)
def aX(l:List (κ × α × Nat))(c:Nat)(k:κ)(a:α):List (κ × α × Nat) × Nat:=match dB k l 0 with
 | some (i,_)=>(l.modify i fun e=>(e.1,a,e.2.2),c)
 | none=>(l++[(k,a,c)],c+1)
def lT(l:List (κ × α × Nat))(k:κ):List (κ × α × Nat):=match dB k l 0 with
 | some (i,_)=>l.eraseIdx i
 | none=>l
noncomputable def dX(kd:κ->D)(f:Option α->D)(e:κ × α × Nat):MapEntry:=⟨toV (kd e.1),toV (f (some e.2.1)),e.2.2⟩
noncomputable def bG(kd:κ->D)(f:Option α->D)(l:List (κ × α × Nat))(c:Nat):Obj:=.map (l.map (dX kd f)).toArray c
structure FU(P:Program)(kt:TypeId)(kd:κ->D):Prop where
 check:∀ b k w,(Instr.checkKey b 10000 kt (toV (kd k))).run P w = .ok () w
 find:∀ {β:Type} (f:Option β->D) (l:List (κ × β × Nat)) (k:κ) (w:World),(Instr.findKey kt (toV (kd k)) (l.map (dX kd f))).run P w = .ok ((dB k l 0).map fun x=>(x.1,toV (f (some x.2)))) w
 stays:∀ k w,(Instr.keyThatStays (toV (kd k)) (toV (kd k))).run P w = .ok (toV (kd k)) w
 ground:∀ k,(kd k).fM=true
def stp(l:List (κ × α × Nat))(c:Nat)(k:κ):Nat:=match dB k l 0 with
 | some (i,_)=>((l[i]?).map (·.2.2)).getD 0
 | none=>c
theorem Aw{l:List (κ × α × Nat)}{k:κ}{i j:Nat}{x:α}(h:dB k l j=some (i,x)):j<=i/\∃ n,l[i - j]? = some (k,x,n):=by
 induction l generalizing i j x with
 | nil=>cases h
 | cons e l ih=>
  simp only[dB] at h;split at h
  . rename_i he
    cases h;exact⟨Nat.le_refl _,e.2.2,by simp[<- he]⟩
  . obtain⟨h1,n,h2⟩:=ih h
    refine⟨oA,n,?_⟩;rw[show i - j=(i - (j+1))+1 by omega,List.getElem?_cons_succ];exact h2
end
theorem keyS{P:Program}{kt:TypeId}(h:P.underlying kt=some .string):FU P kt (κ:=List UInt8) D.s:=by
 have hf:∀ {β:Type} (f:Option β->D) (k:List UInt8) (l:List (List UInt8 × β × Nat)) (i:Nat),Instr.findNow .string (toV (.s k)) (l.map (dX D.s f)) i=some ((dB k l i).map fun x=>(x.1,toV (f (some x.2)))):=by
  intro β f k l
  induction l with
  | nil=>intro i;rfl
  | cons e l ih=>
   intro i;obtain⟨k',b,n⟩:=e;simp only[List.map_cons,Instr.findNow,dX,toV,xq,Instr.sameNow,dB];by_cases hk:k'=k
   . subst hk
     rw[(bytes_beq (bK k') (bK k')).2 rfl,if_pos rfl];rfl
   . have:(bK k == bK k')=false:=by
       cases hb:bK k == bK k' with
       | false=>rfl
       | true=>exact absurd (Yl ((bytes_beq _ _).1 hb)).symm hk
     rw[this,if_neg hk];exact ih (i+1)
 refine⟨fun b k w=>?_,fun f l k w=>?_,fun k w=>?_,fun _=>rfl⟩
 . exact run_checkKey (d:=.string) (k:=.string (bK k)) h trivial b 9999
 . simp only[Instr.findKey,Sem.run_bind,dF h,Result.andThen_ok,hf,Sem.run_pure]
 . exact run_keyThatStays (d:=.string) (k:=.string (bK k)) trivial
theorem acD{P:Program}{kt:TypeId}{q:IntKind}(h:P.underlying kt=some (.int q)):FU P kt (κ:=Int) (D.i q):=by
 have hf:∀ {β:Type} (f:Option β->D) (k:Int) (l:List (Int × β × Nat)) (i:Nat),Instr.findNow (.int q) (toV (.i q k)) (l.map (dX (D.i q) f)) i=some ((dB k l i).map fun x=>(x.1,toV (f (some x.2)))):=by
  intro β f k l
  induction l with
  | nil=>intro i;rfl
  | cons e l ih=>
   intro i;obtain⟨k',b,n⟩:=e;simp only[List.map_cons,Instr.findNow,dX,toV,xq,Instr.sameNow,dB,if_true];by_cases hk:k'=k
   . subst hk;simp
   . have:(k == k')=false:=by
       rw[beq_eq_false_iff_ne];exact fun e=>hk e.symm
     rw[this,if_neg hk];exact ih (i+1)
 refine⟨fun b k w=>?_,fun f l k w=>?_,fun k w=>?_,fun _=>rfl⟩
 . exact run_checkKey (d:=.int q) (k:=.int q k) h rfl b 9999
 . simp only[Instr.findKey,Sem.run_bind,dF h,Result.andThen_ok,hf,Sem.run_pure]
 . exact run_keyThatStays (d:=.int q) (k:=.int q k) rfl
theorem Pe{β γ:Type}(h:β->γ):∀ (l:List β) (i:Nat),(l.map h).eraseIdx i=(l.eraseIdx i).map h
 | [],_=>rfl
 | _ :: _,0=>rfl
 | x :: l,i+1=>by simp only[List.map_cons,List.eraseIdx_cons_succ,Pe h l i]
structure MTy(P:Program)(t:TypeId){κ α:Type}[DecidableEq κ](kd:κ->D)(f:Option α->D):Prop where
 und:∃ kt et,P.underlying t=some (.map kt et)/\FU P kt kd/\∀ w,(zeroValue et).run P w = .ok (toV (f none)) w
 vg:∀ o,(f o).fM=true
section
variable {P : Program} {t : TypeId} {κ α : Type} [DecidableEq κ] {kd : κ → D} {f : Option α → D} {w : World} {g : Nat} {l : List (κ × α × Nat)} {c : Nat} {k : κ} {a0 : α}
theorem uY{r:Nat}{es:Array MapEntry}{clock:Nat}(o:Obj)(hb:w.heap[r]? = some (.map es clock)):(setObj r o).run P w = .ok () (w.putObj r o):=
 run_setObj_map o hb
theorem MTy.lookup(h:MTy P t kd f)(hb:w.heap[g]? = some (bG kd f l c))(k:κ)(ok:Bool) :
    (Instr.lookup t (.map (some g)) (toV (kd k)) ok).run P w = .ok (if ok then .tuple #[toV (f (lk l k)),.bool (lk l k).isSome] else toV (f (lk l k))) w:=by
 obtain⟨⟨kt,et,hu,hk,hz⟩,_⟩:=h;simp only[Instr.lookup,Sem.run_bind,dF hu,Result.andThen_ok,getObj,Sem.run,hb,bG,Result.andThen,Sem.run_pure,hk.check,hk.find,lk]
 cases hm:dB k l 0 with
 | none=>simp[hz]
 | some x=>simp
theorem MTy.update(h:MTy P t kd f)(hb:w.heap[g]? = some (bG kd f l c))(k:κ)(a:α) :
    (Instr.mapUpdate t (.map (some g)) (toV (kd k)) (toV (f (some a)))).run P w = .ok () (w.putObj g (bG kd f (aX l c k a).1 (aX l c k a).2)):=by
 obtain⟨⟨kt,et,hu,hk,hz⟩,_⟩:=h;simp only[Instr.mapUpdate,Sem.run_bind,dF hu,Result.andThen_ok,getObj,Sem.run,hb,bG,Result.andThen,Sem.run_pure,hk.check,hk.find,aX];have hat:∀ {l:List (κ × α × Nat)} {i j:Nat} {x:α},dB k l j=some (i,x)->j<=i/\∃ n,l[i - j]? = some (k,x,n):=by
  intro l
  induction l with
  | nil=>intro i j x h;cases h
  | cons e l ih=>
   intro i j x h;simp only[dB] at h;split at h
   . rename_i he
     cases h;exact⟨Nat.le_refl _,e.2.2,by simp[<- he]⟩
   . obtain⟨h1,n,h2⟩:=ih h
     refine⟨oA,n,?_⟩;rw[show i - j=(i - (j+1))+1 by omega,List.getElem?_cons_succ];exact h2
 cases hm:dB k l 0 with
 | none=>
  simp only[Option.map_none];rw[uY _ hb];congr 3;simp[dX]
 | some x=>
  obtain⟨i,x⟩:=x;obtain⟨_,n,hi⟩:=hat hm;simp only[Option.map_some,Nat.sub_zero] at hi ⊢;have hi2:(l.map (dX kd f)).toArray[i]? = some ⟨toV (kd k),toV (f (some x)),n⟩:=by simp[hi,dX]
  simp only[hi2,Option.map_some,Option.getD_some,hk.stays,Sem.run_bind,Result.andThen];rw[uY _ hb];congr 3;apply Array.ext';simp only[Array.toList_modify];apply List.ext_getElem?;intro j;simp only[List.getElem?_modify,aN];by_cases hj:i=j
  . subst hj
    simp[hi,dX]
  . simp[hj]
theorem MTy.delete(h:MTy P t kd f)(hb:w.heap[g]? = some (bG kd f l c))(k:κ)(t2 ty:TypeId) :
    (Builtin.delete_ #[t,t2] ty #[.map (some g),toV (kd k)]).run P w = .ok (.tuple #[]) (w.putObj g (bG kd f (lT l k) c)):=by
 obtain⟨⟨kt,et,hu,hk,hz⟩,_⟩:=h;have e1:(#[t,t2]:Array TypeId)[0]? = some t:=rfl;have e2:(#[Value.map (some g),toV (kd k)]:Array Value)[0]? = some (.map (some g)):=rfl;have e3:(#[Value.map (some g),toV (kd k)]:Array Value)[1]? = some (toV (kd k)):=rfl;simp only[Builtin.delete_,e1,e2,e3,Sem.run_bind,dF hu,Result.andThen_ok,getObj,Sem.run,hb,bG,Result.andThen,Sem.run_pure,hk.check,hk.find,lT]
 cases hm:dB k l 0 with
 | none=>
  simp only[Option.map_none,Sem.run_bind,uY (P:=P) _ hb,Result.andThen,Sem.run_pure]
 | some x=>
  simp only[Option.map_some,Sem.run_bind,uY (P:=P) _ hb,Result.andThen,Sem.run_pure];congr 3;apply Array.ext';simp[Array.eraseIdxIfInBounds];split
  . exact Pe _ _ _
  . rename_i hlt
    rw[List.eraseIdx_of_length_le oA]
theorem MTy.make(h:MTy P t kd f)(w:World):(Instr.makeMap t none).run P w = .ok (.map (some w.heap.size)) (w.alloc (bG kd f [] 0)):=by
 simp only[Instr.makeMap,Sem.run_bind,run_newObj,Sem.run_pure,Result.andThen,bG,List.map_nil];rfl
theorem MTy.entry(h:MTy P t kd f)(hb:w.heap[g]? = some (bG kd f l c))(k:κ){z:α}(hz0:f (some z)=f none) :
    (Instr.mapEntry t (.map (some g)) (toV (kd k))).run P w = .ok (.tuple #[toV (f (lk l k)),goInt (stp l c k)]) (w.putObj g (bG kd f (aX l c k ((lk l k).getD z)).1 (aX l c k ((lk l k).getD z)).2)):=by
 obtain⟨⟨kt,et,hu,hk,hz⟩,_⟩:=h;simp only[Instr.mapEntry,Sem.run_bind,dF hu,Result.andThen_ok,getObj,Sem.run,hb,bG,Result.andThen,Sem.run_pure,hk.check,hk.find,aX,lk,stp]
 cases hm:dB k l 0 with
 | none=>
  simp only[Option.map_none,Option.getD_none,Sem.run_bind,hz,Result.andThen_ok];rw[uY _ hb];simp only[Result.andThen_ok,Sem.run_pure];congr 3;simp[dX,hz0]
 | some x=>
  obtain⟨i,x⟩:=x;obtain⟨_,n,hi⟩:=Aw hm;simp only[Option.map_some,Nat.sub_zero,Option.getD_some] at hi ⊢;have hi2:(l.map (dX kd f)).toArray[i]? = some ⟨toV (kd k),toV (f (some x)),n⟩:=by simp[hi,dX]
  simp only[hi2,Option.map_some,Option.getD_some,hk.stays,Sem.run_bind,Result.andThen,hi];rw[uY _ hb];simp only[Result.andThen_ok,Sem.run_pure];congr 3;apply Array.ext';simp only[Array.toList_modify];apply List.ext_getElem?;intro j;simp only[List.getElem?_modify,aN];by_cases hj:i=j
  . subst hj
    simp[hi,dX]
  . simp[hj]
theorem aaC(hnd:(l.map fun e=>e.2.2).Nodup)(hlt:∀ e ∈ l,e.2.2<c)(k:κ)(a0:α):∃ i,(aX l c k a0).1[i]? = some (k,a0,stp l c k)/\(∀ j e,(aX l c k a0).1[j]? = some e->e.2.2=stp l c k->j=i)/\∀ a,(aX l c k a0).1.modify i (fun e=>(e.1,a,e.2.2))=(aX l c k a).1:=by
 unfold aX stp
 cases hm:dB k l 0 with
 | none=>
  refine⟨l.length,sI,fun j e hj he=>?_,fun a=>?_⟩
  . simp only at hj he
    rw[List.getElem?_append] at hj;split at hj
    . have:=hlt e (aU hj)
      omega
    . rename_i h1
      have:=(aK.1 hj).1;simp at this;omega
  . simp only
    apply List.ext_getElem?;intro j;simp only[List.getElem?_modify,List.getElem?_append];by_cases hj:j<l.length
    . have h1:¬ l.length=j:=oA
      simp[hj,h1]
    . by_cases h2:l.length=j
      . subst h2;simp
      . have h3:[(k,a0,c)][j - l.length]? = none:=List.getElem?_eq_none sO
        have h4:[(k,a,c)][j - l.length]? = none:=List.getElem?_eq_none sO;simp[hj,h2,h3,h4]
 | some x=>
  obtain⟨i,x⟩:=x;obtain⟨_,n,hi⟩:=Aw hm;simp only[Nat.sub_zero] at hi;refine⟨i,by simp[hi],fun j e hj he=>?_,fun a=>?_⟩
  . simp only[hi,Option.map_some,Option.getD_some] at he
    simp only[List.getElem?_modify] at hj;obtain⟨e0,he0,hee⟩:=Option.map_eq_some_iff.1 hj;have h1:(l.map fun e=>e.2.2)[j]? = some n:=by
     rw[aN,he0];rw[<- he,<- hee];split<;>rfl
    have h2:(l.map fun e=>e.2.2)[i]? = some n:=by rw[aN,hi];rfl
    exact (List.getElem?_inj (aK.1 h1).1 hnd).1 (h1.trans h2.symm)
  . simp only
    apply List.ext_getElem?;intro j;simp only[List.getElem?_modify];by_cases hj:i=j
    . subst hj;simp[hi]
    . simp[hj]
theorem MTy.Y0(hb:w.heap[g]? = some (bG kd f (aX l c k a0).1 (aX l c k a0).2))(hnd:(l.map fun e=>e.2.2).Nodup)(hlt:∀ e ∈ l,e.2.2<c)(a:α) :
    (Instr.entryStore t (.map (some g)) (goInt (stp l c k)) (toV (f (some a)))).run P w = .ok () (w.putObj g (bG kd f (aX l c k a).1 (aX l c k a).2)):=by
 obtain⟨i,h1,h2,h3⟩:=aaC hnd hlt k a0;have hc:(aX l c k a0).2=(aX l c k a).2:=by unfold aX;split<;>rfl
 have hidx:((aX l c k a0).1.map (dX kd f)).toArray.findIdx? (fun e=>(e.born:Int) == ((stp l c k:Nat):Int))=some i:=by
  have hlt:=(aK.1 h1).1;rw[Array.findIdx?_eq_some_iff_getElem];refine⟨by simpa using hlt,?_,fun j hj=>?_⟩
  . have:=(aK.1 h1).2
    simp[dX,this]
  . simp only[List.getElem_toArray,List.getElem_map,dX,beq_iff_eq]
    intro he;have:=h2 j _ (aC oA) (by exact_mod_cast he);omega
 simp only[Instr.entryStore,goInt,asInt,asIntOf,Sem.run_bind,Result.andThen_ok,getObj,Sem.run,hb,bG,Result.andThen,Sem.run_pure,hidx];rw[uY _ hb];congr 3
 . apply Array.ext'
   simp only[Array.toList_modify];rw[<- h3 a];apply List.ext_getElem?;intro j;simp only[List.getElem?_modify,aN];by_cases hj:i=j
   . subst hj
     simp[h1,dX]
   . simp[hj]
end
end Go.Vx
namespace Go.Vx
open Go.RowKit
section
variable {sz : TypeId → Nat} {w0 w : World} {F : Fr} {V : Vw} {μ : List Nat} {ω : List Value} {s : St} {a : Act} {H M : aH}
theorem dD.kept(h:dD sz w0 F V μ ω s a w H M){x:Nat × Obj}(hx:x ∈ M):w.heap[x.1]? = some x.2/\noC x.2/\w0.heap.size<=x.1:=h.sim.defers.kept x (List.mem_append_left _ hx)
theorem dD.read(h:dD sz w0 F V μ ω s a w H M){x:Nat × Obj}(hx:x ∈ H++M):w.heap[x.1]? = some x.2:=by
 rcases bQ.1 hx with hx|hx
 . have ho:=h.old x hx
   rw[h.sim.mem.below.block x.1 (Array.getElem?_eq_some_iff.1 ho).1];exact ho
 . exact (h.kept hx).1
theorem dD.new(h:dD sz w0 F V μ ω s a w H M)(o:Obj)(hn:noC o):dD sz w0 F V μ ω s a (w.alloc o) H ((w.heap.size,o) :: M):=by
 have hS:=h.sim.ext (Ext.alloc w o);have hlt:∀ x ∈ M++F.kp,x.1<w.heap.size:=fun x hx=>(Array.getElem?_eq_some_iff.1 (h.sim.defers.kept x hx).1).1
 obtain⟨ms,e1,e2,e3⟩:=h.sim.defers.marks;refine⟨⟨hS.tmps,⟨⟨ms,e1,e2,fun D hD=>?_⟩,fun x hx=>?_⟩,hS.env,hS.mem.fr rfl⟩,?_,h.old⟩
 . obtain⟨f1,f2,f3⟩:=e3 D hD
   refine⟨(Ext.alloc w o).heap f1,f2,fun x hx=>?_⟩;rcases List.mem_cons.1 hx with rfl|hx
   . have:=(Array.getElem?_eq_some_iff.1 f1).1
     show w.heap.size ≠ D;omega
   . exact f3 x hx
 . rcases List.mem_cons.1 hx with rfl|hx
   . exact⟨heap_alloc_new w o,hn,h.sim.mem.below.size⟩
   . obtain⟨f1,f2,f3⟩:=h.sim.defers.kept x hx
     exact⟨(Ext.alloc w o).heap f1,f2,f3⟩
 . simp only[List.cons_append,List.map_cons,List.nodup_cons]
   refine⟨fun hm=>?_,h.nodup⟩;obtain⟨x,hx,e⟩:=List.mem_map.1 hm;have:=hlt x hx;omega
theorem dD.put(h:dD sz w0 F V μ ω s a w H M){n g:Nat}{o:Obj}(o':Obj)(hn:noC o')(hg:M[n]? = some (g,o)):dD sz w0 F V μ ω s a (w.putObj g o') H (M.set n (g,o')):=by
 obtain⟨k1,k2,k3⟩:=h.kept (aU hg);have hlt:g<w.heap.size:=(Array.getElem?_eq_some_iff.1 k1).1;have hnl:n<M.length:=(aK.1 hg).1;obtain⟨ms,e1,e2,e3⟩:=h.sim.defers.marks;have hkeys:(M.set n (g,o')).map (·.1)=M.map (·.1):=by
  rw[List.map_set];apply List.ext_getElem?;intro j;by_cases hj:n=j
  . subst hj
    rw[List.getElem?_set_self (by simpa using hnl),aN,hg];rfl
  . rw[List.getElem?_set_ne hj]
 have hother:∀ j x,(M++F.kp)[j]? = some x->j ≠ n->x.1 ≠ g:=by
  intro j x hx hj e;have hnd:=h.nodup;have h1:((M++F.kp).map (·.1))[j]? = some g:=by rw[aN,hx,<- e];rfl
  have h2:((M++F.kp).map (·.1))[n]? = some g:=by rw[aN,List.getElem?_append_left hnl,hg];rfl
  exact hj ((List.getElem?_inj (aK.1 h1).1 hnd).1 (h1.trans h2.symm))
 have hk:∀ x ∈ M.set n (g,o')++F.kp,(w.putObj g o').heap[x.1]? = some x.2/\noC x.2/\w0.heap.size<=x.1:=by
  intro x hx;obtain⟨j,hj⟩:=List.getElem?_of_mem hx;by_cases hjn:j=n
  . subst hjn
    rw[List.getElem?_append_left (by simpa using hnl),List.getElem?_set_self hnl] at hj;cases hj;exact⟨World.putObj_heap_same hlt,hn,k3⟩
  . have hj2:(M++F.kp)[j]? = some x:=by
      rw[List.getElem?_append] at hj ⊢;simp only[List.length_set,List.getElem?_set_ne (Ne.symm hjn)] at hj;exact hj
    obtain⟨f1,f2,f3⟩:=h.sim.defers.kept x (aU hj2);exact⟨(World.putObj_heap_other (hother j x hj2 hjn)).trans f1,f2,f3⟩
 refine⟨⟨h.sim.tmps,⟨⟨ms,e1,e2,fun D hD=>?_⟩,hk⟩,h.sim.env,(h.sim.mem.PX o' k1 k2 k3).fr rfl⟩,?_,h.old⟩
 . obtain⟨f1,f2,f3⟩:=e3 D hD
   have hDg:D ≠ g:=fun e=>f3 (g,o) (List.mem_append_left _ (aU hg)) e.symm
   refine⟨(World.putObj_heap_other hDg).trans f1,f2,fun x hx e=>?_⟩;obtain⟨j,hj⟩:=List.getElem?_of_mem (show x ∈ M.set n (g,o')++F.kp from hx);by_cases hjn:j=n
   . subst hjn
     rw[List.getElem?_append_left (by simpa using hnl),List.getElem?_set_self hnl] at hj;cases hj;exact hDg e.symm
   . refine f3 x (aU (i:=j) ?_) e
     show (M++F.kp)[j]? = some x;rw[List.getElem?_append] at hj ⊢;simp only[List.length_set,List.getElem?_set_ne (Ne.symm hjn)] at hj;exact hj
 . rw[List.map_append,hkeys,<- List.map_append]
   exact h.nodup
theorem yI(es:Array MapEntry)(c:Nat):noC (.map es c):=fun _ _ _ e=>by cases e
theorem Qs(m:Option Nat)(b:Nat)(seen:Array Nat)(c:Nat):noC (.mapIter m b seen c):=fun _ _ _ e=>by cases e
end
end Go.Vx
namespace Go.Vx
open Go.RowKit
structure dL(P:Program)(T:Tab)(H:aH)(f:FuncId)(ds:List D)(R:D->Rows->aH->Prop):Prop where
 call:∀ args w,(callFunc f args).run P w = .ok (.enter f args) w
 run:∀ (V:Vw) (w:World) (args:Array Value),VOk V w->(∀ x ∈ H,w.heap[x.1]? = some x.2)->args.size=ds.length->(∀ (j:Nat) v d,args[j]? = some v->ds[j]? = some d->RI (ah T) V v d) ->
  Calls P f args w fun e w'=>∃ V' ω row v d M,e = .returned v/\R d row M/\RS (ah T) V' [] ω v d/\Res (ah T) V V' ω row w w'/\(∀ x ∈ M,w'.heap[x.1]? = some x.2/\noC x.2/\w.heap.size<=x.1)/\(M.map (·.1)).Nodup
section
variable {P : Program} {T : Tab} {H M : aH} {s : St}
theorem dL.nil{f:FuncId}{ds:List D}{R:D->Rows->Prop}(h:dL P T [] f ds (fun d rows _=>R d rows)):aF P T f ds R:=by
 refine⟨h.call,fun V w args hV hl hR=>(h.run V w args hV sI hl hR).mono ?_⟩;rintro e w' ⟨V',ω,row,v,d,M,h1,h2,h3,h4,_⟩;exact⟨V',ω,row,v,d,h1,h2,h3,h4⟩
theorem dL.mono{f:FuncId}{ds:List D}{R R':D->Rows->aH->Prop}(h:dL P T H f ds R)(hR:∀ d rows M,R d rows M->R' d rows M):dL P T H f ds R':=
 ⟨h.call,fun V w args hV hH hl hr=>(h.run V w args hV hH hl hr).mono fun _ _ ⟨V',ω,row,v,d,M,h1,h2,h3⟩=>⟨V',ω,row,v,d,M,h1,hR _ _ _ h2,h3⟩⟩
theorem dL.more{H':aH}{f:FuncId}{ds:List D}{R:D->Rows->aH->Prop}(h:dL P T H f ds R)(hH:∀ x ∈ H,x ∈ H'):dL P T H' f ds R:=
 ⟨h.call,fun V w args hV hx hl hr=>h.run V w args hV (fun x hm=>hx x (hH x hm)) hl hr⟩
def Uy(T:Tab)(fn:Func)(R:D->Rows->aH->Prop):Exit->St->aH->Prop
 | .normal,s,M=>qo T fn (fun d rows=>R d rows M) s
 | .ret,s,M=>qo T fn (fun d rows=>R d rows M) s
 | _,_,_=>False
theorem dL.aB(hT:TOk P T){f:FuncId}{fn:Func}{c:Code}(hf:P.funcs[f]? = some fn)(hb:fn.body=some c)(hcall:∀ args w,(callFunc f args).run P w = .ok (.enter f args) w){ds:List D}{R:D->Rows->aH->Prop}(hn:ds.length<=fn.ntmps)
    (h:OkM P T H c (Uy T fn R) ⟨fO 0 ds,[],[],fn.ntmps⟩ []):dL P T H f ds R:=by
 refine⟨hcall,fun V w args hV hH hl hR=>uZ hf hb ?_⟩;refine wp_mono (h.run w ⟨V,fun _=>undef,[],[],[]⟩ V [] [] _ w ⟨Ik hn hV hl hR,sI,hH⟩) ?_;rintro e a' w' ⟨s',V',μ',ω',M',hq,hS'⟩;have fin:qo T fn (fun d rows=>R d rows M') s'->LeavesInM Fence.wide 0 P fn a'.tmps (fun e w'=>∃ V' ω row v' d M,e = .returned v'/\R d row M/\RS (ah T) V' [] ω v' d/\Res (ah T) V V' ω row w w'/\(∀ x ∈ M,w'.heap[x.1]? = some x.2/\noC x.2/\w.heap.size<=x.1)/\(M.map (·.1)).Nodup) a'.defers .returning w':=by
  intro hr;obtain⟨ms',e1,e2,e3,hS2⟩:=hS'.sim.shut;rw[e1];have e4:ms'.map mkD++[]=ms'.map mkD:=List.append_nil _;show LeavesInM _ _ _ _ _ _ (ms'.map mkD++[]) _ _;rw[e4];refine tZ sI ms' w' e2 e3 ?_;obtain⟨v,hv,V2,ω2,row,v',d,h1,h2,h3,h4⟩:=Na hT rfl hS2 hr;exact⟨v,hv,V2,ω2,row,v',d,M',h1,h2,h3,h4,fun x hx=>hS2.defers.kept x (List.mem_append_left _ hx),by have:=hS'.nodup;simpa using this⟩
 cases e<;>simp only[Uy] at hq
 . exact fin hq
 . exact fin hq
def Ua(T:Tab)(fn:Func)(R:D->Rows->Prop):Exit->St->aH->Prop
 | .normal,s,_=>qo T fn R s
 | .ret,s,_=>qo T fn R s
 | _,_,_=>False
theorem dL.oI(hT:TOk P T){f:FuncId}{fn:Func}{c:Code}(hf:P.funcs[f]? = some fn)(hb:fn.body=some c)(hcall:∀ args w,(callFunc f args).run P w = .ok (.enter f args) w){ds:List D}{R:D->Rows->Prop}(hn:ds.length<=fn.ntmps)
    (h:OkM P T H c (Ua T fn R) ⟨fO 0 ds,[],[],fn.ntmps⟩ []):dL P T H f ds (fun d rows M=>R d rows/\M=[]):=by
 refine⟨hcall,fun V w args hV hH hl hR=>uZ hf hb ?_⟩;refine wp_mono (h.run w ⟨V,fun _=>undef,[],[],[]⟩ V [] [] _ w ⟨Ik hn hV hl hR,sI,hH⟩) ?_;rintro e a' w' ⟨s',V',μ',ω',M',hq,hS'⟩;replace hS':=hS'.sub (List.nil_sublist _);have fin:qo T fn R s'->LeavesInM Fence.wide 0 P fn a'.tmps (fun e w'=>∃ V' ω row v' d,∃ M:aH,e = .returned v'/\(R d row/\M=[])/\RS (ah T) V' [] ω v' d/\Res (ah T) V V' ω row w w'/\(∀ x ∈ M,w'.heap[x.1]? = some x.2/\noC x.2/\w.heap.size<=x.1)/\(M.map (·.1)).Nodup) a'.defers .returning w':=by
  intro hr;obtain⟨ms',e1,e2,e3,hS2⟩:=hS'.sim.shut;rw[e1];have e4:ms'.map mkD++[]=ms'.map mkD:=List.append_nil _;show LeavesInM _ _ _ _ _ _ (ms'.map mkD++[]) _ _;rw[e4];refine tZ sI ms' w' e2 e3 ?_;obtain⟨v,hv,V2,ω2,row,v',d,h1,h2,h3,h4⟩:=Na hT rfl hS2 hr;exact⟨v,hv,V2,ω2,row,v',d,[],h1,⟨h2,rfl⟩,h3,h4,sI,sI⟩
 cases e<;>simp only[Ua] at hq
 . exact fin hq
 . exact fin hq
end
def noK(M:aH)(g:Nat):Prop:=∀ x ∈ M,x.1 ≠ g
def xJ:aH->Nat->Nat × Obj->(aH->Prop)->Prop
 | [],_,_,K=>K []
 | _ :: M,0,x,K=>K (x :: M)
 | y :: M,n+1,x,K=>xJ M n x fun M=>K (y :: M)
theorem vW:∀ (M:aH) (n:Nat) (x:Nat × Obj) (K:aH->Prop),xJ M n x K=K (M.set n x)
 | [],_,_,_=>rfl
 | _ :: _,0,_,_=>rfl
 | _ :: M,n+1,x,K=>vW M n x _
def Lr:aH->aH->(aH->Prop)->Prop
 | [],M,K=>K M
 | x :: l,M,K=>Lr l M fun M=>K (x :: M)
theorem Jv:∀ (l M:aH) (K:aH->Prop),Lr l M K=K (l++M)
 | [],_,_=>rfl
 | _ :: l,M,K=>Jv l M _
def FV(P:Program)(T:Tab)(H M:aH)(s:St)(f:FuncId)(ts:List TypeId)(ds:List D)(K:D->St->aH->Prop):Prop:=
 mJ 8 s ds fun ds s=>pK T ts ds fun ds=>∃ R,dL P T (H++M) f ds R/\∀ d rows M',R d rows M'->(match s with
  | ⟨env,box,row,n⟩=>uq row.length d fun d=>nU row rows fun row=>Lr M' M fun M=>K d ⟨env,box,row,n⟩ M)
def Ub(T:Tab)(fn:Func)(n:Nat)(K:D->St->aH->Prop):Exit->St->aH->Prop
 | .normal,s,M=>rV T fn n (fun d s=>K d s M) s
 | .ret,s,M=>rV T fn n (fun d s=>K d s M) s
 | _,_,_=>False
def Lu(P:Program)(T:Tab)(H M:aH)(s:St)(f:FuncId)(ds:List D)(K:D->St->aH->Prop):Prop:=
 ∃ fn c,P.funcs[f]? = some fn/\fn.body=some c/\(∀ args w,(callFunc f args).run P w = .ok (.enter f args) w) /\
  leB ds.length fn.ntmps (match s with|⟨env,box,row,n⟩=>shE fn.ntmps env fun env=>nU (fO 0 ds) env fun env=>OkM P T H c (Ub T fn n K) ⟨env,box,row,fn.ntmps⟩ M)
def FW(P:Program)(H M:aH)(t:TypeId)(x i:D)(ok:Bool)(K:D->Prop):Prop:=
 match x with
 | .mv (some g)=>∃ (κ α:Type) (_:DecidableEq κ) (kd:κ->D) (f:Option α->D) (l:List (κ × α × Nat)) (c:Nat) (k:κ),MTy P t kd f/\(g,bG kd f l c) ∈ H++M/\i=kd k /\
     (match ok with|true=>K (.tup [f (lk l k),.b ((lk l k).isSome=true)])|false=>K (f (lk l k)))
 | _=>False
def Gq(P:Program)(M:aH)(t:TypeId)(x i v:D)(K:aH->Prop):Prop:=
 match x with
 | .mv (some g)=>∃ (κ α:Type) (_:DecidableEq κ) (kd:κ->D) (f:Option α->D) (l:List (κ × α × Nat)) (c n:Nat) (k:κ) (a:α),MTy P t kd f/\M[n]? = some (g,bG kd f l c)/\i=kd k/\v=f (some a) /\
     xJ M n (g,bG kd f (aX l c k a).1 (aX l c k a).2) K
 | _=>False
def Uz(P:Program)(M:aH)(t:TypeId)(x i:D)(K:aH->Prop):Prop:=
 match x with
 | .mv (some g)=>∃ (κ α:Type) (_:DecidableEq κ) (kd:κ->D) (f:Option α->D) (l:List (κ × α × Nat)) (c n:Nat) (k:κ),MTy P t kd f/\M[n]? = some (g,bG kd f l c)/\i=kd k /\
     xJ M n (g,bG kd f (lT l k) c) K
 | _=>False
def UA(P:Program)(M:aH)(t:TypeId)(x i:D)(K:D->aH->Prop):Prop:=
 match x with
 | .mv (some g)=>∃ (κ α:Type) (_:DecidableEq κ) (kd:κ->D) (f:Option α->D) (l:List (κ × α × Nat)) (c n:Nat) (k:κ) (z:α),MTy P t kd f/\M[n]? = some (g,bG kd f l c)/\i=kd k/\f (some z)=f none /\
     xJ M n (g,bG kd f (aX l c k ((lk l k).getD z)).1 (aX l c k ((lk l k).getD z)).2) (K (.tup [f (lk l k),.i .i64 (stp l c k:Nat)]))
 | _=>False
def Uc(M:aH)(x i v:D)(K:aH->Prop):Prop:=
 match x with
 | .mv (some g)=>∃ (κ α:Type) (_:DecidableEq κ) (kd:κ->D) (f:Option α->D) (l:List (κ × α × Nat)) (c n:Nat) (k:κ) (a0 a:α),(∀ o,(f o).fM=true)/\((l.map fun e=>e.2.2).Nodup/\∀ e ∈ l,e.2.2<c)/\M[n]? = some (g,bG kd f (aX l c k a0).1 (aX l c k a0).2)/\i = .i .i64 (stp l c k:Nat)/\v=f (some a) /\
     xJ M n (g,bG kd f (aX l c k a).1 (aX l c k a).2) K
 | _=>False
def acE(P:Program)(M:aH)(t:TypeId)(K:D->aH->Prop):Prop:=
 ∃ (κ α:Type) (_:DecidableEq κ) (kd:κ->D) (f:Option α->D),MTy P t kd f/\∀ g,noK M g->K (.mv (some g)) ((g,bG kd f [] 0) :: M)
def oN(m c:Nat)(seen:List Nat):Obj:=.mapIter (some m) c seen.toArray c
section
variable {κ α : Type} [DecidableEq κ]
def mWf(l:List (κ × α × Nat))(c:Nat):Prop:=(l.map fun e=>e.2.2).Nodup/\∀ e ∈ l,e.2.2<c
omit [DecidableEq κ] in
theorem mWf.nil:mWf ([]:List (κ × α × Nat)) 0:=⟨List.nodup_nil,sI⟩
end
def Ko(P:Program)(H M:aH)(t:TypeId)(x:D)(K:D->aH->Prop):Prop:=
 match x with
 | .mv (some m)=>∃ (κ α:Type) (_:DecidableEq κ) (kd:κ->D) (f:Option α->D) (l:List (κ × α × Nat)) (c:Nat),MTy P t kd f/\(m,bG kd f l c) ∈ H++M /\
     ∀ g,noK M g->K (.itv g) ((g,oN m c []) :: M)
 | _=>False
def Kq(H M:aH)(x:D)(K:D->aH->Prop):Prop:=
 match x with
 | .itv g=>∃ (κ α:Type) (_:DecidableEq κ) (kd:κ->D) (f:Option α->D) (l:List (κ × α × Nat)) (c n m:Nat) (seen:List Nat),(∀ k,(kd k).fM=true)/\(∀ o,(f o).fM=true)/\mWf l c/\M[n]? = some (g,oN m c seen)/\(m,bG kd f l c) ∈ H++M /\
     ((∀ e ∈ l,e.2.2 ∈ seen)->K (.tup [.ff]) M)/\∀ e ∈ l,e.2.2 ∉ seen->xJ M n (g,oN m c (seen++[e.2.2])) fun M=>K (.tup [.tt,kd e.1,f (some e.2.1)]) M
 | _=>False
def Kr(H M:aH)(x:D)(K:D->Prop):Prop:=
 match x with
 | .itv g=>∃ (κ α:Type) (_:DecidableEq κ) (kd:κ->D) (f:Option α->D) (l:List (κ × α × Nat)) (c n m:Nat) (seen:List Nat) (e:κ × α × Nat),(∀ k,(kd k).fM=true)/\(∀ o,(f o).fM=true)/\mWf l c/\M[n]? = some (g,oN m c (seen++[e.2.2]))/\(m,bG kd f l c) ∈ H++M/\e ∈ l /\
     K (.tup [kd e.1,f (some e.2.1)])
 | _=>False
def acF(P:Program)(H M:aH)(t:TypeId)(g:Nat)(K:D->Prop):Prop:=
 ∃ (κ α:Type) (_:DecidableEq κ) (kd:κ->D) (f:Option α->D) (l:List (κ × α × Nat)) (c n:Nat),MTy P t kd f/\(g,bG kd f l c) ∈ H++M/\n=l.length/\K (.i .i64 (n:Int))
def xK(P:Program)(T:Tab)(H M:aH)(s:St)(o:Oper)(K:D->St->aH->Prop):Prop:=
 match o.op with
 | .makeMap t none=>acE P M t fun d M=>K d s M
 | .lookup t x i ok=>FW P H M t (s.get x) (s.get i) ok fun d=>K d s M
 | .mapUpdate t m k x=>Gq P M t (s.get m) (s.get k) (s.get x) fun M=>K (.tup []) s M
 | .mapEntry t m k=>UA P M t (s.get m) (s.get k) fun d M=>K d s M
 | .entryStore _ m k x=>Uc M (s.get m) (s.get k) (s.get x) fun M=>K (.tup []) s M
 | .range t x=>Ko P H M t (s.get x) fun d M=>K d s M
 | .next x false=>Kq H M (s.get x) fun d M=>K d s M
 | .entry x=>Kr H M (s.get x) fun d=>K d s M
 | .call { callee:=.builtin .delete,args,argTypes }=>match args.toList,argTypes.toList with
  | [m,k],[t,_]=>Uz P M t (s.get m) (s.get k) fun M=>K (.tup []) s M
  | _,_=>False
 | .call { callee:=.builtin .len,args,argTypes }=>match args.toList,argTypes.toList with
  | [x],[t]=>(match s.get x with|.mv (some g)=>acF P H M t g fun d=>K d s M|_=>vop P T s o fun d s=>K d s M)
  | _,_=>False
 | .call { callee:=.value (.func f),args,argTypes }=>vop P T s o (fun d s=>K d s M)\/FV P T H M s f argTypes.toList (s.gets args.toList) K\/(gX (s.gets args.toList) fun ds=>Lu P T H M s f ds K)
 | .call { callee:=.value (.tmp t),args,argTypes:=_ }=>vop P T s o (fun d s=>K d s M)\/fnK (s.get (.tmp t)) fun f first cap=>gX (first++s.gets args.toList++cap) fun ds=>Lu P T H M s f ds K
 | _=>vop P T s o fun d s=>K d s M
def BD(P:Program)(T:Tab)(H:aH)(ops:List Oper):List Oper->St->aH->(St->aH->Prop)->Prop
 | [],s,M,K=>K s M
 | o :: rest,s,M,K=>lC ops s o.guard
     (fun s=>xK P T H M s o fun d s M=>gy s o.dst d fun s=>BD P T H ops rest s M K)
     (fun s=>gy s o.dst (.tup []) fun s=>BD P T H ops rest s M K)
end Go.Vx
namespace Go.Vx
open Go.RowKit
section
variable {P : Program} {T : Tab} {H M : aH} {s : St} {w0 w w' : World} {F : Fr} {V : Vw} {μ : List Nat} {ω : List Value} {a : Act}
theorem Di(ms:List Nat):(kE ms).map (·.1)=ms:=by
 induction ms with
 | nil=>rfl
 | cons D ms ih=>simpa[kE] using ih
theorem N8(hT:TOk P T)(hS:dD (ah T) w0 F V μ ω s a w H M){f:FuncId}{ds:List D}{vs:List Value}{K:D->St->aH->Prop}(hv:iU (ah T) V μ ω vs ds)(h:Lu P T H M s f ds K) :
    (∀ args w,(callFunc f args).run P w = .ok (.enter f args) w)/\Calls P f vs.toArray w fun e w'=>∃ v d s' V' μ' ω' M',e = .returned v/\K d s' M'/\RS (ah T) V' μ' ω' v d/\dD (ah T) w0 F V' μ' ω' s' a w' H M':=by
 obtain⟨fn,c,hf,hb,hcall,h⟩:=h;refine⟨hcall,uZ hf hb ?_⟩;obtain⟨hn,h⟩:=ou.1 h;obtain⟨env,box,row,n⟩:=s;simp only[JK,oz] at h;obtain⟨ms,d1,d2,d3⟩:=hS.sim.defers.marks;have hkept:∀ x ∈ M++(F.kp++kE ms),w.heap[x.1]? = some x.2/\noC x.2/\w0.heap.size<=x.1:=by
  intro x hx;rw[<- List.append_assoc] at hx;rcases bQ.1 hx with hx|hx
  . exact hS.sim.defers.kept x hx
  . obtain⟨D,hD,rfl⟩:=List.mem_map.1 hx
    exact⟨(d3 D hD).1,(fun _ _ _ e=>by cases e),(d3 D hD).2.1⟩
 have hnd:((M++(F.kp++kE ms)).map (·.1)).Nodup:=by
  rw[<- List.append_assoc,List.map_append,Di];refine List.nodup_append.2 ⟨hS.nodup,d2,fun x hx y hy e=>?_⟩;obtain⟨z,hz,rfl⟩:=List.mem_map.1 hx;exact (d3 y hy).2.2 z hz e
 have hS':dD (ah T) w0 ⟨F.V,fun t=>fB F n a (t - fn.ntmps),[],F.kp++kE ms,F.kc⟩ V μ ω ⟨fO 0 ds++env.map (fun x=>(x.1+fn.ntmps,x.2)),box,row,fn.ntmps⟩
     { tmps:=vs.toArray++Array.replicate (fn.ntmps - vs.toArray.size) undef,defers:=[] } w H M:=by
  refine⟨⟨by have:=hv.1;simp;omega,⟨⟨[],rfl,List.nodup_nil,sI⟩,hkept⟩,fun t=>?_,hS.sim.mem.fr rfl⟩,hnd,hS.old⟩;show RS _ _ _ _ (fB _ fn.ntmps _ t) (look (fO 0 ds++env.map (fun x=>(x.1+fn.ntmps,x.2))) t);unfold fB;split
  . rename_i htn
    show RS _ _ _ _ ((vs.toArray++Array.replicate (fn.ntmps - vs.toArray.size) undef).getD t undef) _;by_cases ht:t<ds.length
    . rw[GH _ _ _ (Dy ds 0 t oA oA),yg,if_pos (Nat.zero_le _),Nat.sub_zero]
      have hta:t<vs.length:=by rw[hv.1];exact ht
      have hd:=aC ht;have ha:=aC hta;have:=hv.2 t _ _ ha hd;have e1:(vs.toArray++Array.replicate (fn.ntmps - vs.toArray.size) undef).getD t undef=vs[t]:=by
       have hv1:=hv.1;simp[Array.getD,hta];omega
      rw[e1];simp only[List.getD,hd,Option.getD_some];exact this
    . rw[xZ _ _ _ (fun x hx=>by have:=vG ds 0 x hx;omega),GN _ _ _ htn]
      exact .imm _ _ (.u _)
  . rename_i htn
    rw[xZ _ _ _ (fun x hx=>by have:=vG ds 0 x hx;omega)];have e2:t=(t - fn.ntmps)+fn.ntmps:=oA;rw[e2,Hu,<- e2];exact hS.sim.env (t - fn.ntmps)
 refine wp_mono (h.run w0 _ V μ ω _ w hS') ?_;rintro e a' w' ⟨s',V',μ',ω',M',hq,hS2⟩;have fin:rV T fn n (fun d s=>K d s M') s'->LeavesInM Fence.wide 0 P fn a'.tmps (fun e w'=>∃ v d s' V' μ' ω' M',e = .returned v/\K d s' M'/\RS (ah T) V' μ' ω' v d/\dD (ah T) w0 F V' μ' ω' s' a w' H M') a'.defers .returning w':=by
  intro hr;obtain⟨ms',e1,e2,e3,hS3⟩:=hS2.sim.shut;rw[e1];have e4:ms'.map mkD++[]=ms'.map mkD:=List.append_nil _;show LeavesInM _ _ _ _ _ _ (ms'.map mkD++[]) _ _;rw[e4];refine tZ sI ms' w' e2 e3 ?_;obtain⟨env',eU,row',m⟩:=s';obtain⟨hm,hr⟩:=jJ hr;obtain⟨us,ds',hk,hv',hrun⟩:=sW hT hS3 _ _ hr;refine⟨if h:us.toArray.size=1 then us.toArray[0] else .tuple us.toArray,?_,?_⟩
  . rw[yc,Array.mapM_eq_mapM_toList]
    dsimp only at hrun;simp only[Sem.run_bind,Sem.run_map,hrun,Result.andThen_ok,Sem.run_pure]
  . rw[JL] at hk
    have hkp:∀ x ∈ M'++(F.kp++kE ms),(shut ms' w').heap[x.1]? = some x.2/\noC x.2/\w0.heap.size<=x.1:=hS3.defers.kept;have CJ:((M'++(F.kp++kE ms)).map (·.1)).Nodup:=hS2.nodup;rw[<- List.append_assoc,List.map_append,Di] at CJ;obtain⟨n1,n2,n3⟩:=List.nodup_append.1 CJ;refine⟨_,_,_,V',μ',ω',M',rfl,hk,pz hv',⟨hS.sim.tmps,⟨⟨ms,d1,d2,fun D hD=>?_⟩,fun x hx=>hkp x (by rw[<- List.append_assoc];exact List.mem_append_left _ hx)⟩,fun t=>?_,hS3.mem.fr rfl⟩,n1,hS.old⟩
    . obtain⟨k1,k2,k3⟩:=hkp (D,.deferred (some [])) (List.mem_append_right _ (List.mem_append_right _ (List.mem_map.2 ⟨D,hD,rfl⟩)))
      exact⟨k1,k3,fun x hx e=>n3 x.1 (List.mem_map.2 ⟨x,hx,rfl⟩) D hD e⟩
    have:=hS3.env (t+fn.ntmps);unfold fB at this;rw[if_neg (by show ¬ t+fn.ntmps<m;omega)] at this;show RS _ _ _ _ (fB F n a t) (look (rX fn.ntmps env') t);rw[Ig];have e3:t+fn.ntmps - fn.ntmps=t:=oA;have BF:RS (ah T) V' μ' ω' (fB F n a (t+fn.ntmps - fn.ntmps)) (look env' (t+fn.ntmps)):=this;rw[e3] at BF;exact BF
 cases e<;>simp only[Ub] at hq
 . exact fin hq
 . exact fin hq
def oQ(P:Program)(T:Tab)(w0:World)(F:Fr)(H:aH)(a:Act)(w:World)(o:Oper)(K:D->St->aH->Prop):Prop:=
 ∀ (next:Act->World->Prop) (Q:Exit->Act->World->Prop),
  (∀ d v s V' μ' ω' M' w',K d s M'->RS (ah T) V' μ' ω' v d->dD (ah T) w0 F V' μ' ω' s a w' H M'->next (a.put o.dst v) w')->o.wp P a w next Q
theorem oQ.Fh(hT:TOk P T)(hS:dD (ah T) w0 F V μ ω s a w H M){o:Oper}{K:D->St->aH->Prop}(h:vop P T s o fun d s=>K d s M):oQ P T w0 F H a w o K:=by
 intro next Q hn
 exact Ii hT hS.sim h next Q fun d v s V' μ' ω' w' hk hr hS' _=>hn d v s V' μ' ω' M w' hk hr (hS.of hS')
theorem oZ{sz:TypeId->Nat}{v:Value}{d:D}(h:RS sz V μ ω v d)(hg:d.fM=true):v=toV d:=
 (h.ri hg).TN (yL (V:=V) hg) hg
theorem RS.mv_{sz:TypeId->Nat}{v:Value}{o:Option Nat}(h:RS sz V μ ω v (.mv o)):v = .map o:=by
 cases h with|imm _ _ h=>cases h;rfl
theorem rE{sz:TypeId->Nat}{d:D}(hg:d.fM=true):RS sz V μ ω (toV d) d:=.imm _ _ (yL hg)
theorem oQ.value{o:Oper}{K:D->St->aH->Prop}{v:Value}{d:D}{V':Vw}{μ':List Nat}{ω':List Value}{s':St}{M':aH}(hr:(execOp a.eval o).run P w = .ok (.value v) w')
    (hk:K d s' M')(hv:RS (ah T) V' μ' ω' v d)(hS:dD (ah T) w0 F V' μ' ω' s' a w' H M'):oQ P T w0 F H a w o K:=by
 intro next Q hn
 unfold Oper.wp;rw[hr];exact hn d v s' V' μ' ω' M' w' hk hv hS
theorem oQ.unit{o:Oper}{K:D->St->aH->Prop}{V':Vw}{μ':List Nat}{ω':List Value}{s':St}{M':aH}(hr:(execOp a.eval o).run P w = .ok .skip w')
    (hk:K (.tup []) s' M')(hS:dD (ah T) w0 F V' μ' ω' s' a w' H M'):oQ P T w0 F H a w o K:=by
 intro next Q hn
 unfold Oper.wp;rw[hr];exact hn (.tup []) undef s' V' μ' ω' M' w' hk (RS.tup [] #[] rfl (fun j v d h=>by simp at h)) hS
end
section
variable {P : Program} {T : Tab} {H M : aH} {s : St} {w0 w : World} {F : Fr} {V : Vw} {μ : List Nat} {ω : List Value} {a : Act} {sz : TypeId → Nat}
theorem RS.LC{sz:TypeId->Nat}{v:Value}{g:Nat}(h:RS sz V μ ω v (.itv g)):v = .pointer (some ⟨g,0,none⟩):=by
 cases h with|imm _ _ h=>cases h;rfl
theorem aaD{v1 v2:Value}{d1 d2:D}(b:Bool)(h1:RS sz V μ ω v1 d1)(h2:RS sz V μ ω v2 d2):RS sz V μ ω (.tuple #[.bool b,v1,v2]) (.tup [if b then .tt else .ff,d1,d2]):=by
 refine .tup _ _ rfl fun j v d e1 e2=>?_
 match j with
 | 0=>simp at e1 e2;subst e1 e2;cases b<;>exact .imm _ _ (by constructor)
 | 1=>simp at e1 e2;subst e1 e2;exact h1
 | 2=>simp at e1 e2;subst e1 e2;exact h2
 | j+3=>simp at e1
theorem Vk(w:World)(g:Nat)(o:Obj):ChangeMaps.setBlock w g o=w.putObj g o:=rfl
theorem dD.ext{w':World}(h:dD sz w0 F V μ ω s a w H M)(hx:Ext w w'):dD sz w0 F V μ ω s a w' H M:=⟨h.sim.ext hx,h.nodup,h.old⟩
theorem Qu{κ α:Type}{kd:κ->D}{f:Option α->D}{l:List (κ × α × Nat)}{seen:List Nat}{x:MapEntry}:x ∈ (leftOf (l.map (dX kd f)).toArray seen.toArray).toList ↔ ∃ e ∈ l,e.2.2 ∉ seen/\dX kd f e=x:=by
 simp only[leftOf,Array.toList_filter,List.mem_filter,List.mem_map];constructor
 . rintro⟨⟨e,he,rfl⟩,h2⟩
   exact⟨e,he,by simpa[dX] using h2,rfl⟩
 . rintro⟨e,he,h2,rfl⟩
   exact⟨⟨e,he,rfl⟩,by simpa[dX] using h2⟩
theorem VH(hS:dD (ah T) w0 F V μ ω s a w H M){dst:Option Nat}{type:TypeId}{pos:String}{after:Array Edge}{guard:Option (Nat × Bool)}{t:TypeId}{x:Operand}{K:D->St->aH->Prop}
    (h:Ko P H M t (s.get x) fun d M=>K d s M):oQ P T w0 F H a w ⟨dst,.range t x,type,pos,after,guard⟩ K:=by
 unfold Ko at h;split at h
 case h_2=>exact h.elim
 rename_i m hx;obtain⟨κ,α,_,kd,f,l,c,hty,hg,hk⟩:=h;have hxv:=hS.sim.get x;rw[hx] at hxv;obtain⟨kt,et,hu,_,_⟩:=hty.und;have hno:noK M w.heap.size:=fun x hx=>by
  have:=(Array.getElem?_eq_some_iff.1 (hS.kept hx).1).1;omega
 refine .value (v:=.pointer (some ⟨w.heap.size,0,none⟩)) ?_ (hk _ hno) (.imm _ _ (.itv _)) (hS.new (oN m c []) (Qs _ _ _ _));have:=run_range_map w t kt et m _ c hu (hS.read hg);simp only[execOp,hxv.mv_,this,Sem.run_bind,Result.andThen_ok,Sem.run_pure];rfl
theorem VI(hS:dD (ah T) w0 F V μ ω s a w H M){dst:Option Nat}{type:TypeId}{pos:String}{after:Array Edge}{guard:Option (Nat × Bool)}{x:Operand}{K:D->St->aH->Prop}
    (h:Kq H M (s.get x) fun d M=>K d s M):oQ P T w0 F H a w ⟨dst,.next x false,type,pos,after,guard⟩ K:=by
 unfold Kq at h;split at h
 case h_2=>exact h.elim
 rename_i g hx;obtain⟨κ,α,_,kd,f,l,c,n,m,seen,hkg,hvg,⟨_,hc⟩,hit,hm,h1,h2⟩:=h;have hxv:=hS.sim.get x;rw[hx] at hxv;have hr:=(hS.kept (aU hit)).1;have hb:=hS.read hm;have hold:∀ x ∈ (l.map (dX kd f)).toArray.toList,x.born<c:=by
  intro x hx;simp only[List.mem_map] at hx;obtain⟨e,he,rfl⟩:=hx;exact hc e he
 rcases run_next_at (P:=P) w type g m c c seen.toArray (l.map (dX kd f)).toArray c hr hb hold (Nat.le_refl _) with⟨h0,hrun⟩|⟨x,hxl,w1,hw1,hrun⟩
 . refine .value (v:=.tuple #[.bool false]) (d:=.tup [.ff]) ?_ (h1 fun e he=>?_) (.tup _ _ rfl fun j v d e1 e2=>?_) hS
   . simp only[execOp,hxv.LC,hrun,Sem.run_bind,Result.andThen_ok,Sem.run_pure]
   . refine Classical.byContradiction fun hns=>?_
     have:dX kd f e ∈ (leftOf (l.map (dX kd f)).toArray seen.toArray).toList:=Qu.2 ⟨e,he,hns,rfl⟩;have h00:(leftOf (l.map (dX kd f)).toArray seen.toArray).toList=[]:=by
      apply List.eq_nil_of_length_eq_zero;rw[Array.length_toList];exact h0
     rw[h00] at this;cases this
   . match j with
     | 0=>simp at e1 e2;subst e1 e2;exact .imm _ _ .ff
     | j+1=>simp at e1
 . obtain⟨e,he,hns,rfl⟩:=Qu.1 hxl
   have hS1:dD (ah T) w0 F V μ ω s a w1 H M:=by
    rcases hw1 with rfl|rfl
    . exact hS
    . exact hS.ext ((Below.refl w.heap.size w).drew)
   have hS2:=hS1.put (oN m c (seen++[e.2.2])) (Qs _ _ _ _) hit;refine .value (v:=.tuple #[.bool true,toV (kd e.1),toV (f (some e.2.1))]) ?_ (by have:=h2 e he hns;rw[vW] at this;exact this) (aaD true (rE (hkg _)) (rE (hvg _))) hS2;simp only[execOp,hxv.LC,hrun,Sem.run_bind,Result.andThen_ok,Sem.run_pure];simp[dX,oN,Vk]
theorem VJ(hS:dD (ah T) w0 F V μ ω s a w H M){dst:Option Nat}{type:TypeId}{pos:String}{after:Array Edge}{guard:Option (Nat × Bool)}{x:Operand}{K:D->St->aH->Prop}
    (h:Kr H M (s.get x) fun d=>K d s M):oQ P T w0 F H a w ⟨dst,.entry x,type,pos,after,guard⟩ K:=by
 unfold Kr at h;split at h
 case h_2=>exact h.elim
 rename_i g hx;obtain⟨κ,α,_,kd,f,l,c,n,m,seen,e,hkg,hvg,⟨hnd,hc⟩,hit,hm,he,hk⟩:=h;have hxv:=hS.sim.get x;rw[hx] at hxv;have hr:=(hS.kept (aU hit)).1;have hb:=hS.read hm;have hr':w.heap[g]? = some (.mapIter (some m) c (seen.toArray.push e.2.2) c):=by rw[hr];simp[oN]
 have:=run_entry_at (P:=P) w g m c seen.toArray (l.map (dX kd f)).toArray c (dX kd f e) hr' hb (by simp only[List.mem_map];exact⟨e,he,rfl⟩) (by simpa[List.map_map,Function.comp_def,dX] using hnd);refine .value (v:=.tuple #[toV (kd e.1),toV (f (some e.2.1))]) ?_ hk (.tup _ _ rfl fun j v d e1 e2=>?_) hS
 . simp only[execOp,hxv.LC,this,Sem.run_bind,Result.andThen_ok,Sem.run_pure]
   rfl
 . match j with
   | 0=>simp at e1 e2;subst e1 e2;exact rE (hkg _)
   | 1=>simp at e1 e2;subst e1 e2;exact rE (hvg _)
   | j+2=>simp at e1
end
end Go.Vx
namespace Go.Vx
open Go.RowKit
section
variable {P : Program} {T : Tab} {H M : aH} {s : St} {w0 w w' : World} {F : Fr} {V : Vw} {μ : List Nat} {ω : List Value} {a : Act}
theorem VK(hS:dD (ah T) w0 F V μ ω s a w H M){dst:Option Nat}{type:TypeId}{pos:String}{after:Array Edge}{guard:Option (Nat × Bool)}{f:FuncId}{args:Array Operand}{argTypes:Array TypeId}{K:D->St->aH->Prop}
    (h:FV P T H M s f argTypes.toList (s.gets args.toList) K):oQ P T w0 F H a w ⟨dst,.call ⟨.value (.func f),args,argTypes⟩,type,pos,after,guard⟩ K:=by
 obtain⟨V1,ds1,s1,h,hv1,hS1,_⟩:=lW 8 hS.sim (hS.sim.gets _) h;obtain⟨es,⟨R,hf,h⟩,hes,hri⟩:=oW argTypes.toList ds1 _ _ hv1 h;obtain⟨env,box,row,n⟩:=s1;intro next Q hn
 have eH:=hf.run V1 w (args.map a.eval) hS1.mem.vok (fun x hx=>hS.read hx) (by have:=hv1.1;simp at this ⊢;omega) (fun j v d h1 h2=>hri j v d (by simpa using h1) h2);unfold Oper.wp;have hrun:(execOp a.eval ⟨dst,.call ⟨.value (.func f),args,argTypes⟩,type,pos,after,guard⟩).run P w = .ok (.enter f (args.map a.eval)) w:=by
  simp only[execOp,resolve,Act.eval,Deferred.ofValue,invoke,Sem.run_bind,Sem.run_pure,Result.andThen_ok];rw[show (#[]++args.map a.eval)++#[]=args.map a.eval by simp,hf.call]
 rw[hrun];show Calls P f (args.map a.eval) w _;refine eH.mono ?_;rintro e w'' ⟨V',ω0,row0,v,d,M',rfl,hR,hrs,hres,hM',hnd⟩;have hMm:=hS1.mem.call hres;have hk:=h d row0 M' hR;have hl:row.length=ω.length:=hS1.mem.rl.symm;dsimp only at hk;rw[hl] at hk;obtain⟨d',hk,hr⟩:=sJ (μ:=μ) (V':=V') (ω':=ω++ω0) (VLe.refl V') (fun r u hu=>by rw[List.getElem?_append_right oA,Nat.add_sub_cancel];exact hu) hrs hk;rw[oz,Jv] at hk;have hx:Ext w w'':=hres.below;obtain⟨ms,d1,d2,d3⟩:=hS1.defers.marks;have hlt:∀ x ∈ M++F.kp,x.1<w.heap.size:=fun x hx=>(Array.getElem?_eq_some_iff.1 (hS.sim.defers.kept x hx).1).1
 have hbase:=hS.sim.mem.below.size;refine hn d' v _ V' μ (ω++ω0) (M'++M) w'' hk hr ⟨⟨hS1.tmps,⟨⟨ms,d1,d2,fun D hD=>?_⟩,fun x hx'=>?_⟩,fun t=>(hS1.env t).mono hres.le (.refl μ) (.append _ _),hMm.fr rfl⟩,?_,hS.old⟩
 . obtain⟨f1,f2,f3⟩:=d3 D hD
   refine⟨hx.heap f1,f2,fun x hx'=>?_⟩;have hx2:x ∈ M'++M++F.kp:=hx';rw[List.append_assoc] at hx2;rcases bQ.1 hx2 with hx2|hx2
   . have h1:=(hM' x hx2).2.2
     have h2:=(Array.getElem?_eq_some_iff.1 f1).1;omega
   . exact f3 x hx2
 . have hx2:x ∈ M'++M++F.kp:=hx'
   rw[List.append_assoc] at hx2;rcases bQ.1 hx2 with hx2|hx2
   . obtain⟨h1,h2,h3⟩:=hM' x hx2
     exact⟨h1,h2,Nat.le_trans hbase h3⟩
   . obtain⟨h1,h2,h3⟩:=hS.sim.defers.kept x hx2
     exact⟨hx.heap h1,h2,h3⟩
 . rw[List.append_assoc,List.map_append]
   refine List.nodup_append.2 ⟨hnd,hS.nodup,fun x hx y hy e=>?_⟩;obtain⟨z,hz,rfl⟩:=List.mem_map.1 hx;obtain⟨z2,hz2,rfl⟩:=List.mem_map.1 hy;have h1:=(hM' z hz).2.2;have h2:=hlt z2 hz2;omega
theorem N9(hT:TOk P T)(hS:dD (ah T) w0 F V μ ω s a w H M){o:Oper}{K:D->St->aH->Prop}(h:xK P T H M s o K):oQ P T w0 F H a w o K:=by
 obtain⟨dst,op,type,pos,after,guard⟩:=o;unfold xK at h;dsimp only at h;split at h
 . -- makeMap
   rename_i t;obtain⟨κ,α,_,kd,f,hty,hk⟩:=h;have hno:noK M w.heap.size:=fun x hx=>by
    have:=(Array.getElem?_eq_some_iff.1 (hS.kept hx).1).1;omega
   refine .value (v:=.map (some w.heap.size)) ?_ (hk _ hno) (.imm _ _ (.mv _)) (hS.new (bG kd f [] 0) (yI _ _));simp[execOp,hty.make w]
 . -- lookup
   rename_i t x i ok;unfold FW at h;split at h
   case h_2=>exact h.elim
   rename_i g hx;obtain⟨κ,α,_,kd,f,l,c,k,hty,hg,hi,hk⟩:=h;have hxv:=hS.sim.get x;rw[hx] at hxv;have hiv:=hS.sim.get i;rw[hi] at hiv;obtain⟨kt,et,_,hkey,_⟩:=hty.und;have e2:=oZ hiv (hkey.ground k);have hl:=hty.lookup (hS.read hg) k ok
   cases ok with
   | true=>
    refine .value (v:=.tuple #[toV (f (lk l k)),.bool (lk l k).isSome]) ?_ hk (.tup _ _ rfl fun j v d h1 h2=>?_) hS
    . simp[execOp,hxv.mv_,e2,hl]
    . match j with
      | 0=>simp at h1 h2;subst h1 h2;exact rE (hty.vg _)
      | 1=>simp at h1 h2;subst h1 h2;exact .imm _ _ (.b _ _ Iff.rfl)
      | j+2=>simp at h1
   | false=>
    refine .value (v:=toV (f (lk l k))) ?_ hk (rE (hty.vg _)) hS;simp[execOp,hxv.mv_,e2,hl]
 . -- mapUpdate
   rename_i t m k x;unfold Gq at h;split at h
   case h_2=>exact h.elim
   rename_i g hx;obtain⟨κ,α,_,kd,f,l,c,n,key,val,hty,hg,hi,hvl,hk⟩:=h;have hxv:=hS.sim.get m;rw[hx] at hxv;have hiv:=hS.sim.get k;rw[hi] at hiv;have hvv:=hS.sim.get x;rw[hvl] at hvv;obtain⟨kt,et,_,hkey,_⟩:=hty.und;have e2:=oZ hiv (hkey.ground key);have e3:=oZ hvv (hty.vg _);rw[vW] at hk;have hu:=hty.update (hS.kept (aU hg)).1 key val;refine .unit ?_ hk (hS.put _ (yI _ _) hg);simp[execOp,hxv.mv_,e2,e3,hu]
 . -- mapEntry
   rename_i t m k;unfold UA at h;split at h
   case h_2=>exact h.elim
   rename_i g hx;obtain⟨κ,α,_,kd,f,l,c,n,key,z,hty,hg,hi,hz,hk⟩:=h;have hxv:=hS.sim.get m;rw[hx] at hxv;have hiv:=hS.sim.get k;rw[hi] at hiv;obtain⟨kt,et,_,hkey,_⟩:=hty.und;have e2:=oZ hiv (hkey.ground key);rw[vW] at hk;have hu:=hty.entry (hS.kept (aU hg)).1 key hz;refine .value (v:=.tuple #[toV (f (lk l key)),goInt (stp l c key)]) ?_ hk (.tup _ _ rfl fun j v d h1 h2=>?_) (hS.put _ (yI _ _) hg)
   . simp[execOp,hxv.mv_,e2,hu]
   . match j with
     | 0=>simp at h1 h2;subst h1 h2;exact rE (hty.vg _)
     | 1=>simp at h1 h2;subst h1 h2;exact .imm _ _ (.i _ _)
     | j+2=>simp at h1
 . -- entryStore
   rename_i t m k x;unfold Uc at h;split at h
   case h_2=>exact h.elim
   rename_i g hx;obtain⟨κ,α,_,kd,f,l,c,n,key,a0,val,hvg,⟨hnd,hlt⟩,hg,hi,hvl,hk⟩:=h;have hxv:=hS.sim.get m;rw[hx] at hxv;have hiv:=hS.sim.get k;rw[hi] at hiv;have hvv:=hS.sim.get x;rw[hvl] at hvv;have e2:a.eval k=goInt (stp l c key):=by
    have:=oZ hiv rfl;exact this
   have e3:=oZ hvv (hvg _);rw[vW] at hk;have hu:=MTy.Y0 (P:=P) (t:=t) (hS.kept (aU hg)).1 hnd hlt val;refine .unit ?_ hk (hS.put _ (yI _ _) hg);simp[execOp,hxv.mv_,e2,e3,hu]
 . exact VH hS h
 . exact VI hS h
 . exact VJ hS h
 . -- delete
   rename_i args argTypes;split at h
   case h_2=>exact h.elim
   rename_i m k t t2 ha ht;obtain⟨args⟩:=args;obtain⟨argTypes⟩:=argTypes;dsimp only at ha ht;subst ha ht;unfold Uz at h;split at h
   case h_2=>exact h.elim
   rename_i g hx;obtain⟨κ,α,_,kd,f,l,c,n,key,hty,hg,hi,hk⟩:=h;have hxv:=hS.sim.get m;rw[hx] at hxv;have hiv:=hS.sim.get k;rw[hi] at hiv;obtain⟨kt,et,_,hkey,_⟩:=hty.und;have e2:=oZ hiv (hkey.ground key);rw[vW] at hk;have hd:=hty.delete (hS.kept (aU hg)).1 key t2 type;refine .value (v:=.tuple #[]) (d:=.tup []) ?_ hk (RS.tup [] #[] rfl (fun j v d h=>by simp at h)) (hS.put _ (yI _ _) hg);simp[execOp,resolve,invoke,builtin,hxv.mv_,e2,hd]
 . -- len
   rename_i args argTypes;split at h
   case h_2=>exact h.elim
   rename_i x t ha ht;split at h
   case h_2=>exact .Fh hT hS h
   rename_i g hx;obtain⟨args⟩:=args;obtain⟨argTypes⟩:=argTypes;dsimp only at ha ht;subst ha ht;obtain⟨κ,α,_,kd,f,l,c,n,hty,hg,hn,hk⟩:=h;have hxv:=hS.sim.get x;rw[hx] at hxv;obtain⟨kt,et,hu,_,_⟩:=hty.und;refine .value (v:=.int .i64 n) ?_ hk (.imm _ _ (.i _ _)) hS;have hr:=hS.read hg;simp[execOp,resolve,invoke,builtin,hxv.mv_,Builtin.len_,dF hu,getObj,Sem.run,hr,bG,Result.andThen,goInt,hn]
 . -- a call
   rename_i f args argTypes;rcases h with h|h|h
   . exact .Fh hT hS h
   . exact VK hS h
   rw[iQ] at h;obtain⟨hcall,eH⟩:=N8 hT hS (hS.sim.gets args.toList) h;intro next Q hn
   unfold Oper.wp;have hrun:(execOp a.eval ⟨dst,.call ⟨.value (.func f),args,argTypes⟩,type,pos,after,guard⟩).run P w = .ok (.enter f (args.toList.map a.eval).toArray) w:=by
    simp only[execOp,resolve,Act.eval,Deferred.ofValue,invoke,Sem.run_bind,Sem.run_pure,Result.andThen_ok];rw[hcall];congr 2;apply Array.ext';simp
   rw[hrun];show Calls P f _ w _;refine eH.mono ?_;rintro e w'' ⟨v,d,s',V',μ',ω',M',rfl,hk,hr,hS'⟩;exact hn d v s' V' μ' ω' M' w'' hk hr hS'
 . -- a call of a function value
   rename_i t args argTypes;rcases h with h|h
   . exact .Fh hT hS h
   obtain⟨f,first,cap,vs,us,hv,hs1,hs2,hr1,hr2,h⟩:=Dx (hS.sim.get (.tmp t)) h;rw[iQ] at h;have hg:=hS.sim.gets args.toList;have JZ:iU (ah T) V μ ω (vs.toList++args.toList.map a.eval++us.toList) (first++s.gets args.toList++cap):=
    ⟨by have:=hg.1;simp at this ⊢;omega,Gf (fun j v d h1 h2=>hr1 j v d (by simpa using h1) h2) hg.2 (fun j v d h1 h2=>hr2 j v d (by simpa using h1) h2) (by simpa using hs1) hg.1⟩
   obtain⟨hcall,eH⟩:=N8 hT hS JZ h;intro next Q hn
   unfold Oper.wp;have hrun:(execOp a.eval ⟨dst,.call ⟨.value (.tmp t),args,argTypes⟩,type,pos,after,guard⟩).run P w = .ok (.enter f (vs.toList++args.toList.map a.eval++us.toList).toArray) w:=by
    simp only[execOp,resolve,hv,Deferred.ofValue,invoke,Sem.run_bind,Sem.run_pure,Result.andThen_ok];rw[hcall];congr 2;apply Array.ext';simp
   rw[hrun];show Calls P f _ w _;refine eH.mono ?_;rintro e w'' ⟨v,d,s',V',μ',ω',M',rfl,hk,hr,hS'⟩;exact hn d v s' V' μ' ω' M' w'' hk hr hS'
 . exact .Fh hT hS h
theorem Hl(hT:TOk P T){ops:List Oper}{Q:Exit->Act->World->Prop}:∀ (rest:List Oper) (s:St) (M:aH) (V:Vw) (μ:List Nat) (ω:List Value) (a:Act) (w:World) (K:St->aH->Prop),dD (ah T) w0 F V μ ω s a w H M ->
    BD P T H ops rest s M K->(∀ s M V μ ω a w,K s M->dD (ah T) w0 F V μ ω s a w H M->Q .normal a w)->wpList P ops.toArray Q rest a w
 | [],s,M,V,μ,ω,a,w,K,hS,h,hq=>hq s M V μ ω a w h hS
 | o :: rest,s,M,V,μ,ω,a,w,K,hS,h,hq=>by
  simp only[BD] at h;unfold wpList;rcases mY hS.sim h with⟨hw,s1,h,hS1⟩|⟨hw,s1,h,hS1⟩
  . rw[if_pos hw]
    refine .inl (N9 hT (hS.of hS1) h _ _ fun d v s2 V2 μ2 ω2 M2 w2 hk hr hS2=>?_);obtain⟨s3,h,hS3⟩:=gV hS2.sim hr hk;exact Hl hT rest s3 M2 _ _ _ _ _ K (hS2.of hS3) h hq
  . rw[if_neg (by rw[hw];simp)]
    obtain⟨s3,h,hS3⟩:=gV hS1 (v:=undef) (d:=.tup []) (RS.tup [] #[] rfl (fun j v d h=>by simp at h)) h;exact Hl hT rest s3 M _ _ _ _ _ K (hS.of hS3) h hq
theorem OkM.region(hT:TOk P T){Q:Exit->St->aH->Prop}{id:Nat}{l:List Oper}(h:BD P T H l l s M (Q .normal)):OkM P T H (.region id l.toArray false) Q s M:=by
 refine⟨fun w0 F V μ ω a w hS=>?_⟩;refine wp_region_lit ?_;exact Hl hT l s M V μ ω a w _ hS h fun s' M' V' μ' ω' a' w' hk hS'=>⟨s',V',μ',ω',M',hk,hS'⟩
end
end Go.Vx
namespace Go.Vx
open Go.RowKit
section
variable {κ α : Type} [DecidableEq κ]
theorem yF{k:κ}:∀ {l:List (κ × α × Nat)} {j i:Nat} {x:α},dB k l j=some (i,x)->j<=i/\∃ n,l[i - j]? = some (k,x,n):=by
 intro l
 induction l with
 | nil=>intro j i x h;cases h
 | cons e l ih=>
  intro j i x h;simp only[dB] at h;split at h
  . rename_i he
    cases h;exact⟨Nat.le_refl _,e.2.2,by simp[<- he]⟩
  . obtain⟨h1,n,h2⟩:=ih h
    refine⟨oA,n,?_⟩;rw[show i - j=(i - (j+1))+1 by omega,List.getElem?_cons_succ];exact h2
theorem Oa{k:κ}:∀ {l:List (κ × α × Nat)} {j:Nat},dB k l j=none ↔ ∀ e ∈ l,e.1 ≠ k:=by
 intro l
 induction l with
 | nil=>intro j;simp[dB]
 | cons e l ih=>
  intro j;simp only[dB];split
  . rename_i he
    simp[he]
  . rename_i he
    rw[ih];simp[he]
theorem VL{k:κ}:∀ (l:List (κ × α × Nat)) (j i:Nat),dB k l (j+i)=(dB k l j).map fun x=>(x.1+i,x.2):=by
 intro l
 induction l with
 | nil=>intro j i;rfl
 | cons e l ih=>
  intro j i;simp only[dB];split
  . rfl
  . rw[<- ih (j+1) i,show j+i+1=j+1+i by omega]
def jR(l:List (κ × α × Nat)):Prop:=(l.map (·.1)).Nodup
theorem pI(e:κ × α × Nat)(l:List (κ × α × Nat))(k:κ):lk (e :: l) k=if e.1=k then some e.2.1 else lk l k:=by
 simp only[lk,dB];split
 . rfl
 . rw[show (0+1)=0+1 from rfl,VL l 0 1]
   cases dB k l 0<;>rfl
theorem Fj(k:κ):lk ([]:List (κ × α × Nat)) k=none:=rfl
theorem aaE{l:List (κ × α × Nat)}{k:κ}:lk l k=none ↔ ∀ e ∈ l,e.1 ≠ k:=by
 simp only[lk,Option.map_eq_none_iff,Oa]
theorem JO{l:List (κ × α × Nat)}{k:κ}{a:α}(h:lk l k=some a):∃ n,(k,a,n) ∈ l:=by
 simp only[lk,Option.map_eq_some_iff] at h;obtain⟨⟨i,x⟩,h1,rfl⟩:=h;obtain⟨_,n,h2⟩:=yF h1;exact⟨n,aU h2⟩
theorem FX{l:List (κ × α × Nat)}(hk:jR l){e:κ × α × Nat}(he:e ∈ l):lk l e.1=some e.2.1:=by
 induction l with
 | nil=>cases he
 | cons x l ih=>
  rw[pI];obtain⟨h1,h2⟩:=List.nodup_cons.1 hk;rcases List.mem_cons.1 he with rfl|he
  . rw[if_pos rfl]
  . rw[if_neg fun hx=>h1 (List.mem_map.2 ⟨e,he,hx.symm⟩)]
    exact ih h2 he
theorem abB(l l':List (κ × α × Nat))(k:κ):lk (l++l') k=(lk l k).or (lk l' k):=by
 induction l with
 | nil=>simp[Fj]
 | cons e l ih=>
  rw[List.cons_append,pI,pI,ih];split<;>simp
theorem ug(l:List (κ × α × Nat))(c:Nat)(k:κ)(a:α)(k':κ):lk (aX l c k a).1 k'=if k'=k then some a else lk l k':=by
 unfold aX
 cases h:dB k l 0 with
 | none=>
  dsimp only;rw[abB,pI,Fj];by_cases hk:k'=k
  . subst hk
    have:lk l k'=none:=by simp[lk,h]
    simp[this]
  . rw[if_neg hk,if_neg fun e=>hk e.symm]
    simp
 | some x=>
  obtain⟨i,x⟩:=x;dsimp only;have key:∀ (l:List (κ × α × Nat)) (j:Nat),dB k l j=some (i,x)->lk (l.modify (i - j) fun e=>(e.1,a,e.2.2)) k'=if k'=k then some a else lk l k':=by
   intro l
   induction l with
   | nil=>intro j h;cases h
   | cons e l ih=>
    intro j h;simp only[dB] at h;split at h
    . rename_i he
      simp only[Option.some.injEq,Prod.mk.injEq] at h;rw[<- h.1,Nat.sub_self];simp only[List.modify_zero_cons,pI,he];by_cases hk:k'=k
      . rw[if_pos hk.symm,if_pos hk]
      . rw[if_neg fun e=>hk e.symm,if_neg hk,if_neg fun e=>hk e.symm]
    . rename_i he
      have h1:=(yF h).1;rw[show i - j=(i - (j+1))+1 by omega,List.modify_succ_cons,pI,ih (j+1) h,pI];by_cases hk:k'=k
      . subst hk
        rw[if_neg he,if_pos rfl,if_pos rfl]
      . simp only[if_neg hk]
  simpa using key l 0 h
theorem DF{l:List (κ × α × Nat)}{c:Nat}(h:mWf l c)(k:κ)(a:α):mWf (aX l c k a).1 (aX l c k a).2:=by
 obtain⟨h1,h2⟩:=h;unfold aX
 cases hf:dB k l 0 with
 | none=>
  refine⟨?_,fun e he=>?_⟩
  . rw[List.map_append]
    refine List.nodup_append.2 ⟨h1,sI,fun x hx y hy e=>?_⟩;obtain⟨z,hz,rfl⟩:=List.mem_map.1 hx;simp at hy;have:=h2 z hz;omega
  . rcases bQ.1 he with he|he
    . have:=h2 e he
      dsimp only;omega
    . simp at he
      subst he;dsimp only;omega
 | some x=>
  obtain⟨i,x⟩:=x;dsimp only;have hm:(l.modify i fun e=>(e.1,a,e.2.2)).map (fun e=>e.2.2)=l.map fun e=>e.2.2:=by
   apply List.ext_getElem?;intro j;simp only[aN,List.getElem?_modify]
   cases l[j]? with
   | none=>rfl
   | some e=>by_cases hj:i=j<;>simp[hj]
  refine⟨by rw[hm];exact h1,fun e he=>?_⟩;have:e.2.2 ∈ (l.modify i fun e=>(e.1,a,e.2.2)).map (fun e=>e.2.2):=List.mem_map.2 ⟨e,he,rfl⟩;rw[hm] at this;obtain⟨z,hz,hze⟩:=List.mem_map.1 this;rw[<- hze];exact h2 z hz
theorem zS{l:List (κ × α × Nat)}{c:Nat}(h:jR l)(k:κ)(a:α):jR (aX l c k a).1:=by
 unfold aX jR at *
 cases hf:dB k l 0 with
 | none=>
  rw[List.map_append];refine List.nodup_append.2 ⟨h,sI,fun x hx y hy e=>?_⟩;obtain⟨z,hz,rfl⟩:=List.mem_map.1 hx;simp at hy;exact Oa.1 hf z hz (e.trans hy)
 | some x=>
  obtain⟨i,x⟩:=x;dsimp only;have hm:(l.modify i fun e=>(e.1,a,e.2.2)).map (fun e=>e.1)=l.map fun e=>e.1:=by
   apply List.ext_getElem?;intro j;simp only[aN,List.getElem?_modify]
   cases l[j]? with
   | none=>rfl
   | some e=>by_cases hj:i=j<;>simp[hj]
  rw[hm];exact h
theorem aaF{l:List (κ × α × Nat)}(h:jR l)(k k':κ):lk (lT l k) k'=if k'=k then none else lk l k':=by
 unfold lT
 cases hf:dB k l 0 with
 | none=>
  dsimp only;by_cases hk:k'=k
  . subst hk
    rw[if_pos rfl];simp[lk,hf]
  . rw[if_neg hk]
 | some x=>
  obtain⟨i,x⟩:=x;dsimp only;have key:∀ (l:List (κ × α × Nat)) (j:Nat),jR l->dB k l j=some (i,x)->lk (l.eraseIdx (i - j)) k'=if k'=k then none else lk l k':=by
   intro l
   induction l with
   | nil=>intro j _ h;cases h
   | cons e l ih=>
    intro j hnd h;obtain⟨n1,n2⟩:=List.nodup_cons.1 hnd;simp only[dB] at h;split at h
    . rename_i he
      simp only[Option.some.injEq,Prod.mk.injEq] at h;rw[<- h.1,Nat.sub_self,List.eraseIdx_cons_zero,pI,he];by_cases hk:k'=k
      . rw[if_pos hk,aaE]
        intro z hz e';exact n1 (List.mem_map.2 ⟨z,hz,e'.trans (hk.trans he.symm)⟩)
      . rw[if_neg hk,if_neg fun e=>hk e.symm]
    . rename_i he
      have h1:=(yF h).1;rw[show i - j=(i - (j+1))+1 by omega,List.eraseIdx_cons_succ,pI,ih (j+1) n2 h,pI];by_cases hk:k'=k
      . subst hk
        rw[if_neg he,if_pos rfl,if_pos rfl]
      . simp only[if_neg hk]
  simpa using key l 0 h hf
theorem XI{l:List (κ × α × Nat)}(h:jR l)(k:κ):jR (lT l k):=by
 unfold lT;split
 . exact List.Nodup.sublist ((List.eraseIdx_sublist l _).map _) h
 . exact h
end
end Go.Vx
namespace Go.Vx
open Go.RowKit
section
variable {P : Program} {T : Tab} {H M : aH} {Q : Exit → St → aH → Prop} {c : Code} {s : St}
theorem OkM.ghost(t:Nat)(e:TypeId){env:List (Nat × D)}{box:List (List D)}{row:Rows}{n:Nat}(ht:look env t = .aO)
    (h:gZ row (some (e,[])) fun row'=>natLit row.length fun r=>OkM P T H c Q ⟨(t,.own r 0) :: env,box,row',n⟩ M):OkM P T H c Q ⟨env,box,row,n⟩ M:=by
 refine⟨fun w0 F V μ ω a w hSM=>?_⟩;have hS:=hSM.sim;simp only[kY,kW] at h;have hM:=hS.mem.newRow (w':=w) (Ext.refl w) (v:=.slice none 0 0) (e:=e) (xs:=[]) (vals:=[]) ⟨sI,.inl ⟨rfl,rfl⟩⟩ ⟨sI,sI,sI⟩ (by simp[Value.ownBlock]);have hv:=hS.env t;dsimp only at hv;rw[ht] at hv;refine h.run w0 F V μ (ω++[.slice none 0 0]) a w (hSM.of ⟨hS.tmps,hS.defers,fun x=>?_,hM⟩);show RS _ _ _ _ _ (look ((t,.own row.length 0) :: env) x);unfold look;split
 . rename_i hb
   rw[<- dO hb,hv.iY];have hl:row.length=ω.length:=hS.mem.rl.symm;refine .own _ 0 none 0 0 ?_ (Nat.le_refl _);rw[hl,List.getElem?_append_right (Nat.le_refl _)];simp
 . exact (hS.env x).mono (.refl V) (.refl μ) (.append _ _)
theorem OkM.oG(i j:Nat)(e:TypeId){env:List (Nat × D)}{box:List (List D)}{cs:List D}{row:Rows}{n:Nat}(hi:box[i]? = some cs)(hj:cs[j]? = some .aO)
    (h:gZ row (some (e,[])) fun row'=>natLit row.length fun r=>fH cs j (.own r 0) fun cs'=>fH box i cs' fun eU=>OkM P T H c Q ⟨env,eU,row',n⟩ M):OkM P T H c Q ⟨env,box,row,n⟩ M:=by
 refine⟨fun w0 F V μ ω a w hSM=>?_⟩;have hS:=hSM.sim;simp only[kY,kW] at h;obtain⟨hjl,h⟩:=gW _ _ _ _ h;obtain⟨hil,h⟩:=gW _ _ _ _ h;have hM:=hS.mem.newRow (w':=w) (Ext.refl w) (v:=.slice none 0 0) (e:=e) (xs:=[]) (vals:=[]) ⟨sI,.inl ⟨rfl,rfl⟩⟩ ⟨sI,sI,sI⟩ (by simp[Value.ownBlock]);have hl:row.length=ω.length:=hS.mem.rl.symm;have hown:RS (ah T) V μ (ω++[.slice none 0 0]) (.slice none 0 0) (.own row.length 0):=by
  refine .own _ 0 none 0 0 ?_ (Nat.le_refl _);rw[hl,List.getElem?_append_right (Nat.le_refl _)];simp
 refine h.run w0 F V μ (ω++[.slice none 0 0]) a w (hSM.of ⟨hS.tmps,hS.defers,fun x=>(hS.env x).mono (.refl V) (.refl μ) (.append _ _),?_⟩);refine⟨hM.below,hM.vok,hM.vle,hM.gu,by simpa using hM.bl,?_,hM.rl,hM.hrow,hM.uniq,hM.new,hM.eF,hM.away⟩;intro q g cs2 h1 h2;by_cases hq:q=i
 . subst hq
   rw[List.getElem?_set_self hil] at h2;cases h2;obtain⟨us,t',a1,b,c',d,ty⟩:=hM.hbox q g cs h1 hi;refine⟨us,t',a1,by simpa using b,c',fun k v d' e1 e2=>?_,Ej ty j rfl⟩;by_cases hk:k=j
   . subst hk
     rw[List.getElem?_set_self hjl] at e2;cases e2;have:=d k v _ e1 hj;rw[this.iY];exact hown
   . rw[List.getElem?_set_ne (Ne.symm hk)] at e2
     exact d k v d' e1 e2
 . rw[List.getElem?_set_ne (Ne.symm hq)] at h2
   exact hM.hbox q g cs2 h1 h2
theorem OkM.acG{env:List (Nat × D)}{box:List (List D)}{row:Rows}{n:Nat}(hi:uH box=true)(h:pbE box env fun env'=>OkM P T H c Q ⟨env',[],[],n⟩ M):OkM P T H c Q ⟨env,box,row,n⟩ M:=by
 refine⟨fun w0 F V μ ω a w hSM=>?_⟩;have hS:=hSM.sim;have hM:=hS.mem;dsimp only at hM
 classical
 obtain⟨V',hV'⟩:∃ V':Vw,V'=(fun p=>if ∃ i:Nat,μ[i]? = some p.block then w.cell? p else V p:Vw):=⟨(fun p=>if ∃ i:Nat,μ[i]? = some p.block then w.cell? p else V p:Vw),rfl⟩;have hle:VLe V V':=fun p v hp=>by
  rw[hV'];dsimp only;split
  . exact hM.vok.2 p v hp
  . exact hp
 have hok:VOk V' w:=⟨⟨fun p v hp=>hle p v (hM.vok.1.1 p v hp),hM.vok.1.2⟩,fun p v hp=>by
  rw[hV'] at hp;dsimp only at hp;split at hp
  . exact hp
  . exact hM.vok.2 p v hp⟩
 obtain⟨env',hk,he⟩:=OZ (n:=n) hM hi hle (fun i g off v h1 h2=>by rw[hV'];dsimp only;rw[if_pos ⟨i,h1⟩];exact h2) h;refine hk.run w0 F V' [] [] a w (hSM.of ⟨hS.tmps,hS.defers,fun t=>.imm _ _ (he t _ (hS.env t)),?_⟩);refine⟨hM.below,hok,fun p v hp=>hle p v (hM.vle p v hp),fun p hp=>?_,rfl,sI,rfl,sI,fun l l' g h1=>?_,fun l g h1=>?_,fun p u l _ h1=>?_,fun x hx=>let ⟨a,b,c,d,e⟩:=hM.away x hx;⟨a,b,fun l h1=>by
     cases l with
     | inl i=>simp[Own] at h1
     | inr r=>obtain⟨v,x,h1,_⟩:=h1;simp at h1,fun p u hp hb=>by
     rw[hV'] at hp;dsimp only at hp;split at hp
     . rename_i hh
       obtain⟨i,hi⟩:=hh;exact c (.inl i) (hb ▸ hi)
     . exact d p u hp hb,e⟩⟩
 . rw[<- hM.gu p hp,hV']
   dsimp only;rw[if_neg];rintro⟨i,hi⟩;have:=(hM.new (.inl i) p.block hi).1;omega
 all_goals
  cases l with
  | inl i=>simp[Own] at h1
  | inr r=>obtain⟨v,x,h1,_⟩:=h1;simp at h1
end
end Go.Vx
namespace Go.Vx
open Go.RowKit
def CO(P:Program)(T:Tab)(H M:aH)(s:St)(o:Oper)(K:D->St->aH->Prop):Prop:=
 match o.op with
 | .lookup t x i ok=>FW P H M t (s.get x) (s.get i) ok fun d=>K d s M
 | .mapUpdate t m k x=>Gq P M t (s.get m) (s.get k) (s.get x) fun M=>K (.tup []) s M
 | .call { callee:=.value (.func f),args,argTypes }=>dop P T s o (fun d s=>K d s M)\/FV P T H M s f argTypes.toList (s.gets args.toList) K
 | _=>dop P T s o fun d s=>K d s M
def nG(P:Program)(T:Tab)(H:aH)(ops:List Oper)(A:Waits):Pl->Bool->List (Nat × Src)->St->aH->(St->aH->Prop)->Prop
 | .nil,f,_,s,M,K=>match f with|true=>True|false=>K s M
 | .q i r,_,ps,s,M,K=>match ops[i]? with
  | none=>False
  | some o=>lC ops s o.guard
   (fun s=>qop P T s o fun d s'=>gy s' o.dst d fun s'=>nG P T H ops A r false ((i,BL s o) :: ps) s' M K)
   (fun s=>gy s o.dst (.tup []) fun s=>nG P T H ops A r false ((i,.reg) :: ps) s M K)
 | .l i r,_,ps,s,M,K=>match ops[i]? with
  | none=>False
  | some o=>lC ops s o.guard
   (fun s=>wF (dW A) i s (nH s o) ps <| CO P T H M s o fun d s M=>gy s o.dst d fun s=>nG P T H ops A r false (iG (dW A) i ps) s M K)
   (fun s=>gy s o.dst (.tup []) fun s=>nG P T H ops A r false (iG (dW A) i ps) s M K)
 | .alt i a r,_,ps,s,M,K=>(match ops[i]? with
  | none=>False
  | some o=>lC ops s o.guard
   (fun s=>wF (dW A) i s (nH s o) ps <| CO P T H M s o fun d s M=>gy s o.dst d fun s=>nG P T H ops A a false (iG (dW A) i ps) s M K)
   (fun s=>gy s o.dst (.tup []) fun s=>nG P T H ops A a false (iG (dW A) i ps) s M K))/\nG P T H ops A r true ps s M K
section
variable {w0 w w' : World} {F : Fr} {V : Vw} {μ : List Nat} {ω : List Value} {s : St} {a : Act} {P : Program} {T : Tab} {H M : aH}
theorem VN{g:Nat}{o o':Obj}(hg:w.heap[g]? = some o)(hn:noC o){q:Addr}{v:Value}(hc:w.cell? q=some v):(w.putObj g o').cell? q=some v:=by
 refine (World.cell?_of_block (World.putObj_heap_other fun e=>?_)).trans hc;obtain⟨o2,ho2,hc2⟩:=cells_of_cell hc;rw[e,hg] at ho2;cases ho2;cases o<;>simp_all[Obj.isCells]
 exact hn _ _ _ rfl
def Kt(P:Program)(T:Tab)(w0:World)(F:Fr)(H:aH)(E:Src)(V:Vw)(μ:List Nat)(ω:List Value)(a:Act)(w:World)(o:Oper)(K:D->St->aH->Prop):Prop:=
 ∀ (next:Act->World->Prop) (Q:Exit->Act->World->Prop),
  (∀ d v s V' μ' ω' M' w',K d s M'->RS (ah T) V' μ' ω' v d->dD (ah T) w0 F V' μ' ω' s a w' H M'->Step E V μ ω w V' μ' ω' w'->next (a.put o.dst v) w')->o.wp P a w next Q
theorem Vl(hS:dD (ah T) w0 F V μ ω s a w H M){dst:Option Nat}{type:TypeId}{pos:String}{after:Array Edge}{guard:Option (Nat × Bool)}{f:FuncId}{args:Array Operand}{argTypes:Array TypeId}{K:D->St->aH->Prop}
    (h:FV P T H M s f argTypes.toList (s.gets args.toList) K):Kt P T w0 F H .none V μ ω a w ⟨dst,.call ⟨.value (.func f),args,argTypes⟩,type,pos,after,guard⟩ K:=by
 obtain⟨V1,ds1,s1,h,hv1,hS1,hle1⟩:=lW 8 hS.sim (hS.sim.gets _) h;obtain⟨es,⟨R,hf,h⟩,hes,hri⟩:=oW argTypes.toList ds1 _ _ hv1 h;obtain⟨env,box,row,n⟩:=s1;intro next Q hn
 have eH:=hf.run V1 w (args.map a.eval) hS1.mem.vok (fun x hx=>hS.read hx) (by have:=hv1.1;simp at this ⊢;omega) (fun j v d h1 h2=>hri j v d (by simpa using h1) h2);unfold Oper.wp;have hrun:(execOp a.eval ⟨dst,.call ⟨.value (.func f),args,argTypes⟩,type,pos,after,guard⟩).run P w = .ok (.enter f (args.map a.eval)) w:=by
  simp only[execOp,resolve,Act.eval,Deferred.ofValue,invoke,Sem.run_bind,Sem.run_pure,Result.andThen_ok];rw[show (#[]++args.map a.eval)++#[]=args.map a.eval by simp,hf.call]
 rw[hrun];show Calls P f (args.map a.eval) w _;refine eH.mono ?_;rintro e w'' ⟨V',ω0,row0,v,d,M',rfl,hR,hrs,hres,hM',hnd⟩;have hMm:=hS1.mem.call hres;have hk:=h d row0 M' hR;have hl:row.length=ω.length:=hS1.mem.rl.symm;dsimp only at hk;rw[hl] at hk;obtain⟨d',hk,hr⟩:=sJ (μ:=μ) (V':=V') (ω':=ω++ω0) (VLe.refl V') (fun r u hu=>by rw[List.getElem?_append_right oA,Nat.add_sub_cancel];exact hu) hrs hk;rw[oz,Jv] at hk;have hx:Ext w w'':=hres.below;obtain⟨ms,d1,d2,d3⟩:=hS1.defers.marks;have hlt:∀ x ∈ M++F.kp,x.1<w.heap.size:=fun x hx=>(Array.getElem?_eq_some_iff.1 (hS.sim.defers.kept x hx).1).1
 have hbase:=hS.sim.mem.below.size;refine hn d' v _ V' μ (ω++ω0) (M'++M) w'' hk hr ⟨⟨hS1.tmps,⟨⟨ms,d1,d2,fun D hD=>?_⟩,fun x hx'=>?_⟩,fun t=>(hS1.env t).mono hres.le (.refl μ) (.append _ _),hMm.fr rfl⟩,?_,hS.old⟩ (.ext (fun p u hp=>hres.le p u (hle1 p u hp)) (.refl _) (.append _ _) hx)
 . obtain⟨f1,f2,f3⟩:=d3 D hD
   refine⟨hx.heap f1,f2,fun x hx'=>?_⟩;have hx2:x ∈ M'++M++F.kp:=hx';rw[List.append_assoc] at hx2;rcases bQ.1 hx2 with hx2|hx2
   . have h1:=(hM' x hx2).2.2
     have h2:=(Array.getElem?_eq_some_iff.1 f1).1;omega
   . exact f3 x hx2
 . have hx2:x ∈ M'++M++F.kp:=hx'
   rw[List.append_assoc] at hx2;rcases bQ.1 hx2 with hx2|hx2
   . obtain⟨h1,h2,h3⟩:=hM' x hx2
     exact⟨h1,h2,Nat.le_trans hbase h3⟩
   . obtain⟨h1,h2,h3⟩:=hS.sim.defers.kept x hx2
     exact⟨hx.heap h1,h2,h3⟩
 . rw[List.append_assoc,List.map_append]
   refine List.nodup_append.2 ⟨hnd,hS.nodup,fun x hx y hy e=>?_⟩;obtain⟨z,hz,rfl⟩:=List.mem_map.1 hx;obtain⟨z2,hz2,rfl⟩:=List.mem_map.1 hy;have h1:=(hM' z hz).2.2;have h2:=hlt z2 hz2;omega
theorem Ob(hT:TOk P T)(hS:dD (ah T) w0 F V μ ω s a w H M){o:Oper}{K:D->St->aH->Prop}(h:CO P T H M s o K):Kt P T w0 F H (nH s o) V μ ω a w o K:=by
 obtain⟨dst,op,type,pos,after,guard⟩:=o;have plain:dop P T s ⟨dst,op,type,pos,after,guard⟩ (fun d s=>K d s M)->Kt P T w0 F H (nH s ⟨dst,op,type,pos,after,guard⟩) V μ ω a w ⟨dst,op,type,pos,after,guard⟩ K:=fun h next Q hn=>
  Dz hT hS.sim h next Q fun d v s' V' μ' ω' w' hk hr hS' hst=>hn d v s' V' μ' ω' M w' hk hr (hS.of hS') hst
 cases op
 case lookup t x i ok=>
  intro next Q hn
  unfold CO FW at h;dsimp only at h;split at h
  case h_2=>exact h.elim
  rename_i g hx;obtain⟨κ,α,_,kd,f,l,c,k,hty,hg,hi,hk⟩:=h;have hxv:=hS.sim.get x;rw[hx] at hxv;have hiv:=hS.sim.get i;rw[hi] at hiv;obtain⟨kt,et,_,hkey,_⟩:=hty.und;have e2:=oZ hiv (hkey.ground k);have hl:=hty.lookup (hS.read hg) k ok;have hst:Step .none V μ ω w V μ ω w:=.ext (fun _ _ h=>h) (.refl _) (.refl _) (Ext.refl w);unfold Oper.wp
  cases ok with
  | true=>
   have hrun:(execOp a.eval ⟨dst,.lookup t x i true,type,pos,after,guard⟩).run P w = .ok (.value (.tuple #[toV (f (lk l k)),.bool (lk l k).isSome])) w:=by
    simp[execOp,hxv.mv_,e2,hl]
   rw[hrun];refine hn _ _ s V μ ω M w hk (.tup _ _ rfl fun j v d h1 h2=>?_) hS hst
   match j with
   | 0=>simp at h1 h2;subst h1 h2;exact rE (hty.vg _)
   | 1=>simp at h1 h2;subst h1 h2;exact .imm _ _ (.b _ _ Iff.rfl)
   | j+2=>simp at h1
  | false=>
   have hrun:(execOp a.eval ⟨dst,.lookup t x i false,type,pos,after,guard⟩).run P w = .ok (.value (toV (f (lk l k)))) w:=by
    simp[execOp,hxv.mv_,e2,hl]
   rw[hrun];exact hn _ _ s V μ ω M w hk (rE (hty.vg _)) hS hst
 case mapUpdate t m k x=>
  intro next Q hn
  unfold CO Gq at h;dsimp only at h;split at h
  case h_2=>exact h.elim
  rename_i g hx;obtain⟨κ,α,_,kd,f,l,c,n,key,val,hty,hg,hi,hvl,hk⟩:=h;have hxv:=hS.sim.get m;rw[hx] at hxv;have hiv:=hS.sim.get k;rw[hi] at hiv;have hvv:=hS.sim.get x;rw[hvl] at hvv;obtain⟨kt,et,_,hkey,_⟩:=hty.und;have e2:=oZ hiv (hkey.ground key);have e3:=oZ hvv (hty.vg _);rw[vW] at hk;have hkg:=hS.kept (aU hg);have hu:=hty.update hkg.1 key val;unfold Oper.wp;have hrun:(execOp a.eval ⟨dst,.mapUpdate t m k x,type,pos,after,guard⟩).run P w = .ok .skip (w.putObj g (bG kd f (aX l c key val).1 (aX l c key val).2)):=by
   simp[execOp,hxv.mv_,e2,e3,hu]
  rw[hrun];exact hn (.tup []) undef s V μ ω _ _ hk (RS.tup [] #[] rfl (fun j v d h=>by simp at h)) (hS.put _ (yI _ _) hg)
   ⟨fun _ _ h=>h,.refl _,fun _ _ _ _ h=>h,fun q v hc _=>VN hkg.1 hkg.2.1 hc⟩
 case call c=>
  obtain⟨callee,args,argTypes⟩:=c
  cases callee with
  | invoke r m=>exact plain h
  | builtin b=>exact plain h
  | value f=>
   cases f<;>first|exact plain h|skip
   rcases h with h|h
   . exact plain h
   . exact Vl hS h
 all_goals exact plain h
theorem sK(hT:TOk P T){ops:List Oper}{A:Waits}(hns:Region.noSelect ops.toArray=true)(hA:wC ops.toArray A=true){Q:Exit->Act->World->Prop}(hQ:∀ c a w,¬ Q (.panic c) a w) :
    ∀ (p:Pl) (f:Bool) (n:Nat) (listed:Array Bool) (ps:oK) (sps:List (Nat × Src)) (s:St) (V:Vw) (μ:List Nat) (ω:List Value) (a:Act) (w:World) (M:aH) (K:St->aH->Prop),
     kJ ops.toArray p f n listed=true->Closed ops.toArray listed->dD (ah T) w0 F V μ ω s a w H M->jG (kF V μ ω w) ps sps->nG P T H ops A p f sps s M K ->
     (∀ s M V μ ω a w,K s M->dD (ah T) w0 F V μ ω s a w H M->Q .normal a w) ->
     match f with
     | false=>mD P ops.toArray (dW A) Q p.depth ps listed a w
     | true=>∀ j ∈ p.heads,wpOp P ops.toArray Q j (fun a' w'=>(∀ x ∈ ps,dW A x.1 j=false->x.2 w')/\mD P ops.toArray (dW A) Q n (ps.filter fun x=>!dW A x.1 j) (listed.setIfInBounds j true) a' w') a w
 | .nil,f,n,listed,ps,sps,s,V,μ,ω,a,w,M,K,hB,hcl,hS,hps,h,hq=>by
  cases f with
  | true=>intro j hj;cases hj
  | false=>exact⟨by simpa[kJ] using hB,hq _ _ _ _ _ _ _ h hS⟩
 | .q i r,f,n,listed,ps,sps,s,V,μ,ω,a,w,M,K,hB,hcl,hS,hps,h,hq=>by
  cases f with
  | true=>intro j hj;cases hj
  | false=>
  simp only[kJ,Bool.not_false,Bool.true_and,Bool.and_eq_true] at hB;obtain⟨⟨⟨hr,hf⟩,hq1⟩,hB⟩:=hB;simp only[nG] at h
  cases ho:ops[i]? with
  | none=>rw[ho] at h;exact h.elim
  | some o=>
   rw[ho] at h;dsimp only at h;have ho':ops.toArray[i]? = some o:=by simpa using ho
   rw[ho'] at hq1;have hri:i ∈ Region.ready .any ops.toArray listed:=by simpa using hr
   have hall:∀ x ∈ ps,x.2 w:=fun x hx=>let ⟨y,hy⟩:=hps.left x hx;hy.pY
   rcases mY (o:=o) hS.sim h with⟨hw,s1,h,hS1⟩|⟨hw,s1,h,hS1⟩
   . obtain⟨d,v,s2,h,hr2,hS2,p,n,hsrc,hq2⟩:=yx hT hS1 h
     obtain⟨s3,h,hS3⟩:=gV hS2 hr2 h;replace hS3:=hS.of hS3;refine xX (C:=mF p n w) (v:=v) (fun i j=>vH hA i j) ho' (Region.noSelect_spec hns) (fun c a w hc=>absurd hc (hQ _ _ _)) r.depth ps listed a w hcl (Region.free_spec ho' hf) hri
      (.inl ⟨hw,fun w' hk=>G9 (by simpa using hq1) (hq2 w' ?_)⟩) (fun _ _ _ h=>h) hall ?_
     . unfold QR
       split
       . exact hk
       . rename_i heq;simp[isQ,heq] at hq1
       . rename_i heq;simp[isQ,heq] at hq1
       . trivial
     . exact sK hT hns hA hQ r false 0 _ _ _ s3 V μ ω _ w M K hB (hcl.set hri) hS3 (.cons ⟨rfl,p,n,w,rfl,hsrc,fun _ _ _ h=>h⟩ hps) h hq
   . obtain⟨s3,h,hS3⟩:=gV hS1 (v:=undef) (d:=.tup []) (RS.tup [] #[] rfl (fun j v d h=>by simp at h)) h
     replace hS3:=hS.of hS3;refine xX (C:=mF ⟨0,0,none⟩ 0 w) (v:=undef) (fun i j=>vH hA i j) ho' (Region.noSelect_spec hns) (fun c a w hc=>absurd hc (hQ _ _ _)) r.depth ps listed a w hcl (Region.free_spec ho' hf) hri
      (.inr ⟨hw,rfl⟩) (fun _ _ _ h=>h) hall ?_
     exact sK hT hns hA hQ r false 0 _ _ _ s3 V μ ω _ w M K hB (hcl.set hri) hS3 (.cons ⟨rfl,⟨0,0,none⟩,0,w,rfl,iL.zero _,fun _ _ _ h=>h⟩ hps) h hq
 | .l i r,f,n,listed,ps,sps,s,V,μ,ω,a,w,M,K,hB,hcl,hS,hps,h,hq=>by
  cases f with
  | true=>intro j hj;cases hj
  | false=>
  simp only[kJ,Bool.not_false,Bool.true_and,Bool.and_eq_true,beq_iff_eq] at hB;obtain⟨hr,hB⟩:=hB;simp only[nG] at h
  cases ho:ops[i]? with
  | none=>rw[ho] at h;exact h.elim
  | some o=>
   rw[ho] at h;dsimp only at h;have ho':ops.toArray[i]? = some o:=by simpa using ho
   have hri:i ∈ Region.ready .any ops.toArray listed:=by rw[hr];simp
   refine⟨fun h0=>(by rw[hr] at h0;cases h0),fun j hj=>?_⟩;rw[hr] at hj;have hji:j=i:=by simpa using hj
   subst hji;unfold wpOp;rw[ho'];dsimp only;rcases mY (o:=o) hS.sim h with⟨hw,s1,h,hS1⟩|⟨hw,s1,h,hS1⟩
   . rw[if_pos hw]
     obtain⟨h,hst⟩:=zI hS1.mem hps h;refine .inl (Ob hT (hS.of hS1) h _ _ fun d v s2 V2 μ2 ω2 M2 w2 hk hr2 hS2 hstep=>?_);obtain⟨h1,h2⟩:=hst _ _ _ _ hstep;obtain⟨s3,h,hS3⟩:=gV hS2.sim hr2 hk;replace hS3:=hS2.of hS3;exact⟨h1,sK hT hns hA hQ r false 0 _ _ _ s3 _ _ _ _ w2 M2 K hB (hcl.set hri) hS3 h2 h hq⟩
   . rw[if_neg (by rw[hw];simp)]
     obtain⟨s3,h,hS3⟩:=gV hS1 (v:=undef) (d:=.tup []) (RS.tup [] #[] rfl (fun j v d h=>by simp at h)) h;replace hS3:=hS.of hS3;exact⟨fun x hx _=>let ⟨y,hy⟩:=hps.left x hx;hy.pY,sK hT hns hA hQ r false 0 _ _ _ s3 _ _ _ _ w M K hB (hcl.set hri) hS3 (hps.filter fun _ _ h=>h.1) h hq⟩
 | .alt i b r,f,n,listed,ps,sps,s,V,μ,ω,a,w,M,K,hB,hcl,hS,hps,h,hq=>by
  simp only[kJ,Bool.and_eq_true] at hB;obtain⟨⟨⟨hf,hri⟩,hBa⟩,hBr⟩:=hB;have hri:i ∈ Region.ready .any ops.toArray listed:=by simpa using hri
  simp only[nG] at h;obtain⟨h,hrest⟩:=h;have hone:wpOp P ops.toArray Q i (fun a' w'=>(∀ x ∈ ps,dW A x.1 i=false->x.2 w')/\mD P ops.toArray (dW A) Q b.depth (ps.filter fun x=>!dW A x.1 i) (listed.setIfInBounds i true) a' w') a w:=by
   cases ho:ops[i]? with
   | none=>rw[ho] at h;exact h.elim
   | some o=>
    rw[ho] at h;dsimp only at h;have ho':ops.toArray[i]? = some o:=by simpa using ho
    unfold wpOp;rw[ho'];dsimp only;rcases mY (o:=o) hS.sim h with⟨hw,s1,h,hS1⟩|⟨hw,s1,h,hS1⟩
    . rw[if_pos hw]
      obtain⟨h,hst⟩:=zI hS1.mem hps h;refine .inl (Ob hT (hS.of hS1) h _ _ fun d v s2 V2 μ2 ω2 M2 w2 hk hr2 hS2 hstep=>?_);obtain⟨h1,h2⟩:=hst _ _ _ _ hstep;obtain⟨s3,h,hS3⟩:=gV hS2.sim hr2 hk;replace hS3:=hS2.of hS3;exact⟨h1,sK hT hns hA hQ b false 0 _ _ _ s3 _ _ _ _ w2 M2 K hBa (hcl.set hri) hS3 h2 h hq⟩
    . rw[if_neg (by rw[hw];simp)]
      obtain⟨s3,h,hS3⟩:=gV hS1 (v:=undef) (d:=.tup []) (RS.tup [] #[] rfl (fun j v d h=>by simp at h)) h;replace hS3:=hS.of hS3;exact⟨fun x hx _=>let ⟨y,hy⟩:=hps.left x hx;hy.pY,sK hT hns hA hQ b false 0 _ _ _ s3 _ _ _ _ w M K hBa (hcl.set hri) hS3 (hps.filter fun _ _ h=>h.1) h hq⟩
  have hmore:=sK hT hns hA hQ r true b.depth listed ps sps s V μ ω a w M K hBr hcl hS hps hrest hq;dsimp only at hmore
  cases f with
  | true=>
   intro j hj;have hn:b.depth=n:=Nat.eq_of_beq_eq_true hf;subst hn;rcases List.mem_cons.1 hj with rfl|hj
   . exact hone
   . exact hmore j hj
  | false=>
   have hr:Region.ready .any ops.toArray listed=i :: r.heads:=by simpa using hf
   refine⟨fun h0=>(by rw[hr] at h0;cases h0),fun j hj=>?_⟩;rw[hr] at hj;rcases List.mem_cons.1 hj with rfl|hj
   . exact hone
   . exact hmore j hj
theorem OkM.dP(hT:TOk P T)(hm:P.follows .mixedOrders=true){s:St}{M:aH}{Q:Exit->St->aH->Prop}{id:Nat}{l:List Oper}(A:Waits)(p:Pl)(hB:ED l.toArray A p=true)(h:nG P T H l A p false [] s M (Q .normal)) :
    OkM P T H (.region id l.toArray true) Q s M:=by
 refine⟨fun w0 F V μ ω a w hS=>?_⟩;simp only[ED,Bool.and_eq_true,beq_iff_eq] at hB;obtain⟨⟨⟨hns,hA⟩,hlen⟩,hB⟩:=hB;have hd:Ext w { w with drawn:=w.drawn+1 }:=(Below.refl w.heap.size w).drew;refine wp_mono (Q:=fun e a' w'=>e = .normal/\∃ s' V' μ' ω' M',Q .normal s' M'/\dD (ah T) w0 F V' μ' ω' s' a' w' H M') (wp_region_any hm ?_) ?_
 . refine Dq (bef:=dW A) _ [] _ _ _ ?_
   have hz:∀ m j:Nat,(Array.replicate m false).getD j false=false:=fun m j=>by
    rcases Nat.lt_or_ge j m with h|h<;>simp[h]
   have hw:=sK hT hns hA (Q:=fun e a' w'=>e = .normal/\∃ s' V' μ' ω' M',Q .normal s' M'/\dD (ah T) w0 F V' μ' ω' s' a' w' H M') (fun c a w h=>by cases h.1) p false 0 _ [] [] s V μ ω a _ M _ hB
    (fun j o _ hl=>by rw[hz] at hl;cases hl) (hS.ext hd) .nil h fun s' M' V' μ' ω' a' w' hk hS'=>⟨rfl,s',V',μ',ω',M',hk,hS'⟩
   rw[hlen] at hw;exact hw
 . rintro e a' w' ⟨rfl,s',V',μ',ω',M',hk,hS'⟩
   exact⟨s',V',μ',ω',M',hk,hS'⟩
end
end Go.Vx
namespace Go.Proofs.YtnlingegeangmaaGreatDoor
open Go Go.Vx
def fI(o:Option Int):D:=.i .i64 (o.getD 0)
theorem dH:MTy Tryz.prog 145 D.s fI:=by
 refine⟨⟨9,3,Tryz.underlying145,keyS Tryz.underlying9,fun w=>?_⟩,fun o=>rfl⟩
 kernel_rfl
def zf(x:D)(b:Box)(g:Nat):D:=.agg (x :: b.row++[.mv (some g)])
def iF(l:List (Str × Int × Nat))(ps:List Str):Prop:=(∀ s,s ∉ ps->lk l s=none)/\∀ (k:Nat) s,ps[k]? = some s->lk l s=some (k:Int)
theorem RU(b:Box)(hi:b.ins.l.length<=1048576)(ho:b.outs.l.length<=1048576)(k:Nat)(x:Str)(hx:(b.ins.l++b.outs.l)[k]? = some x)(kk:Int)(hk:kk=k):aF Tryz.prog T 122 [.agg b.row,.i .i64 kk] (fun d _=>d = .s x):=by
 subst hk;have h1:(b.ins.l.map aG).length=b.ins.l.length:=sI;have h2:(b.outs.l.map aG).length=b.outs.l.length:=sI;refine aF.aB tok Tryz.func122 rfl Tryz.call122 sI ?_;by_cases hkl:k<b.ins.l.length
 . rw[List.getElem?_append_left hkl] at hx
   have hx2:(b.ins.l.map aG)[k]? = some [.s x]:=by simp[hx,aG]
   (try (conv=>whnf));repeat' (first|refine Ok.seq ?_|((first|refine Ok.region tok ?_|refine Ok.cond ?_|refine Ok.ret ?_|refine ix _ aS ?_);conv=>whnf)|(refine bI ?_ ?_<;>intro<;>first|omega|conv=>whnf)|fail)
   refine Or.inl ?_;(conv=>whnf);rfl
 . rw[List.getElem?_append_right oA] at hx
   have hxl:=(aK.1 hx).1;have hx2:(b.outs.l.map aG)[k - b.ins.l.length]? = some [.s x]:=by simp[hx,aG]
   have e1:((k:Int) - b.ins.l.length).toNat=k - b.ins.l.length:=oA;(try (conv=>whnf));repeat' (first|refine Ok.seq ?_|((first|refine Ok.region tok ?_|refine Ok.cond ?_|refine Ok.skip ?_|refine Ok.ret ?_|refine nI ?_|refine vU oA oA fun _ _=>?_);conv=>whnf)|(refine bI ?_ ?_<;>intro<;>first|omega|conv=>whnf)|fail)
   all_goals
    rename_i y hy;rw[h1,e1,hx] at hy;cases hy;refine Or.inl ?_;(conv=>whnf);rfl
open Classical in
/-- The side that is wanted. -/
noncomputable def jS(p:Prop)(b:bf):List Str:=if p then b.ins else b.outs
theorem Y1(b:bf):jS True b=b.ins:=if_pos trivial
theorem Qv(b:bf):jS False b=b.outs:=if_neg id
theorem yJ{p:Prop}(h:p)(b:bf):jS p b=b.ins:=if_pos h
theorem Az{p:Prop}(h:¬ p)(b:bf):jS p b=b.outs:=if_neg h
noncomputable def BG(g:Nat)(l:List (Str × Int × Nat))(c:Nat):aH:=[(g,bG D.s fI l c)]
noncomputable def FY(b:bf)(p:Prop)(s:Str):Int:=(jc (jS p b) (jS (¬ p) b) [] s).1
section
variable {l : List (Str × Int × Nat)} {u v : List Str} {s : Str}
theorem iF.vN(hl:iF l (u++v)):(lk l s).isSome=true ↔ s ∈ u++v:=by
 constructor
 . intro h
   refine Classical.byContradiction fun hn=>?_
   rw[hl.1 s hn] at h;cases h
 . intro h
   obtain⟨k,hk⟩:=List.getElem?_of_mem h;rw[hl.2 k s hk];rfl
theorem iF.left(hl:iF l (u++v))(h:s ∈ u):∃ k:Nat,lk l s=some (k:Int)/\k<u.length:=by
 obtain⟨k,hk⟩:=List.getElem?_of_mem h;have hku:=(aK.1 hk).1;exact⟨k,hl.2 k s (by rw[List.getElem?_append_left hku];exact hk),hku⟩
theorem iF.right(hl:iF l (u++v))(h:s ∈ v):∃ k:Nat,lk l s=some ((u.length+k:Nat):Int):=by
 obtain⟨k,hk⟩:=List.getElem?_of_mem h;exact⟨k,hl.2 _ s (by rw[List.getElem?_append_right oA,Nat.add_sub_cancel_left];exact hk)⟩
theorem iF.lt_iff(hl:iF l (u++v))(h:s ∈ u++v):(lk l s).getD 0<u.length ↔ s ∈ u:=by
 constructor
 . intro hk
   refine Classical.byContradiction fun hn=>?_
   obtain⟨k,e⟩:=hl.right ((bQ.1 h).resolve_left hn);rw[e] at hk;simp at hk;omega
 . intro hu
   obtain⟨k,e,hk⟩:=hl.left hu;rw[e];simp;omega
theorem iF.Y2(hl:iF l (u++v))(h:s ∈ u):s ∉ v:=by
 intro hv;obtain⟨k,e,hk⟩:=hl.left h;obtain⟨k2,e2⟩:=hl.right hv;rw[e] at e2;simp at e2;omega
end
theorem RV(cf:Config)(b:Box)(g:Nat)(l:List (Str × Int × Nat))(ck:Nat)(hl:iF l (b.ins.l++b.outs.l))(s:Str)(p:Prop) :
    dL Tryz.prog T (BG g l ck) 176 [zf (.ep cf.row) b g,.s s,.b p] (fun d rows M=>(d = .i .i64 (FY b.b p s)/\rows=[])/\M=[]):=by
 refine dL.oI tok Tryz.func176 rfl Tryz.call176 sI ?_;have h1:(b.ins.l.map aG).length=b.ins.l.length:=sI;have hs:=hl.vN (s:=s);have hlt:=hl.lt_iff (s:=s);have hnb:=hl.Y2 (s:=s);(try (conv=>whnf));repeat' (first|(refine⟨_,_,_,_,_,_,_,_,dH,mH,rfl,?_⟩;conv=>whnf)|refine OkM.seq ?_|((first|refine OkM.region tok ?_|refine OkM.cond ?_|refine OkM.skip ?_|refine OkM.ret ?_);conv=>whnf)|(refine bI ?_ ?_<;>intro<;>first|omega|conv=>whnf)|fail)
 all_goals
  refine Or.inl ?_;(conv=>whnf);refine⟨?_,rfl⟩;show D.i _ _=_;congr 1;unfold FY;rename_i hx
 . have hn:s ∉ b.ins.l++b.outs.l:=fun h=>hx (hs.2 h)
   have h2:∀ q,s ∉ jS q b.b:=fun q h=>by
    by_cases hq:q
    . rw[yJ hq] at h;exact hn (List.mem_append_left _ h)
    . rw[Az hq] at h;exact hn (List.mem_append_right _ h)
   rw[qO (h2 _) (h2 _)]
 . rename_i hy
   have hm:=hs.1 (Classical.not_not.1 hy);have hlt:=hlt hm;rw[h1] at hx;have h2:s ∉ jS p b.b/\s ∈ jS (¬ p) b.b:=by
    by_cases hq:p
    . rw[yJ hq,Az (fun g=>g hq)]
      have hnu:s ∉ b.ins.l:=fun h=>hx ⟨fun _=>hq,fun _=>hlt.2 h⟩
      exact⟨hnu,(bQ.1 hm).resolve_left hnu⟩
    . rw[Az hq,yJ hq]
      have hu:s ∈ b.ins.l:=Classical.byContradiction fun h=>hx ⟨fun g=>absurd (hlt.1 g) h,fun g=>absurd g hq⟩
      exact⟨hnb hu,hu⟩
   rw[vC h2.1 h2.2]
 . rename_i hy
   have hm:=hs.1 (Classical.not_not.1 hy);have hlt:=hlt hm;rw[h1] at hx;have hx:=Classical.not_not.1 hx;have h2:s ∈ jS p b.b:=by
    by_cases hq:p
    . rw[yJ hq];exact hlt.1 (hx.2 hq)
    . rw[Az hq]
      exact (bQ.1 hm).resolve_left fun h=>hq (hx.1 (hlt.2 h))
   rw[Ah h2 sI]
def kQ(l:List (Str × Int × Nat))(ps:List Str):Prop:=∀ s,(lk l s).isSome=true ↔ s ∈ ps
theorem kQ.nil:kQ [] []:=fun s=>by simp[Fj]
theorem kQ.put{l:List (Str × Int × Nat)}{ps:List Str}(h:kQ l ps)(c:Nat)(s:Str)(a:Int):kQ (aX l c s a).1 (ps++[s]):=fun t=>by
 rw[ug];by_cases ht:t=s
 . simp[ht]
 . rw[if_neg ht,h t]
   simp[ht]
theorem VO{want other:List Str}{l:List Str}{i:Nat}{s:Str}(h:l[i]? = some s)(hs:(jc want other [] s).1 ≠ 0):aV (jc want other) (l.take i) (l.drop i)=jc want other [] s:=by
 have hw:s ∉ want:=fun hw=>hs (by rw[Ah hw sI])
 have:jc want other (l.take i) s=jc want other [] s:=by
  by_cases ho:s ∈ other
  . rw[vC hw ho,vC hw ho]
  . rw[qO hw ho,qO hw ho]
 rw[iW h (by rw[this];exact hs),this]
theorem Oc{want other pre:List Str}{s:Str}(hs:(jc want other pre s).1=0):s ∈ want:=by
 refine Classical.byContradiction fun h=>?_
 by_cases ho:s ∈ other
 . rw[vC h ho] at hs;cases hs
 . rw[qO h ho] at hs;cases hs
theorem Pg(cf:Config)(b:Box)(g:Nat)(l:List (Str × Int × Nat))(ck:Nat)(hl:iF l (b.ins.l++b.outs.l))(names:List Str){rl sl:List (List D)}(hr:rl=names.map aG)(hn:names.length<=1048576)(p:Prop) :
    dL Tryz.prog T (BG g l ck) 173 [zf (.ep cf.row) b g,.lst 9 rl sl,.b p] (fun d rows M=>(d = .i .i64 (dG names (jS p b.b) (jS (¬ p) b.b))/\rows=[])/\M=[]):=by
 subst hr;refine dL.oI tok Tryz.func173 rfl Tryz.call173 sI ?_;have h1:(names.map aG).length=names.length:=sI;(try (conv=>whnf));repeat' (first|(refine⟨_,_,_,_,_,dH,fun _ _=>?_⟩;conv=>whnf)|refine OkM.seq ?_|(refine OkM.region tok ?_;conv=>whnf)|refine OkM.block ?_|fail)
 rename_i gc hgc;refine OkM.aT [2,3,7,14,15] [16] 0 1 (fun (x:Nat × List (Str × Int × Nat) × Nat)=>[.i .i64 (x.1:Nat)]) (fun _ b=>b) (fun _ r=>r) (fun (x:Nat × List (Str × Int × Nat) × Nat)=>[(gc,bG D.s fI x.2.1 x.2.2)]) (fun (x:Nat × List (Str × Int × Nat) × Nat)=>x.1<=names.length/\kQ x.2.1 (names.take x.1)/\dG names (jS p b.b) (jS (¬ p) b.b)=(aV (jc (jS p b.b) (jS (¬ p) b.b)) (names.take x.1) (names.drop x.1)).1) (fun (x:Nat × List (Str × Int × Nat) × Nat)=>names.length - x.1) ((0,[],0)) (⟨Nat.zero_le _,kQ.nil,rfl⟩) sT ?_;(conv=>whnf);refine⟨by ((conv=>whnf);first|rfl|(simp[ak, au, SI.row, Node.row, Pfx.row, Link.row, aG, Line.row, Rule.row, Box.row, Slc.row, Config.row];done)|(simp[ak, au, SI.row, Node.row, Pfx.row, Link.row, aG, Line.row, Rule.row, Box.row, Slc.row, Config.row];rw[IntKind.wrap_i64];omega)),?_⟩;rintro⟨i,lc,cc⟩ ⟨hi,hkm,hfe⟩;dsimp only at hi hkm hfe ⊢;(conv=>whnf);by_cases hil:i<names.length
 . obtain⟨s,hsi⟩:∃ s,names[i]? = some s:=⟨_,aC hil⟩
   have hsI:names[((i:Nat):Int).toNat]? = some s:=hsi;have htk:names.take (i+1)=names.take i++[s]:=by rw[List.take_add_one,hsi];rfl
   repeat' (first|((first|refine⟨_,_,_,_,_,_,_,_,dH,mH,rfl,?_⟩|refine⟨_,_,_,_,_,_,_,0,_,_,dH,rfl,rfl,rfl,?_⟩);conv=>whnf)|(refine Or.inr (Or.inl ?_);(conv=>whnf);(repeat (refine aI ?_;conv=>whnf));refine⟨_,(RV cf b g l ck hl s p).more (fun x hx=>List.mem_append_left _ hx),?_⟩;rintro _ _ _ ⟨⟨rfl,rfl⟩,rfl⟩<;>(conv=>whnf))|refine OkM.seq ?_|((first|refine OkM.region tok ?_|refine OkM.cond ?_);conv=>whnf)|refine OkM.block ?_|((first|refine OkM.skip ?_|refine OkM.ret ?_|refine nI ?_|refine ix _ aS ?_);conv=>whnf)|(refine bI ?_ ?_<;>intro<;>first|omega|conv=>whnf)|fail)
   . rename_i hx
     refine Or.inl ?_;(conv=>whnf);refine⟨?_,rfl⟩;rw[hfe,VO hsi hx];rfl
   . rename_i hx hy
     have hw:=Oc (Classical.not_not.1 hx);have hp:=(hkm s).1 hy;refine Or.inl ?_;(conv=>whnf);refine⟨?_,rfl⟩;rw[hfe,iW hsi (by rw[O9 hw hp];decide),O9 hw hp];rfl
   . rename_i hx hy
     have hw:=Oc (Classical.not_not.1 hx);have hp:s ∉ names.take i:=fun h=>hy ((hkm s).2 h)
     refine⟨(i+1,(aX lc cc s i).1,(aX lc cc s i).2),by dsimp only;omega,⟨by dsimp only;omega,by dsimp only;rw[htk];exact hkm.put cc s i,?_⟩,.refl _,?_⟩
     . rw[hfe,qN hsi (by rw[Ah hw hp])]
     . (conv=>whnf)
       rfl
 . obtain rfl:i=names.length:=oA
   rw[lX (Nat.le_refl _)] at hfe;(try (conv=>whnf));repeat' (first|refine OkM.seq ?_|((first|refine OkM.region tok ?_|refine OkM.cond ?_|refine OkM.exit ?_|refine OkM.ret ?_);conv=>whnf)|(refine bI ?_ ?_<;>intro<;>first|omega|conv=>whnf)|fail)
   all_goals first
    | omega
    | (refine Or.inl ?_;(conv=>whnf)
       exact⟨by rw[hfe];rfl,rfl⟩)
end Go.Proofs.YtnlingegeangmaaGreatDoor
namespace Go.Proofs.YtnlingegeangmaaGreatDoor
open Go Go.Vx
def bP(x:Nat × Prop):List D:=[.i .i64 (x.1:Nat),.b x.2]
def bY(bs:List bf):List (Nat × Prop):=bs.zipIdx.flatMap fun x=>(x.1.ins.map fun _=>(x.2,True))++x.1.outs.map fun _=>(x.2,False)
def aP(bs:List bf):List Str:=bs.flatMap yR
def jX(l:List (Str × Int × Nat))(ps:List Str):Prop:=∀ s,(s ∉ ps->lk l s=none)/\(s ∈ ps->lk l s=some (plc ps s))
theorem I5(s:Str)(t:List Str):∀ (l:List Str) (k:Nat),s ∈ l->iO s (l++t) k=iO s l k
 | [],_,h=>by cases h
 | x :: l,k,h=>by
  simp only[List.cons_append,iO];split
  . rfl
  . rename_i hx
    refine I5 s t l (k+1) ?_;rcases List.mem_cons.1 h with rfl|h
    . exact absurd rfl hx
    . exact h
theorem Qw(s:Str):∀ (l:List Str) (k:Nat),s ∉ l->iO s (l++[s]) k=(k+l.length:Nat)
 | [],k,_=>by simp[iO]
 | x :: l,k,h=>by
  simp only[List.cons_append,iO];rw[if_neg fun e=>h (by rw[e];simp)];rw[Qw s l (k+1) fun g=>h (by simp[g])];simp only[List.length_cons];omega
theorem jX.nil:jX [] []:=fun s=>⟨fun _=>rfl,fun h=>by cases h⟩
theorem jX.old{l:List (Str × Int × Nat)}{ps:List Str}(h:jX l ps){s:Str}(hs:s ∈ ps):jX l (ps++[s]):=fun t=>by
 by_cases ht:t ∈ ps
 . refine⟨fun g=>absurd (List.mem_append_left _ ht) g,fun _=>?_⟩
   rw[(h t).2 ht];congr 1;exact (I5 t [s] ps 0 ht).symm
 . refine⟨fun _=>(h t).1 ht,fun g=>?_⟩
   rcases bQ.1 g with g|g
   . exact absurd g ht
   . simp at g;subst g;exact absurd hs ht
theorem jX.new{l:List (Str × Int × Nat)}{ps:List Str}(h:jX l ps){s:Str}(hs:s ∉ ps)(c:Nat)(a:Int)(ha:a=(ps.length:Nat)):jX (aX l c s a).1 (ps++[s]):=fun t=>by
 subst ha;rw[ug];by_cases hts:t=s
 . subst hts
   rw[if_pos rfl];refine⟨fun g=>absurd (List.mem_append_right _ sI) g,fun _=>?_⟩;congr 1;have:=Qw t ps 0 hs;rw[Nat.zero_add] at this;exact this.symm
 . rw[if_neg hts]
   by_cases ht:t ∈ ps
   . refine⟨fun g=>absurd (List.mem_append_left _ ht) g,fun _=>?_⟩
     rw[(h t).2 ht];congr 1;exact (I5 t [s] ps 0 ht).symm
   . refine⟨fun _=>(h t).1 ht,fun g=>?_⟩
     rcases bQ.1 g with g|g
     . exact absurd g ht
     . simp at g;exact absurd g hts
theorem Nk{bs:List bf}{i:Nat}{b:bf}(h:bs[i]? = some b):aP (bs.take (i+1))=aP (bs.take i)++b.ins.map (dot b.name)++b.outs.map (dot b.name):=by
 unfold aP;rw[List.take_add_one,h,List.flatMap_append];simp[yR]
theorem XJ{bs:List bf}{i:Nat}{b:bf}(h:bs[i]? = some b):bY (bs.take (i+1))=bY (bs.take i)++(b.ins.map fun _=>(i,True))++b.outs.map fun _=>(i,False):=by
 have hi:=(aK.1 h).1;unfold bY;rw[List.take_add_one,h,List.zipIdx_append,List.flatMap_append];simp[Nat.min_eq_left (Nat.le_of_lt hi)]
theorem Qx(bs:List bf):(bY bs).length=(aP bs).length:=by
 have key:∀ (l:List bf) (k:Nat),((l.zipIdx k).flatMap fun x=>(x.1.ins.map fun _=>(x.2,True))++x.1.outs.map fun _=>(x.2,False)).length=(aP l).length:=by
  intro l
  induction l with
  | nil=>intro k;rfl
  | cons b l ih=>
   intro k;simp only[List.zipIdx_cons,List.flatMap_cons,List.length_append,ih,aP,yR,bV]
 exact key bs 0
theorem XK(bs:List bf){i:Nat}{b:bf}(h:bs[i]? = some b):(aP (bs.take i)).length+b.ins.length+b.outs.length<=(aP bs).length:=by
 have e:aP bs=aP (bs.take (i+1))++aP (bs.drop (i+1)):=by
  unfold aP;rw[<- List.flatMap_append,List.take_append_drop]
 rw[e,Nk h];simp only[List.length_append,bV];omega
theorem Dj(c:Config)(hc:c.Ok)(htx:∀ b ∈ c.boxes.l,b.name.length<=1048576/\(∀ s ∈ b.ins.l,s.length<=1048576)/\∀ s ∈ b.outs.l,s.length<=1048576)(hpn:(aP c.b.boxes).length<=1000) :
    dL Tryz.prog T [] 124 [.agg c.row] (fun d rows M=>∃ g lst ck,d = .tup [.own 0 (bY c.b.boxes).length,.mv (some g)]/\rows=[some (211,(bY c.b.boxes).map bP)]/\M=[(g,bG D.s fI lst ck)]/\jX lst (aP c.b.boxes)/\mWf lst ck/\jR lst):=by
 have hcb:=hc.boxes;have hbl:(c.boxes.l.map Box.row).length=c.boxes.l.length:=sI;refine dL.aB tok Tryz.func124 rfl Tryz.call124 sI ?_;(try (conv=>whnf));repeat' (first|(refine⟨_,_,_,_,_,dH,fun _ _=>?_⟩;conv=>whnf)|refine OkM.seq ?_|(refine OkM.region tok ?_;conv=>whnf)|fail)
 rename_i g hg;refine Or.inr ?_;(conv=>whnf)
 repeat' (first|refine OkM.seq ?_|(refine OkM.region tok ?_;conv=>whnf)|refine OkM.block ?_|fail)
 refine OkM.oG 1 0 211 rfl rfl ?_;(conv=>whnf);refine OkM.aT [4,5,6,12,13] [14] 1 3 (fun (x:Nat × List (Str × Int × Nat) × Nat)=>[.i .i64 (x.1:Nat)]) (fun (x:Nat × List (Str × Int × Nat) × Nat) (_:List (List D))=>[c.row,[.own 0 (bY (c.b.boxes.take x.1)).length],[.mv (some g)]]) (fun (x:Nat × List (Str × Int × Nat) × Nat) (_:Vx.Rows)=>[some (211,(bY (c.b.boxes.take x.1)).map bP)]) (fun (x:Nat × List (Str × Int × Nat) × Nat)=>[(g,bG D.s fI x.2.1 x.2.2)]) (fun (x:Nat × List (Str × Int × Nat) × Nat)=>x.1<=c.boxes.l.length/\jX x.2.1 (aP (c.b.boxes.take x.1))/\mWf x.2.1 x.2.2/\jR x.2.1) (fun (x:Nat × List (Str × Int × Nat) × Nat)=>c.boxes.l.length - x.1) ((0,[],0)) (⟨Nat.zero_le _,jX.nil,mWf.nil,List.nodup_nil⟩) sT ?_;(conv=>whnf);refine⟨by ((conv=>whnf);first|rfl|(simp[ak, au, SI.row, Node.row, Pfx.row, Link.row, aG, Line.row, Rule.row, Box.row, Slc.row, Config.row, bP];done)|(simp[ak, au, SI.row, Node.row, Pfx.row, Link.row, aG, Line.row, Rule.row, Box.row, Slc.row, Config.row, bP];rw[IntKind.wrap_i64];omega)),?_⟩;rintro⟨i,lst,ck⟩ ⟨hi,hnm,hwf,hky⟩;dsimp only at hi hnm hwf hky ⊢;(conv=>whnf);by_cases hil:i<c.boxes.l.length
 . obtain⟨b,hb⟩:∃ b,c.boxes.l[i]? = some b:=⟨_,aC hil⟩
   have hbI:c.boxes.l[((i:Nat):Int).toNat]? = some b:=hb;have hbb:c.b.boxes[i]? = some b.b:=by simp[Config.b,hb]
   -- both calls
   have hbx:=hc.box b (aU hb);have hbi:=hbx.ins;have hbo:=hbx.outs;obtain⟨hbn,Ku,JQ⟩:=htx b (aU hb);have hPL:=Qx (c.b.boxes.take i);have hcap:(aP (c.b.boxes.take i)).length+b.ins.l.length+b.outs.l.length<=(aP c.b.boxes).length:=XK c.b.boxes hbb;(try (conv=>whnf));repeat' (first|refine OkM.seq ?_|((first|refine OkM.region tok ?_|refine OkM.cond ?_);conv=>whnf)|refine OkM.block ?_|((first|refine OkM.skip ?_|refine ix _ aS ?_);conv=>whnf)|(refine bI ?_ ?_<;>intro<;>first|omega|conv=>whnf)|fail)
   refine Or.inr ?_;(conv=>whnf);refine⟨_,_,Tryz.func152,rfl,Tryz.call152,?_⟩;(conv=>whnf);(try (conv=>whnf));repeat' (first|refine OkM.seq ?_|(refine OkM.region tok ?_;conv=>whnf)|refine OkM.block ?_|fail)
   refine OkM.aT [0,2,3,4,5,14,15,52,53,54,55,56,60,61,62] [16] 1 4 (fun (y:Nat × List (Str × Int × Nat) × Nat)=>[.i .i64 (y.1:Nat)]) (fun (y:Nat × List (Str × Int × Nat) × Nat) (_:List (List D))=>[c.row,[.own 0 ((bY (c.b.boxes.take i)).length+y.1)],[.mv (some g)],b.row]) (fun (y:Nat × List (Str × Int × Nat) × Nat) (_:Vx.Rows)=>[some (211,(bY (c.b.boxes.take i)++(b.ins.l.take y.1).map fun _=>(i,True)).map bP)]) (fun (y:Nat × List (Str × Int × Nat) × Nat)=>[(g,bG D.s fI y.2.1 y.2.2)]) (fun (y:Nat × List (Str × Int × Nat) × Nat)=>y.1<=b.ins.l.length/\jX y.2.1 (aP (c.b.boxes.take i)++(b.ins.l.take y.1).map (dot b.name))/\mWf y.2.1 y.2.2/\jR y.2.1) (fun (y:Nat × List (Str × Int × Nat) × Nat)=>b.ins.l.length - y.1) ((0,lst,ck)) (⟨Nat.zero_le _,by simpa using hnm,hwf,hky⟩) sT ?_;(conv=>whnf);refine⟨by ((conv=>whnf);first|rfl|(simp[ak, au, SI.row, Node.row, Pfx.row, Link.row, aG, Line.row, Rule.row, Box.row, Slc.row, Config.row, bP];done)|(simp[ak, au, SI.row, Node.row, Pfx.row, Link.row, aG, Line.row, Rule.row, Box.row, Slc.row, Config.row, bP];rw[IntKind.wrap_i64];omega)),?_⟩;rintro⟨j,l0,c0⟩ ⟨hj,wW,FZ,F5⟩;dsimp only at hj wW FZ F5 ⊢;(conv=>whnf);have adb:(b.ins.l.map aG).length=b.ins.l.length:=sI;have hpl0:((bY (c.b.boxes.take i)++(b.ins.l.take j).map fun _=>(i,True)).map bP).length=(bY (c.b.boxes.take i)).length+j:=by simp;omega
   by_cases hjl:j<b.ins.l.length
   . obtain⟨s,hs⟩:∃ s,b.ins.l[j]? = some s:=⟨_,aC hjl⟩
     have hsI:b.ins.l[((j:Nat):Int).toNat]? = some s:=hs;have htk:b.ins.l.take (j+1)=b.ins.l.take j++[s]:=by rw[List.take_add_one,hs];rfl
     have hsl:=Ku s (aU hs);have hcI:(c.boxes.l.map Box.row)[i]? = some b.row:=by simp[hb]
     repeat' (first|((first|refine⟨_,_,_,_,_,_,_,_,dH,mH,rfl,?_⟩|refine⟨_,_,_,_,_,_,_,0,_,_,dH,rfl,rfl,rfl,?_⟩);conv=>whnf)|refine OkM.seq ?_|((first|refine OkM.region tok ?_|refine OkM.cond ?_);conv=>whnf)|refine OkM.block ?_|((first|refine OkM.skip ?_|refine nI ?_|refine ix _ aS ?_|refine bU.l (aI ?_)|refine⟨_,.inl ⟨rfl,rfl⟩,?_⟩|refine⟨_,_,rfl,rfl,?_⟩);conv=>whnf)|(refine bI ?_ ?_<;>intro<;>first|omega|conv=>whnf)|(refine aJ ?_;conv=>whnf)|fail)
     . rename_i hx
       have hq:dot b.name s ∉ aP (c.b.boxes.take i)++(b.ins.l.take j).map (dot b.name):=fun h=>hx (by show (lk _ (dot b.name s)).isSome=true;rw[(wW _).2 h];rfl)
       refine⟨(j+1,(aX l0 c0 (dot b.name s) (((bY (c.b.boxes.take i)).length+j:Nat):Int)).1,(aX l0 c0 (dot b.name s) (((bY (c.b.boxes.take i)).length+j:Nat):Int)).2),by dsimp only;omega,⟨by dsimp only;omega,?_,DF FZ _ _,zS F5 _ _⟩,.refl _,?_⟩
       . dsimp only
         rw[htk,List.map_append,<- List.append_assoc];exact wW.new hq _ _ (by simp only[List.length_append,bV,List.length_take,hPL];omega)
       . rw[htk]
         (conv=>whnf);simp[ak,bP];exact⟨rfl,oA,rfl⟩
     . rename_i hx
       have hq:dot b.name s ∈ aP (c.b.boxes.take i)++(b.ins.l.take j).map (dot b.name):=Classical.byContradiction fun h=>hx (by show ¬ (lk _ (dot b.name s)).isSome=true;rw[(wW _).1 h];simp)
       refine⟨(j+1,l0,c0),by dsimp only;omega,⟨by dsimp only;omega,?_,FZ,F5⟩,.refl _,?_⟩
       . dsimp only
         rw[htk,List.map_append,<- List.append_assoc];exact wW.old hq
       . rw[htk]
         (conv=>whnf);simp[ak,bP];exact⟨rfl,oA,rfl⟩
   obtain rfl:j=b.ins.l.length:=oA;rw[List.take_length] at wW ⊢;(conv=>whnf)
   repeat' (first|refine OkM.seq ?_|((first|refine OkM.region tok ?_|refine OkM.cond ?_|refine OkM.exit ?_);conv=>whnf)|(refine bI ?_ ?_<;>intro<;>first|omega|conv=>whnf)|fail)
   refine Or.inr ?_;(conv=>whnf);refine⟨_,_,Tryz.func152,rfl,Tryz.call152,?_⟩;(conv=>whnf);(try (conv=>whnf));repeat' (first|refine OkM.seq ?_|(refine OkM.region tok ?_;conv=>whnf)|refine OkM.block ?_|fail)
   refine OkM.aT [0,2,3,4,5,14,15,52,53,54,60,61,62] [16] 1 4 (fun (y:Nat × List (Str × Int × Nat) × Nat)=>[.i .i64 (y.1:Nat)]) (fun (y:Nat × List (Str × Int × Nat) × Nat) (_:List (List D))=>[c.row,[.own 0 (((bY (c.b.boxes.take i)++b.ins.l.map fun _=>(i,True))).length+y.1)],[.mv (some g)],b.row]) (fun (y:Nat × List (Str × Int × Nat) × Nat) (_:Vx.Rows)=>[some (211,((bY (c.b.boxes.take i)++b.ins.l.map fun _=>(i,True))++(b.outs.l.take y.1).map fun _=>(i,False)).map bP)]) (fun (y:Nat × List (Str × Int × Nat) × Nat)=>[(g,bG D.s fI y.2.1 y.2.2)]) (fun (y:Nat × List (Str × Int × Nat) × Nat)=>y.1<=b.outs.l.length/\jX y.2.1 ((aP (c.b.boxes.take i)++b.ins.l.map (dot b.name))++(b.outs.l.take y.1).map (dot b.name))/\mWf y.2.1 y.2.2/\jR y.2.1) (fun (y:Nat × List (Str × Int × Nat) × Nat)=>b.outs.l.length - y.1) ((0,l0,c0)) (⟨Nat.zero_le _,by simpa using wW,FZ,F5⟩) sT ?_;(conv=>whnf);refine⟨by ((conv=>whnf);first|rfl|(simp[ak, au, SI.row, Node.row, Pfx.row, Link.row, aG, Line.row, Rule.row, Box.row, Slc.row, Config.row, bP];done)|(simp[ak, au, SI.row, Node.row, Pfx.row, Link.row, aG, Line.row, Rule.row, Box.row, Slc.row, Config.row, bP];rw[IntKind.wrap_i64];omega)),?_⟩;rintro⟨j,l1,c1⟩ ⟨hj,wX,F6,F7⟩;dsimp only at hj wX F6 F7 ⊢;(conv=>whnf);have ade:(b.outs.l.map aG).length=b.outs.l.length:=sI;have adf:(((bY (c.b.boxes.take i)++b.ins.l.map fun _=>(i,True))++(b.outs.l.take j).map fun _=>(i,False)).map bP).length=((bY (c.b.boxes.take i)++b.ins.l.map fun _=>(i,True))).length+j:=by simp;omega
   by_cases hjl:j<b.outs.l.length
   . obtain⟨s,hs⟩:∃ s,b.outs.l[j]? = some s:=⟨_,aC hjl⟩
     have hsI:b.outs.l[((j:Nat):Int).toNat]? = some s:=hs;have htk:b.outs.l.take (j+1)=b.outs.l.take j++[s]:=by rw[List.take_add_one,hs];rfl
     have hsl:=JQ s (aU hs);have hcI:(c.boxes.l.map Box.row)[i]? = some b.row:=by simp[hb]
     repeat' (first|((first|refine⟨_,_,_,_,_,_,_,_,dH,mH,rfl,?_⟩|refine⟨_,_,_,_,_,_,_,0,_,_,dH,rfl,rfl,rfl,?_⟩);conv=>whnf)|refine OkM.seq ?_|((first|refine OkM.region tok ?_|refine OkM.cond ?_);conv=>whnf)|refine OkM.block ?_|((first|refine OkM.skip ?_|refine nI ?_|refine ix _ aS ?_|refine bU.l (aI ?_)|refine⟨_,.inl ⟨rfl,rfl⟩,?_⟩|refine⟨_,_,rfl,rfl,?_⟩);conv=>whnf)|(refine bI ?_ ?_<;>intro<;>first|omega|conv=>whnf)|(refine aJ ?_;conv=>whnf)|fail)
     . rename_i hx
       have hq:dot b.name s ∉ (aP (c.b.boxes.take i)++b.ins.l.map (dot b.name))++(b.outs.l.take j).map (dot b.name):=fun h=>hx (by show (lk _ (dot b.name s)).isSome=true;rw[(wX _).2 h];rfl)
       refine⟨(j+1,(aX l1 c1 (dot b.name s) ((((bY (c.b.boxes.take i)++b.ins.l.map fun _=>(i,True))).length+j:Nat):Int)).1,(aX l1 c1 (dot b.name s) ((((bY (c.b.boxes.take i)++b.ins.l.map fun _=>(i,True))).length+j:Nat):Int)).2),by dsimp only;omega,⟨by dsimp only;omega,?_,DF F6 _ _,zS F7 _ _⟩,.refl _,?_⟩
       . dsimp only
         rw[htk,List.map_append,<- List.append_assoc];exact wX.new hq _ _ (by simp only[List.length_append,bV,List.length_take,hPL];omega)
       . rw[htk]
         (conv=>whnf);simp[ak,bP];exact⟨rfl,oA,rfl⟩
     . rename_i hx
       have hq:dot b.name s ∈ (aP (c.b.boxes.take i)++b.ins.l.map (dot b.name))++(b.outs.l.take j).map (dot b.name):=Classical.byContradiction fun h=>hx (by show ¬ (lk _ (dot b.name s)).isSome=true;rw[(wX _).1 h];simp)
       refine⟨(j+1,l1,c1),by dsimp only;omega,⟨by dsimp only;omega,?_,F6,F7⟩,.refl _,?_⟩
       . dsimp only
         rw[htk,List.map_append,<- List.append_assoc];exact wX.old hq
       . rw[htk]
         (conv=>whnf);simp[ak,bP];exact⟨rfl,oA,rfl⟩
   obtain rfl:j=b.outs.l.length:=oA;rw[List.take_length] at wX ⊢;(conv=>whnf)
   repeat' (first|refine OkM.seq ?_|((first|refine OkM.region tok ?_|refine OkM.cond ?_|refine OkM.exit ?_|refine nI ?_);conv=>whnf)|(refine bI ?_ ?_<;>intro<;>first|omega|conv=>whnf)|fail)
   refine⟨(i+1,l1,c1),by dsimp only;omega,⟨by dsimp only;omega,?_,F6,F7⟩,.refl _,?_⟩
   . dsimp only
     rw[Nk hbb];exact wX
   . rw[XJ hbb]
     (conv=>whnf);simp[ak,bP];exact⟨Nat.add_assoc _ _ _,rfl⟩
 . obtain rfl:i=c.boxes.l.length:=oA
   have htl:c.b.boxes.take c.boxes.l.length=c.b.boxes:=au (by simp[Config.b]);rw[htl] at hnm ⊢;(conv=>whnf)
   repeat' (first|refine OkM.seq ?_|((first|refine OkM.region tok ?_|refine OkM.aB (Ok.bH tok follows kR ?_)|refine OkM.cond ?_|refine OkM.exit ?_|refine OkM.ret ?_);conv=>whnf)|(refine bI ?_ ?_<;>intro<;>first|omega|conv=>whnf)|fail)
   first
    | (refine Or.inr (Or.inl ?_);(conv=>whnf)
       exact⟨g,lst,ck,rfl,rfl,rfl,hnm,hwf,hky⟩)
    | (refine Or.inl ?_;(conv=>whnf)
       exact⟨g,lst,ck,rfl,rfl,rfl,hnm,hwf,hky⟩)
end Go.Proofs.YtnlingegeangmaaGreatDoor
namespace Go.Proofs.YtnlingegeangmaaGreatDoor
open Go Go.Vx
theorem Iy{n p:Str}{pre:List Str}(h:¬ iR p):lH n pre p=(36,dot n p):=if_pos h
theorem Iz{n p:Str}{pre:List Str}(h:iR p)(h2:p ∈ pre):lH n pre p=(72,dot n p):=by unfold lH;rw[if_neg fun g=>g h,if_pos h2]
theorem Y3{n p:Str}{pre:List Str}(h:iR p)(h2:p ∉ pre):lH n pre p=(0,[]):=by unfold lH;rw[if_neg fun g=>g h,if_neg h2]
theorem I7{pre:List bf}{b:bf}(h:¬ iR b.name):uU pre b=(36,b.name):=if_pos h
theorem I8{pre:List bf}{b:bf}(h:iR b.name)(h2:b.name ∈ pre.map bf.name):uU pre b=(72,b.name):=by
 unfold uU;rw[if_neg fun g=>g h,if_pos (by obtain⟨x,hx,e⟩:=List.mem_map.1 h2;exact⟨x,hx,e⟩)]
theorem RX{pre:List bf}{b:bf}(h:iR b.name)(h2:b.name ∉ pre.map bf.name):uU pre b=aV (lH b.name) [] (b.ins++b.outs):=by
 unfold uU;rw[if_neg fun g=>g h,if_neg (by rintro⟨x,hx,e⟩;exact h2 (List.mem_map.2 ⟨x,hx,e⟩))]
theorem XL(hN:∀ s,aF Tryz.prog T 121 [.s s] (fun d _=>d = .b (iR s)))(c:Config)(hc:c.Ok)(htx:∀ b ∈ c.boxes.l,b.name.length<=1048576/\(∀ s ∈ b.ins.l,s.length<=1048576)/\∀ s ∈ b.outs.l,s.length<=1048576) :
    dL Tryz.prog T [] 80 [.agg c.row] (fun d rows M=>(d = .tup [.i .i64 (lJ c.b).1,.s (lJ c.b).2]/\rows=[])/\M=[]):=by
 have hcb:=hc.boxes;have hbl:(c.boxes.l.map Box.row).length=c.boxes.l.length:=sI;refine dL.oI tok Tryz.func80 rfl Tryz.call80 sI ?_;(try (conv=>whnf));repeat' (first|(refine⟨_,_,_,_,_,dH,fun _ _=>?_⟩;conv=>whnf)|refine OkM.seq ?_|(refine OkM.region tok ?_;conv=>whnf)|refine OkM.block ?_|fail)
 rename_i g hg;refine OkM.aT [4,16,17] [18] 0 1 (fun (x:Nat × List (Str × Int × Nat) × Nat)=>[.i .i64 (x.1:Nat)]) (fun _ b=>b) (fun _ r=>r) (fun (x:Nat × List (Str × Int × Nat) × Nat)=>[(g,bG D.s fI x.2.1 x.2.2)]) (fun (x:Nat × List (Str × Int × Nat) × Nat)=>x.1<=c.boxes.l.length/\kQ x.2.1 ((c.b.boxes.take x.1).map bf.name)/\lJ c.b=aV uU (c.b.boxes.take x.1) (c.b.boxes.drop x.1)) (fun (x:Nat × List (Str × Int × Nat) × Nat)=>c.boxes.l.length - x.1) ((0,[],0)) (⟨Nat.zero_le _,kQ.nil,rfl⟩) sT ?_;(conv=>whnf);refine⟨by ((conv=>whnf);first|rfl|(simp[ak, au, SI.row, Node.row, Pfx.row, Link.row, aG, Line.row, Rule.row, Box.row, Slc.row, Config.row, bP];done)|(simp[ak, au, SI.row, Node.row, Pfx.row, Link.row, aG, Line.row, Rule.row, Box.row, Slc.row, Config.row, bP];rw[IntKind.wrap_i64];omega)),?_⟩;rintro⟨i,lst,ck⟩ ⟨hi,hkm,hfe⟩;dsimp only at hi hkm hfe ⊢;(conv=>whnf);by_cases hil:i<c.boxes.l.length
 . obtain⟨b,hb⟩:∃ b,c.boxes.l[i]? = some b:=⟨_,aC hil⟩
   have hbI:c.boxes.l[((i:Nat):Int).toNat]? = some b:=hb;have hbb:c.b.boxes[i]? = some b.b:=by simp[Config.b,hb]
   have LD:c.b.boxes.take (i+1)=c.b.boxes.take i++[b.b]:=by rw[List.take_add_one,hbb];rfl
   have hbx:=hc.box b (aU hb);have hbi:=hbx.ins;have hbo:=hbx.outs;obtain⟨hbn,Ku,JQ⟩:=htx b (aU hb);have UC:(b.ins.l.map aG).length=b.ins.l.length:=sI;have acH:(b.outs.l.map aG).length=b.outs.l.length:=sI
   repeat' (first|((first|refine⟨_,_,_,_,_,_,_,_,dH,mH,rfl,?_⟩|refine⟨_,_,_,_,_,dH,fun _ _=>?_⟩|refine⟨_,_,_,_,_,_,_,0,_,_,dH,rfl,rfl,rfl,?_⟩);conv=>whnf)|refine OkM.seq ?_|((first|refine OkM.region tok ?_|refine OkM.aB (Ok.bH tok follows kR ?_)|refine OkM.cond ?_);conv=>whnf)|refine OkM.block ?_|((first|refine OkM.skip ?_|refine OkM.ret ?_|refine nI ?_|refine ix _ aS ?_);conv=>whnf)|(refine Or.inl ?_;(conv=>whnf);refine Or.inl ?_;(conv=>whnf);(repeat (refine aI ?_;conv=>whnf));refine⟨_,hN b.name,rfl,?_⟩;conv=>whnf)|(refine bI ?_ ?_<;>intro<;>first|omega|conv=>whnf)|fail)
   . rename_i hx
     refine Or.inl ?_;(conv=>whnf);refine⟨?_,rfl⟩;rw[hfe,iW hbb (by rw[I7 hx];simp),I7 hx];rfl
   . rename_i hx hy
     have hx:=Classical.not_not.1 hx;have hm:=(hkm _).1 hy;refine Or.inl ?_;(conv=>whnf);refine⟨?_,rfl⟩;rw[hfe,iW hbb (by rw[I8 hx hm];simp),I8 hx hm];rfl
   rename_i hx hy g2 hg2;have hx:=Classical.not_not.1 hx;have hm:b.b.name ∉ (c.b.boxes.take i).map bf.name:=fun h=>hy ((hkm _).2 h)
   rw[zF hbb,RX hx hm] at hfe;change lJ c.b=if (aV (lH b.name) [] (b.ins.l++b.outs.l)).1 ≠ 0 then aV (lH b.name) [] (b.ins.l++b.outs.l) else aV uU (c.b.boxes.take (i+1)) (c.b.boxes.drop (i+1)) at hfe
   refine OkM.aT [4,6,9,16,17,18,50] [51] 0 2 (fun (y:Nat × List (Str × Int × Nat) × Nat)=>[.i .i64 (y.1:Nat)]) (fun _ b=>b) (fun _ r=>r) (fun (y:Nat × List (Str × Int × Nat) × Nat)=>[(g2,bG D.s fI y.2.1 y.2.2),(g,bG D.s fI (aX lst ck b.name i).1 (aX lst ck b.name i).2)]) (fun (y:Nat × List (Str × Int × Nat) × Nat)=>y.1<=(b.ins.l++b.outs.l).length/\kQ y.2.1 ((b.ins.l++b.outs.l).take y.1)/\aV (lH b.name) [] (b.ins.l++b.outs.l)=aV (lH b.name) ((b.ins.l++b.outs.l).take y.1) ((b.ins.l++b.outs.l).drop y.1)) (fun (y:Nat × List (Str × Int × Nat) × Nat)=>(b.ins.l++b.outs.l).length - y.1) ((0,[],0)) (⟨Nat.zero_le _,kQ.nil,rfl⟩) sT ?_;(conv=>whnf);refine⟨by ((conv=>whnf);first|rfl|(simp[ak, au, SI.row, Node.row, Pfx.row, Link.row, aG, Line.row, Rule.row, Box.row, Slc.row, Config.row, bP];done)|(simp[ak, au, SI.row, Node.row, Pfx.row, Link.row, aG, Line.row, Rule.row, Box.row, Slc.row, Config.row, bP];rw[IntKind.wrap_i64];omega)),?_⟩;rintro⟨j,l2,c2⟩ ⟨hj,su,gU⟩;dsimp only at hj su gU ⊢;(conv=>whnf);have hpl:(b.ins.l++b.outs.l).length=b.ins.l.length+b.outs.l.length:=sI;by_cases hjl:j<(b.ins.l++b.outs.l).length
   . obtain⟨s,hs⟩:∃ s,(b.ins.l++b.outs.l)[j]? = some s:=⟨_,aC hjl⟩
     have hsl:s.length<=1048576:=by
      rcases bQ.1 (aU hs) with h|h
      . exact Ku s h
      . exact JQ s h
     have htk:(b.ins.l++b.outs.l).take (j+1)=(b.ins.l++b.outs.l).take j++[s]:=by rw[List.take_add_one,hs];rfl
     (try (conv=>whnf));repeat' (first|((first|refine⟨_,_,_,_,_,_,_,_,dH,mH,rfl,?_⟩|refine⟨_,_,_,_,_,_,_,0,_,_,dH,rfl,rfl,rfl,?_⟩);conv=>whnf)|refine OkM.seq ?_|((first|refine OkM.region tok ?_|refine OkM.aB (Ok.bH tok follows kR ?_)|refine OkM.cond ?_);conv=>whnf)|refine OkM.block ?_|((first|refine OkM.skip ?_|refine OkM.ret ?_|refine nI ?_);conv=>whnf)|(refine Or.inl ?_;(conv=>whnf);refine Or.inl ?_;(conv=>whnf);(repeat (refine aI ?_;conv=>whnf));refine⟨_,RU b hbi hbo j s hs _ rfl,rfl,?_⟩;conv=>whnf)|(refine Or.inl ?_;(conv=>whnf);refine Or.inl ?_;(conv=>whnf);(repeat (refine aI ?_;conv=>whnf));refine⟨_,hN s,rfl,?_⟩;conv=>whnf)|(refine bI ?_ ?_<;>intro<;>first|omega|conv=>whnf)|(refine aJ ?_;conv=>whnf)|fail)
     . rename_i hz
       rw[iW hs (by rw[Iy hz];simp),Iy hz] at gU;rw[gU,if_pos sI] at hfe;refine Or.inl ?_;(conv=>whnf);refine⟨?_,rfl⟩;rw[hfe];rfl
     . rename_i hz hv
       have hz:=Classical.not_not.1 hz;have hp:=(su s).1 hv;rw[iW hs (by rw[Iz hz hp];simp),Iz hz hp] at gU;rw[gU,if_pos sI] at hfe;refine Or.inl ?_;(conv=>whnf);refine⟨?_,rfl⟩;rw[hfe];rfl
     . rename_i hz hv
       have hz:=Classical.not_not.1 hz;have hp:s ∉ (b.ins.l++b.outs.l).take j:=fun h=>hv ((su s).2 h)
       refine⟨(j+1,(aX l2 c2 s j).1,(aX l2 c2 s j).2),by dsimp only;omega,⟨by dsimp only;omega,by dsimp only;rw[htk];exact su.put c2 s j,?_⟩,.refl _,?_⟩
       . rw[gU,qN hs (by rw[Y3 hz hp])]
       . (conv=>whnf)
         rfl
   . obtain rfl:j=(b.ins.l++b.outs.l).length:=oA
     rw[lX (Nat.le_refl _)] at gU;rw[gU,if_neg sI] at hfe;(try (conv=>whnf));repeat' (first|refine OkM.seq ?_|((first|refine OkM.region tok ?_|refine OkM.cond ?_|refine OkM.exit ?_|refine nI ?_);conv=>whnf)|(refine bI ?_ ?_<;>intro<;>first|omega|conv=>whnf)|fail)
     refine⟨(i+1,(aX lst ck b.name i).1,(aX lst ck b.name i).2),by dsimp only;omega,⟨by dsimp only;omega,?_,hfe⟩,.cons _ (.refl _),?_⟩
     . dsimp only
       rw[LD,List.map_append];exact hkm.put ck b.name i
     . (conv=>whnf)
       rfl
 . obtain rfl:i=c.boxes.l.length:=oA
   rw[lX (by simp[Config.b])] at hfe;(try (conv=>whnf));repeat' (first|refine OkM.seq ?_|((first|refine OkM.region tok ?_|refine OkM.cond ?_|refine OkM.exit ?_|refine OkM.ret ?_);conv=>whnf)|(refine bI ?_ ?_<;>intro<;>first|omega|conv=>whnf)|fail)
   all_goals first
    | omega
    | (refine Or.inl ?_;(conv=>whnf)
       exact⟨by rw[hfe];rfl,rfl⟩)
end Go.Proofs.YtnlingegeangmaaGreatDoor
namespace Go.Proofs.YtnlingegeangmaaGreatDoor
open Go Go.Vx
theorem Eb(s:Str):aF Tryz.prog T 119 [.s s] (fun d _=>d = .b (Rsv s)):=by
 refine aF.aB tok Tryz.func119 rfl Tryz.call119 sI ?_;(try (conv=>whnf));repeat' (first|refine Ok.seq ?_|((first|refine Ok.region tok ?_|refine Ok.cond ?_);conv=>whnf)|refine Ok.block ?_|((first|refine Ok.skip ?_|refine Ok.ret ?_);conv=>whnf)|(refine bI ?_ ?_<;>intro<;>first|omega|conv=>whnf)|fail)
 all_goals first
  | (rename_i h
     refine Or.inl ?_;(conv=>whnf);exact Lp (show s ∈ FT by rw[h];simp[FT]))
  | (refine Or.inl ?_;(conv=>whnf)
     exact uS fun hm=>by
      simp only[Rsv,FT,List.mem_cons,List.not_mem_nil,or_false] at hm
      iterate 25 (rcases hm with hm|hm;· exact absurd hm aS)
      exact absurd hm aS)
theorem Oe(s:Str):aF Tryz.prog T 121 [.s s] (fun d _=>d = .b (iR s)):=by
 refine aF.aB tok Tryz.func121 rfl Tryz.call121 sI ?_;by_cases h0:s=[]
 . (try (conv=>whnf));repeat' (first|refine Ok.seq ?_|((first|refine Ok.region tok ?_|refine Ok.cond ?_);conv=>whnf)|refine Ok.block ?_|((first|refine Ok.skip ?_|refine Ok.ret ?_);conv=>whnf)|(refine Or.inl ?_;(conv=>whnf);(repeat (refine aI ?_;conv=>whnf));refine⟨_,Eb s,rfl,?_⟩;conv=>whnf)|(refine bI ?_ ?_<;>intro<;>first|omega|conv=>whnf)|fail)
   all_goals first
    | omega
    | (refine Or.inl ?_;(conv=>whnf)
       exact uS fun hn=>hn.1.1 h0)
    | (exact absurd h0 aS)
 by_cases h1:24<s.length
 . (try (conv=>whnf));repeat' (first|refine Ok.seq ?_|((first|refine Ok.region tok ?_|refine Ok.cond ?_|refine Ok.ret ?_);conv=>whnf)|(refine bI ?_ ?_<;>intro<;>first|omega|conv=>whnf)|fail)
   all_goals first
    | omega
    | (refine Or.inl ?_;(conv=>whnf)
       exact uS fun hn=>absurd hn.1.2.1 oA)
 by_cases h2:Rsv s
 . (try (conv=>whnf));repeat' (first|refine Ok.seq ?_|((first|refine Ok.region tok ?_|refine Ok.cond ?_);conv=>whnf)|refine Ok.block ?_|((first|refine Ok.skip ?_|refine Ok.ret ?_);conv=>whnf)|(refine Or.inl ?_;(conv=>whnf);(repeat (refine aI ?_;conv=>whnf));refine⟨_,Eb s,rfl,?_⟩;conv=>whnf)|(refine bI ?_ ?_<;>intro<;>first|omega|conv=>whnf)|fail)
   all_goals first
    | omega
    | (refine Or.inl ?_;(conv=>whnf)
       exact uS fun hn=>hn.2 h2)
    | (exact absurd h2 aS)
 (try (conv=>whnf));repeat' (first|refine Ok.seq ?_|((first|refine Ok.region tok ?_|refine Ok.cond ?_);conv=>whnf)|refine Ok.block ?_|((first|refine Ok.skip ?_|refine Ok.ret ?_);conv=>whnf)|(refine Or.inl ?_;(conv=>whnf);(repeat (refine aI ?_;conv=>whnf));refine⟨_,Eb s,rfl,?_⟩;conv=>whnf)|(refine bI ?_ ?_<;>intro<;>first|omega|conv=>whnf)|fail)
 all_goals first
  | omega
  | (exact absurd aS h0)
  | (exact absurd aS h2)
  | skip
 have hle:s.length<=24:=oA;refine Ok.aT [0,18] [19] 0 0 (fun (i:Nat)=>[.i .i64 (i:Nat)]) (fun _ b=>b) (fun _ r=>r) (fun (i:Nat)=>i<=s.length/\∀ (j:Nat) c,j<i->s[j]? = some c->nameAt j c) (fun (i:Nat)=>s.length - i) (0) (⟨Nat.zero_le _,fun j c hj=>absurd hj oA⟩) ?_;(conv=>whnf);refine⟨by ((conv=>whnf);first|rfl|(simp[ak, au, SI.row, Node.row, Pfx.row, Link.row, aG, Line.row, Rule.row, Box.row, Slc.row, Config.row];done)|(simp[ak, au, SI.row, Node.row, Pfx.row, Link.row, aG, Line.row, Rule.row, Box.row, Slc.row, Config.row];rw[IntKind.wrap_i64];omega)),?_⟩;rintro i ⟨hi,hall⟩;(conv=>whnf);by_cases hil:i<s.length
 . obtain⟨b,hb⟩:∃ b,s[i]? = some b:=⟨_,aC hil⟩
   have hbI:s[((i:Nat):Int).toNat]? = some b:=hb;have abX:=b.toNat_lt
   repeat' (first|refine Ok.seq ?_|((first|refine Ok.region tok ?_|refine Ok.cond ?_);conv=>whnf)|refine Ok.block ?_|((first|refine Ok.skip ?_|refine Ok.ret ?_|refine nI ?_|refine⟨_,aS,?_⟩);conv=>whnf)|(refine bI ?_ ?_<;>intro<;>first|omega|conv=>whnf)|((first|refine aJ ?_|refine jh ?_);conv=>whnf)|fail)
   all_goals first
    | omega
    | (refine Or.inl ?_;(conv=>whnf)
       refine uS fun hn=>?_
       have:=hn.1.2.2 i b hb;unfold nameAt Ltr Dgt at this;omega)
    | (refine⟨i+1,oA,⟨oA,OT hall hb ?_⟩,?_⟩
       . unfold nameAt Ltr Dgt
         omega
       . (conv=>whnf)
         rfl)
 . have hie:i=s.length:=oA
   subst hie;(try (conv=>whnf));repeat' (first|refine Ok.seq ?_|((first|refine Ok.region tok ?_|refine Ok.cond ?_|refine Ok.exit ?_|refine Ok.ret ?_);conv=>whnf)|(refine bI ?_ ?_<;>intro<;>first|omega|conv=>whnf)|fail)
   all_goals first
    | omega
    | (refine Or.inl ?_;(conv=>whnf)
       exact Lp ⟨⟨h0,hle,fun j c hc=>hall j c (aK.1 hc).1 hc⟩,h2⟩)
end Go.Proofs.YtnlingegeangmaaGreatDoor
namespace Go.Proofs.YtnlingegeangmaaGreatDoor
open Go Go.Vx
def wJ(x:Nat × Nat × Str):List D:=[.i .i64 (x.1:Nat),.i .i64 (x.2.1:Nat),.s x.2.2]
theorem Ec{l:List bf}{f:bf->Nat}{k:Nat}{b:bf}(h:l[k]? = some b):((l.take (k+1)).map f).sum=((l.take k).map f).sum+f b:=by
 rw[List.take_add_one,h,List.map_append,List.sum_append];simp
theorem abC{l:List bf}{f:bf->Nat}{B:Nat}(h:∀ b ∈ l,f b<=B):(l.map f).sum<=l.length*B:=by
 induction l with
 | nil=>simp
 | cons b l ih=>
  have h1:=h b sI;have h2:=ih fun x hx=>h x (by simp[hx])
  simp only[List.map_cons,List.sum_cons,List.length_cons,Nat.succ_mul];omega
theorem XM{c:Config}(hc:c.Ok)(k:Nat):rC (c.b.boxes.take k)<=k*2097152/\yP (c.b.boxes.take k)<=k*1048576/\yQ (c.b.boxes.take k)<=k*1048576/\qW (c.b.boxes.take k)<=k*2097152:=by
 have hb:∀ b ∈ c.b.boxes.take k,b.ins.length<=1048576/\b.outs.length<=1048576/\b.guards.length<=1048576/\b.rules.length<=1048576/\b.owns.length<=1048576/\b.routes.length<=1048576:=by
  intro b hb;obtain⟨x,hx,rfl⟩:=List.mem_map.1 (List.mem_of_mem_take hb);have:=hc.box x hx;exact⟨this.ins,this.outs,by simpa[Box.b] using this.guards,by simpa[Box.b] using this.rules,this.owns,this.routes⟩
 have hk:(c.b.boxes.take k).length<=k:=by rw[List.length_take];omega
 have key:∀ (f:bf->Nat) (B:Nat),(∀ b ∈ c.b.boxes.take k,f b<=B)->((c.b.boxes.take k).map f).sum<=k*B:=fun f B h=>Nat.le_trans (abC h) (Nat.mul_le_mul_right B hk)
 refine⟨key _ _ fun b h=>?_,key _ _ fun b h=>(hb b h).2.2.1,key _ _ fun b h=>(hb b h).2.2.2.1,key _ _ fun b h=>?_⟩
 . have:=hb b h;show b.ins.length+b.outs.length<=_;omega
 . have:=hb b h;show b.owns.length+b.routes.length<=_;omega
theorem Qy{pre:List (Nat × Nat × Str)}{x:Nat × Nat × Str}(h:x.2.1<x.1):zu pre x=(71,x.2.2):=if_pos h
theorem aaG{pre:List (Nat × Nat × Str)}{x:Nat × Nat × Str}(h:¬ x.2.1<x.1):zu pre x=(0,[]):=if_neg h
theorem XO(c:bC):jL c=if 16<c.boxes.length then (71,[98,111,120,101,115]) else if 48<rC c.boxes then (71,[112,111,114,116,115]) else if 64<yP c.boxes then (71,[103,117,97,114,100,115]) else if 64<yQ c.boxes then (71,[114,117,108,101,115]) else if 64<qW c.boxes then (71,[114,111,117,116,101,115]) else if 48<c.links.length then (71,[108,105,110,107,115]) else if 8<c.slices.length then (71,[115,108,105,99,101,115]) else (0,[]):=by
 unfold jL nZ;simp only[aV,zu];by_cases h0:16<c.boxes.length
 . simp[h0]
 by_cases h1:48<rC c.boxes
 . simp[h0,h1]
 by_cases h2:64<yP c.boxes
 . simp[h0,h1,h2]
 by_cases h3:64<yQ c.boxes
 . simp[h0,h1,h2,h3]
 by_cases h4:64<qW c.boxes
 . simp[h0,h1,h2,h3,h4]
 by_cases h5:48<c.links.length
 . simp[h0,h1,h2,h3,h4,h5]
 by_cases h6:8<c.slices.length
 . simp[h0,h1,h2,h3,h4,h5,h6]
 simp[h0,h1,h2,h3,h4,h5,h6]
theorem WG(c:Config)(hc:c.Ok):aF Tryz.prog T 79 [.agg c.row] (fun d _=>d = .tup [.i .i64 (jL c.b).1,.s (jL c.b).2]):=by
 have hbl:(c.boxes.l.map Box.row).length=c.boxes.l.length:=sI;have hll:(c.links.l.map Link.row).length=c.links.l.length:=sI;have hsl:(c.slices.l.map Slc.row).length=c.slices.l.length:=sI;have hB:=hc.boxes;have hL:=hc.links;have hS:=hc.slices;refine aF.aB tok Tryz.func79 rfl Tryz.call79 sI ?_;(try (conv=>whnf));repeat' (first|refine Ok.seq ?_|(refine Ok.region tok ?_;conv=>whnf)|refine Ok.block ?_|fail)
 refine Ok.aT [1,13,14] [4,5,6,7,15] 0 1 (fun (k:Nat)=>[.i .i64 (rC (c.b.boxes.take k):Nat),.i .i64 (yP (c.b.boxes.take k):Nat),.i .i64 (yQ (c.b.boxes.take k):Nat),.i .i64 (qW (c.b.boxes.take k):Nat),.i .i64 (k:Nat)]) (fun _ b=>b) (fun _ r=>r) (fun (k:Nat)=>k<=c.boxes.l.length) (fun (k:Nat)=>c.boxes.l.length - k) (0) (Nat.zero_le _) ?_;(conv=>whnf);refine⟨by ((conv=>whnf);first|rfl|(simp[ak, au, SI.row, Node.row, Pfx.row, Link.row, aG, Line.row, Rule.row, Box.row, Slc.row, Config.row, wJ, nZ, Config.b];done)|(simp[ak, au, SI.row, Node.row, Pfx.row, Link.row, aG, Line.row, Rule.row, Box.row, Slc.row, Config.row, wJ, nZ, Config.b];rw[IntKind.wrap_i64];omega)),?_⟩;rintro k hk;(conv=>whnf);obtain⟨p1,p2,p3,p4⟩:=XM hc k;by_cases hkl:k<c.boxes.l.length
 . obtain⟨b,hb⟩:∃ b,c.boxes.l[k]? = some b:=⟨_,aC hkl⟩
   have hbI:c.boxes.l[((k:Nat):Int).toNat]? = some b:=hb;have hbb:c.b.boxes[k]? = some b.b:=by simp[Config.b,hb]
   have hbx:=hc.box b (aU hb);have l1:(b.ins.l.map aG).length=b.ins.l.length:=sI;have l2:(b.outs.l.map aG).length=b.outs.l.length:=sI;have l3:(b.guards.l.map Line.row).length=b.guards.l.length:=sI;have l4:(b.rules.l.map Rule.row).length=b.rules.l.length:=sI;have l5:(b.owns.l.map Pfx.row).length=b.owns.l.length:=sI;have l6:(b.routes.l.map Pfx.row).length=b.routes.l.length:=sI;have b1:=hbx.ins;have b2:=hbx.outs;have b3:=hbx.guards;have b4:=hbx.rules;have b5:=hbx.owns;have b6:=hbx.routes
   repeat' (first|refine Ok.seq ?_|((first|refine Ok.region tok ?_|refine Ok.cond ?_);conv=>whnf)|refine Ok.block ?_|((first|refine Ok.skip ?_|refine nI ?_|refine ix _ aS ?_);conv=>whnf)|(refine bI ?_ ?_<;>intro<;>first|omega|conv=>whnf)|fail)
   refine⟨k+1,oA,oA,?_⟩;unfold rC yP yQ qW;rw[Ec hbb,Ec hbb,Ec hbb,Ec hbb];(conv=>whnf);simp[ak,Box.b];try omega
 obtain rfl:k=c.boxes.l.length:=oA;have hta:c.b.boxes.take c.boxes.l.length=c.b.boxes:=au (by simp[Config.b]);rw[hta] at p1 p2 p3 p4 ⊢;(conv=>whnf)
 repeat' (first|refine Ok.seq ?_|((first|refine Ok.region tok ?_|refine Ok.cond ?_);conv=>whnf)|refine Ok.block ?_|(refine Ok.exit ?_;conv=>whnf)|(refine bI ?_ ?_<;>intro<;>first|omega|conv=>whnf)|fail)
 refine Ok.aT [68,69] [70] 1 1 (fun (k:Nat)=>[.i .i64 (k:Nat)]) (fun (k:Nat) (_:List (List D))=>[c.row]) (fun (k:Nat) (_:Vx.Rows)=>[some (199,(nZ c.b).map wJ)]) (fun (k:Nat)=>k<=7/\jL c.b=aV zu ((nZ c.b).take k) ((nZ c.b).drop k)) (fun (k:Nat)=>7 - k) (0) (⟨Nat.zero_le _,rfl⟩) ?_;(conv=>whnf);refine⟨by ((conv=>whnf);first|rfl|(simp[ak, au, SI.row, Node.row, Pfx.row, Link.row, aG, Line.row, Rule.row, Box.row, Slc.row, Config.row, wJ, nZ, Config.b];done)|(simp[ak, au, SI.row, Node.row, Pfx.row, Link.row, aG, Line.row, Rule.row, Box.row, Slc.row, Config.row, wJ, nZ, Config.b];rw[IntKind.wrap_i64];omega)),?_⟩;rintro k ⟨hk7,hfe⟩;(conv=>whnf);have hcl:(nZ c.b).length=7:=rfl;by_cases hkl:k<7
 . obtain⟨x,hx⟩:∃ x,(nZ c.b)[k]? = some x:=⟨_,aC oA⟩
   have hxr:((nZ c.b).map wJ)[k]? = some (wJ x):=by simp[hx]
   repeat' (first|refine Ok.seq ?_|((first|refine Ok.region tok ?_|refine Ok.bH tok follows kR ?_|refine Ok.cond ?_);conv=>whnf)|refine Ok.block ?_|((first|refine Ok.skip ?_|refine Ok.ret ?_|refine nI ?_|refine rd rfl aS ?_);conv=>whnf)|(refine bI ?_ ?_<;>intro<;>first|omega|conv=>whnf)|(refine aJ ?_;conv=>whnf)|fail)
   . refine Or.inl ?_;(conv=>whnf)
     rw[hfe,iW hx (by rw[Qy oA];simp),Qy oA];rfl
   . refine⟨k+1,oA,⟨oA,by rw[hfe,qN hx (by rw[aaG oA])]⟩,?_⟩
     (conv=>whnf);rfl
 obtain rfl:k=7:=oA;rw[lX (by rw[hcl];omega)] at hfe;(try (conv=>whnf));repeat' (first|refine Ok.seq ?_|((first|refine Ok.region tok ?_|refine Ok.cond ?_|refine Ok.exit ?_|refine Ok.ret ?_);conv=>whnf)|(refine bI ?_ ?_<;>intro<;>first|omega|conv=>whnf)|fail)
 refine Or.inl ?_;(conv=>whnf);rw[hfe];rfl
end Go.Proofs.YtnlingegeangmaaGreatDoor
namespace Go.Proofs.YtnlingegeangmaaGreatDoor
open Go Go.Vx
theorem yF(l:List Fd)(r:List (List D))(nm:Str)(hl:l.length<=2000000):aF Tryz.prog T 120 [.lst 93 (l.map bJ) r,.s nm] (fun d _=>d = .i .i64 (cO nm l 0)):=by
 have h1:(l.map bJ).length=l.length:=sI;refine aF.aB tok Tryz.func120 rfl Tryz.call120 sI ?_;(try (conv=>whnf));repeat' (first|refine Ok.seq ?_|(refine Ok.region tok ?_;conv=>whnf)|refine Ok.block ?_|fail)
 refine Ok.aT [1,7,8] [9] 0 0 (fun (i:Nat)=>[.i .i64 (i:Nat)]) (fun _ b=>b) (fun _ r=>r) (fun (i:Nat)=>i<=l.length/\cO nm l 0=cO nm (l.drop i) i) (fun (i:Nat)=>l.length - i) (0) (⟨Nat.zero_le _,rfl⟩) ?_;(conv=>whnf);refine⟨by ((conv=>whnf);first|rfl|(simp[ak, au, SI.row, Node.row, Pfx.row, Link.row, aG, Line.row, Rule.row, Box.row, Slc.row, Config.row, eY, bJ];done)|(simp[ak, au, SI.row, Node.row, Pfx.row, Link.row, aG, Line.row, Rule.row, Box.row, Slc.row, Config.row, eY, bJ];rw[IntKind.wrap_i64];omega)),?_⟩;rintro i ⟨hi,hf⟩;(conv=>whnf);by_cases hil:i<l.length
 . obtain⟨c,hc⟩:∃ c,l[i]? = some c:=⟨_,aC hil⟩
   have hcI:l[((i:Nat):Int).toNat]? = some c:=hc;rw[Ad hc] at hf;(try (conv=>whnf));repeat' (first|refine Ok.seq ?_|((first|refine Ok.region tok ?_|refine Ok.cond ?_);conv=>whnf)|refine Ok.block ?_|((first|refine Ok.skip ?_|refine Ok.ret ?_|refine nI ?_|refine ix _ aS ?_);conv=>whnf)|(refine bI ?_ ?_<;>intro<;>first|omega|conv=>whnf)|fail)
   all_goals first
    | omega
    | (rename_i h
       refine Or.inl ?_;(conv=>whnf);rw[hf];unfold cO;rw[if_pos h];rfl)
    | (rename_i h
       refine⟨i+1,oA,⟨oA,?_⟩,?_⟩
       . rw[hf]
         conv=>lhs;unfold cO
         rw[if_neg h]
       . (conv=>whnf)
         rfl)
 . have hie:i=l.length:=oA
   subst hie;rw[List.drop_length] at hf;(try (conv=>whnf));repeat' (first|refine Ok.seq ?_|((first|refine Ok.region tok ?_|refine Ok.cond ?_|refine Ok.exit ?_|refine Ok.ret ?_);conv=>whnf)|(refine bI ?_ ?_<;>intro<;>first|omega|conv=>whnf)|fail)
   all_goals first
    | omega
    | (refine Or.inl ?_;(conv=>whnf)
       rw[hf];rfl)
theorem MC(all:List Fd):∀ (r:List Fd) (i:Nat) (sum:Int),kD all r i sum=(0,0)\/∃ j:Nat,kD all r i sum=(40,(j:Int))/\i<=j/\j<i+r.length
 | [],_,_=>.inl rfl
 | f :: r,i,sum=>by
  by_cases h:uT (all.take i) f sum
  . exact .inr ⟨i,Dc h,Nat.le_refl _,sI⟩
  . rw[Du h]
    rcases MC all r (i+1) (sum+f.bits) with h|⟨j,h,h1,h2⟩
    . exact .inl h
    . exact .inr ⟨j,h,oA,by simp;omega⟩
theorem Og(l:List Fd):(dh l=(2,0)/\12<l.length)\/(dh l=(40,0)/\l=[])\/(l ≠ []/\l.length<=12/\(dh l=(0,0)\/∃ j:Nat,dh l=(40,(j:Int))/\j<l.length)):=by
 by_cases h1:12<l.length
 . exact .inl ⟨Ip h1,h1⟩
 by_cases h2:l=[]
 . exact .inr (.inl ⟨IX (by rw[h2];rfl),h2⟩)
 refine .inr (.inr ⟨h2,oA,?_⟩);rw[Jt h1 (fun e=>h2 (List.eq_nil_of_length_eq_zero e))];rcases MC l l 0 0 with h|⟨j,h,h3,h4⟩
 . exact .inl h
 . exact .inr ⟨j,h,oA⟩
theorem vX(l:List SI):(fds l).length=l.length:=by simp[fds]
theorem ES(l:List SI):fds l=[] ↔ l=[]:=by simp[fds]
theorem Ph{pre:List SI}{f:SI}(h:Rsv f.s):wV pre f=(70,f.s):=if_pos h
theorem Y4{pre:List SI}{f:SI}(h:¬ Rsv f.s):wV pre f=(0,[]):=if_neg h
noncomputable def Fp(c:bC):Er:=by classical exact if (c.routing ≠ []/\¬ ∃ f ∈ c.fields,f.s=c.routing)\/(c.gB/\c.routing=[]) then (73,c.routing) else (0,[])
theorem Oh{c:bC}(h:256<c.title.length):jQ c=(71,[110,101,116,119,111,114,107]):=by unfold jQ;rw[if_pos h]
theorem DI{c:bC}(h:¬ 256<c.title.length)(h2:(dh (fds c.fields)).1=2\/c.fields=[]):jQ c=(70,[]):=by unfold jQ;rw[if_neg h,if_pos h2]
theorem Pj{c:bC}(h:¬ 256<c.title.length){j:Nat}{f:SI}(h2:dh (fds c.fields)=(40,(j:Int)))(hj:c.fields[j]? = some f):jQ c=(70,f.s):=by
 unfold jQ;rw[if_neg h,h2,if_neg (fun g=>g.elim (fun h=>absurd h sI) fun h=>by rw[h] at hj;cases hj),if_pos sI];simp[hj]
theorem Qz{c:bC}(h:¬ 256<c.title.length)(h2:dh (fds c.fields)=(0,0))(h3:c.fields ≠ []):jQ c=orE (aV wV [] c.fields) (Fp c):=by
 unfold jQ Fp;rw[if_neg h,h2,if_neg (fun g=>g.elim (fun h=>absurd h sI) h3),if_neg sI]
theorem H9{c:bC}(h:(c.routing ≠ []/\¬ ∃ f ∈ c.fields,f.s=c.routing)\/(c.gB/\c.routing=[])):Fp c=(73,c.routing):=if_pos h
end Go.Proofs.YtnlingegeangmaaGreatDoor
