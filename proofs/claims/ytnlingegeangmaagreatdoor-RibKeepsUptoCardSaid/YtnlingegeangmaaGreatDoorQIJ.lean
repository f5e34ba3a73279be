/- The walks and the plain laws that a law of networks needs, part 10. -/
import Derived.Test.YtnlingegeangmaaGreatDoorQIF
set_option linter.unusedVariables false
set_option linter.unusedSimpArgs false
set_option maxRecDepth 100000
set_option maxHeartbeats 16000000
namespace Go.Proofs.YtnlingegeangmaaGreatDoor
open Go Go.Vx
theorem Yj{Q:Exit->St->aH->aQ->Prop}{M:aQ}(w:Int)(l:List aj)(r2:List (List D))(c:Config)(er:List ER)(en:List EN)(et:List ET)(ys:List ET)(i:Nat)(hel:et.length<=300)(hil:i<et.length)(hyl:ys.length=et.length)(no:Nat)(hno:no<=1000000000)(n a cc:Nat)(hn:n<=3000000)(l0 g0 t0 t1:D)(rr:Vx.Rows)(hI:GI 55 (fT no) n a cc [] 0 l0 g0 t0 t1 rr)
    (hQ:∀ room,Q .normal ⟨[(0,.bp 1 0),(6,.i .i64 (i:Nat)),(178,.i .i64 w),(179,.lst 57 (l.map aj.row) r2),(184,.bp 0 0),(187,.lst 57 (l.map aj.row) rmK),(188,.bp 1 0)],[c.row,[.own 0 er.length,.own 1 en.length,.own 2 et.length]],[some (72,er.map aZ),some (76,en.map bg),some (136,(ys.set i ⟨.lst 55 (wrt (fT no) n) room,.lst 55 (aY (fT no) n 96) [],[],no⟩).map bF)],Tryz.f27.ntmps⟩ [] M) :
    OkB Tryz.prog T [] (dI [1,1,1,2,2,1,0,2,1] (Tryz.f27.body.getD .ret)) Q ⟨[(0,.bp 1 0),(6,.i .i64 (i:Nat)),(700,t0),(701,t1),(178,.i .i64 w),(179,.lst 57 (l.map aj.row) r2),(184,.bp 0 0),(187,.lst 57 (l.map aj.row) rmK),(188,.bp 1 0)],[c.row,[.own 0 er.length,.own 1 en.length,.own 2 et.length]],some (72,er.map aZ) :: some (76,en.map bg) :: some (136,(ys.set i ⟨l0,g0,[],no⟩).map bF) :: rr,Tryz.f27.ntmps⟩ [] M:=by
 have hym:(ys.map bF).length=et.length:=by simp[hyl]
 refine OkB.fC [0,6,178,179,184,187,188] 3 2 (fun room=>⟨[(0,.bp 1 0),(6,.i .i64 (i:Nat)),(178,.i .i64 w),(179,.lst 57 (l.map aj.row) r2),(184,.bp 0 0),(187,.lst 57 (l.map aj.row) rmK),(188,.bp 1 0)],[c.row,[.own 0 er.length,.own 1 en.length,.own 2 et.length]],[some (72,er.map aZ),some (76,en.map bg),some (136,(ys.set i ⟨.lst 55 (wrt (fT no) n) room,.lst 55 (aY (fT no) n 96) [],[],no⟩).map bF)],Tryz.f27.ntmps⟩) (fun _=>[]) (fun _=>M) (fun e _=>e = .normal) (OkB.fin ?_) ?_;rotate_left
 . rintro e room rfl
   exact hQ room
 have hI':=hI;cases hI
 case two hj _=>exact absurd hj oA
 all_goals
  (try (conv=>whnf));repeat' (first|refine OkB.seq ?_|(refine OkB.aA (OkM.region tok ?_);conv=>whnf)|refine OkB.block ?_|fail)
  refine OkB.aT [0,6,178,179,184,187,188] [7,700,701] 6 2 (fun (x:Nat × D × D × D × D × Vx.Rows)=>[.i .i64 (x.1:Nat),x.2.2.2.1,x.2.2.2.2.1]) (fun (x:Nat × D × D × D × D × Vx.Rows) (_:List (List D))=>[c.row,[.own 0 er.length,.own 1 en.length,.own 2 et.length]]) (fun (x:Nat × D × D × D × D × Vx.Rows) (_:Vx.Rows)=>some (72,er.map aZ) :: some (76,en.map bg) :: some (136,(ys.set i ⟨x.2.1,x.2.2.1,[],no⟩).map bF) :: x.2.2.2.2.2) (fun (x:Nat × D × D × D × D × Vx.Rows)=>[]) (fun (x:Nat × D × D × D × D × Vx.Rows)=>M) (fun (x:Nat × D × D × D × D × Vx.Rows)=>x.1<=96/\GI 55 (fT no) n a cc [] x.1 x.2.1 x.2.2.1 x.2.2.2.1 x.2.2.2.2.1 x.2.2.2.2.2) (fun (x:Nat × D × D × D × D × Vx.Rows)=>96 - x.1) ((0,_,_,_,_,_)) (⟨Nat.zero_le _,hI'⟩) sS sS ?_;(conv=>whnf);refine⟨by ((conv=>whnf);first|rfl|(simp[ak,au,aj.row,ay];done)|(simp[ak,au,aj.row,ay];rw[IntKind.wrap_i64];omega)),?_⟩;clear hI';rintro⟨j,lc,gc,ta,tb,rr'⟩ ⟨hj,hJ⟩;dsimp only at hj hJ ⊢;have hfj:=kX (fT no) n j
  cases hJ with
  | nil hn0=>
   subst hn0;have hEI:(ys.set i ((⟨.rnl,.rnl,[],no⟩:ET)))[((i:Nat):Int).toNat]? = some ⟨.rnl,.rnl,[],no⟩:=List.getElem?_set_self oA;(conv=>whnf)
   repeat' (first|(refine⟨(no:Int)+((5000+0:Nat):Int),(by (try dsimp only);rw[IntKind.wrap_i64];omega),?_⟩;conv=>whnf)|(refine⟨701,?_⟩;(conv=>whnf);refine⟨sI,_,.inl ⟨rfl,rfl⟩,?_⟩;(conv=>whnf);refine⟨sI,sI,aY (fT no) 0 (0+1),0+(0+1),qK (fT no) 0 0,(kX _ _ _).symm,fun g' c' hc'=>?_⟩;(conv=>whnf))|(refine st (f:=bF) ⟨.rnl,(.rsl g' (0+(0+1)) c'),[],no⟩ hEI sI rfl ?_;conv=>whnf)|refine OkB.seq ?_|((first|refine OkB.aA (OkM.region tok ?_)|refine OkB.aA (OkM.aB (Ok.dP (id:=23) tok follows [(16,25,[24,23,21,20,19,18]),(20,25,[24,23,21]),(16,26,[25,24,23,21,20,19,18]),(20,26,[25,24,23,21]),(25,26,[]),(5,27,[12,11,10,8,7,6]),(6,27,[12,11,10,8,7]),(7,27,[12,11,10,8]),(8,27,[12,11,10]),(9,27,[12,11,10]),(10,27,[12,11]),(11,27,[12]),(12,27,[]),(13,27,[26,25,24,23,21,20,19,18,16,15,14]),(14,27,[26,25,24,23,21,20,19,18,16,15]),(15,27,[26,25,24,23,21,20,19,18,16]),(16,27,[26,25,24,23,21,20,19,18]),(17,27,[26,25,24,23,21,20,19,18]),(18,27,[26,25,24,23,21,20,19]),(19,27,[26,25,24,23,21,20]),(20,27,[26,25,24,23,21]),(21,27,[26,25,24,23]),(22,27,[26,25,24,23]),(23,27,[26,25,24]),(24,27,[26,25]),(25,27,[26]),(26,27,[]),(3,30,[]),(8,30,[]),(12,30,[]),(16,30,[]),(20,30,[]),(25,30,[]),(26,30,[]),(27,30,[])] (.q 0 (.q 1 (.q 2 (.q 4 (.q 5 (.q 6 (.q 7 (.q 8 (.q 9 (.q 10 (.q 11 (.q 12 (.q 13 (.q 14 (.q 15 (.q 16 (.q 17 (.q 18 (.q 19 (.q 20 (.q 21 (.q 22 (.q 23 (.q 24 (.alt 3 (.l 25 (.l 26 (.l 27 (.q 28 (.q 29 (.l 30 .nil)))))) (.alt 25 (.alt 3 (.l 26 (.l 27 (.q 28 (.q 29 (.l 30 .nil))))) (.alt 26 (.alt 3 (.l 27 (.q 28 (.q 29 (.l 30 .nil)))) (.alt 27 (.q 3 (.q 28 (.q 29 (.l 30 .nil)))) .nil)) .nil)) .nil)))))))))))))))))))))))))) kR ?_))|refine OkB.cond ?_);conv=>whnf)|refine OkB.block ?_|((first|refine OkB.skip ?_|refine nI ?_|refine rd rfl aS ?_);conv=>whnf)|(refine bI ?_ ?_<;>intro<;>first|omega|conv=>whnf)|(refine aJ ?_;conv=>whnf)|(exact True.intro)|(refine And.intro ?_ ?_<;>(conv=>whnf))|fail)
   all_goals first
    | omega
    | (refine⟨(0+1,.rnl,.rsl g' (0+(0+1)) c',.u,.tie 5 g' (0+(0+1)) c',[none,some (55,[(fT no) (5000+0)]),some (55,aY (fT no) 0 (0+1))]),by dsimp only;omega,⟨by dsimp only;omega,.two _ _ oA (.inr ⟨rfl,rfl⟩) g' c' _ _⟩,.refl _,.refl _,?_⟩
       ((conv=>whnf);first|rfl|(simp[ak];done)|(simp[ak];rfl)|(simp[ak];exact⟨rfl,rfl⟩)|(simp[ak,Config.row];done))
       done)
  | one j=>
   (conv=>whnf);by_cases hjl:j<96
   . have hEI:(ys.set i ((⟨.rsl a n cc,.rsl a (n+j) cc,[],no⟩:ET)))[((i:Nat):Int).toNat]? = some ⟨.rsl a n cc,.rsl a (n+j) cc,[],no⟩:=List.getElem?_set_self oA
     repeat' (first|(refine⟨(no:Int)+((5000+j:Nat):Int),(by (try dsimp only);rw[IntKind.wrap_i64];omega),?_⟩;conv=>whnf)|(refine⟨(no:Int)+5000,(by (try dsimp only);rw[IntKind.wrap_i64];omega),?_⟩;conv=>whnf)|((first|refine⟨700,701,3,rfl,?_⟩|refine⟨aY (fT no) n (j+1),n+(j+1),qK (fT no) n j,(kX _ _ _).symm,?_⟩);conv=>whnf)|(refine⟨fun _=>?_,fun _=>⟨5,by (conv=>whnf);exact True.intro,fun g' c' hc'=>?_⟩⟩<;>(conv=>whnf))|((first|refine st (f:=bF) ⟨.rsl a n cc,(.rsl a (n+(j+1)) cc),[],no⟩ hEI sI rfl ?_|refine st (f:=bF) ⟨.rsl a n cc,(.rsl g' (n+(j+1)) c'),[],no⟩ hEI sI rfl ?_);conv=>whnf)|(refine OkB.go (c:=.region 22 _ _) (GoH.sG 700 2 i (cs:=bF ⟨.rsl a n cc,(.rsl g' (n+(j+1)) c'),[],no⟩) (bF ⟨.lst 55 (wrt (fT no) n) ((aY (fT no) n j).drop n),(.rsl g' (n+(j+1)) c'),[],no⟩) rfl rfl rfl dC (qY bF (by rw[List.length_set];omega)) LW ?_);conv=>whnf)|refine OkB.seq ?_|((first|refine OkB.aA (OkM.region tok ?_)|refine OkB.aA (OkM.aB (Ok.dP (id:=23) tok follows [(16,25,[24,23,21,20,19,18]),(20,25,[24,23,21]),(16,26,[25,24,23,21,20,19,18]),(20,26,[25,24,23,21]),(25,26,[]),(5,27,[12,11,10,8,7,6]),(6,27,[12,11,10,8,7]),(7,27,[12,11,10,8]),(8,27,[12,11,10]),(9,27,[12,11,10]),(10,27,[12,11]),(11,27,[12]),(12,27,[]),(13,27,[26,25,24,23,21,20,19,18,16,15,14]),(14,27,[26,25,24,23,21,20,19,18,16,15]),(15,27,[26,25,24,23,21,20,19,18,16]),(16,27,[26,25,24,23,21,20,19,18]),(17,27,[26,25,24,23,21,20,19,18]),(18,27,[26,25,24,23,21,20,19]),(19,27,[26,25,24,23,21,20]),(20,27,[26,25,24,23,21]),(21,27,[26,25,24,23]),(22,27,[26,25,24,23]),(23,27,[26,25,24]),(24,27,[26,25]),(25,27,[26]),(26,27,[]),(3,30,[]),(8,30,[]),(12,30,[]),(16,30,[]),(20,30,[]),(25,30,[]),(26,30,[]),(27,30,[])] (.q 0 (.q 1 (.q 2 (.q 4 (.q 5 (.q 6 (.q 7 (.q 8 (.q 9 (.q 10 (.q 11 (.q 12 (.q 13 (.q 14 (.q 15 (.q 16 (.q 17 (.q 18 (.q 19 (.q 20 (.q 21 (.q 22 (.q 23 (.q 24 (.alt 3 (.l 25 (.l 26 (.l 27 (.q 28 (.q 29 (.l 30 .nil)))))) (.alt 25 (.alt 3 (.l 26 (.l 27 (.q 28 (.q 29 (.l 30 .nil))))) (.alt 26 (.alt 3 (.l 27 (.q 28 (.q 29 (.l 30 .nil)))) (.alt 27 (.q 3 (.q 28 (.q 29 (.l 30 .nil)))) .nil)) .nil)) .nil)))))))))))))))))))))))))) kR ?_))|refine OkB.cond ?_);conv=>whnf)|refine OkB.block ?_|((first|refine OkB.skip ?_|refine nI ?_|refine rd rfl aS ?_|refine⟨_,.inl ⟨rfl,rfl⟩,?_⟩);conv=>whnf)|(refine bI ?_ ?_<;>intro<;>first|omega|conv=>whnf)|(refine aJ ?_;conv=>whnf)|(exact True.intro)|(refine And.intro ?_ ?_<;>(conv=>whnf))|fail)
     all_goals first
      | omega
      | (refine⟨(j+1,.rsl a n cc,.rsl a (n+(j+1)) cc,.tie 3 a (n+(j+1)) cc,.u,[some (55,aY (fT no) n (j+1)),some (55,[]),some (55,[])]),by dsimp only;omega,⟨by dsimp only;omega,.one (j+1)⟩,.refl _,.refl _,?_⟩
         ((conv=>whnf);first|rfl|(simp[ak];done)|(simp[ak];rfl)|(simp[ak];exact⟨rfl,rfl⟩)|(simp[ak,Config.row];done))
         done)
      | (refine⟨(j+1,.lst 55 (wrt (fT no) n) ((aY (fT no) n j).drop n),.rsl g' (n+(j+1)) c',.u,.tie 5 g' (n+(j+1)) c',[none,some (55,[]),some (55,aY (fT no) n (j+1))]),by dsimp only;omega,⟨by dsimp only;omega,.two _ _ oA (.inl ⟨_,rfl⟩) g' c' _ _⟩,.refl _,.refl _,?_⟩
         ((conv=>whnf);first|rfl|(simp[ak];done)|(simp[ak];rfl)|(simp[ak];exact⟨rfl,rfl⟩)|(simp[ak,Config.row];done))
         done)
   . obtain rfl:j=96:=oA
     (try (conv=>whnf));repeat' (first|refine OkB.seq ?_|((first|refine OkB.aA (OkM.region tok ?_)|refine OkB.cond ?_|refine OkB.exit ?_);conv=>whnf)|(refine bI ?_ ?_<;>intro<;>first|omega|conv=>whnf)|fail)
     refine⟨GoH.sG 700 2 i (cs:=bF ⟨.rsl a n cc,.rsl a (n+96) cc,[],no⟩) (bF ⟨.lst 55 (wrt (fT no) n) ((aY (fT no) n 96).drop n),.lst 55 (aY (fT no) n 96) [],[],no⟩) rfl rfl rfl dC (qY bF oA) LY ?_⟩;(conv=>whnf);refine⟨(aY (fT no) n 96).drop n,rfl,.refl _,.refl _,?_⟩
     ((conv=>whnf);first|rfl|(simp[ak];done)|(simp[ak];rfl)|(simp[ak];exact⟨rfl,rfl⟩)|(simp[ak,Config.row];done))
  | two j lc hj0 hl a' c' z z2=>
   (conv=>whnf);by_cases hjl:j<96
   . have hEI:(ys.set i ((⟨lc,(.rsl a' (n+j) c'),[],no⟩:ET)))[((i:Nat):Int).toNat]? = some ⟨lc,(.rsl a' (n+j) c'),[],no⟩:=List.getElem?_set_self oA
     repeat' (first|(refine⟨(no:Int)+((5000+j:Nat):Int),(by (try dsimp only);rw[IntKind.wrap_i64];omega),?_⟩;conv=>whnf)|(refine⟨(no:Int)+5000,(by (try dsimp only);rw[IntKind.wrap_i64];omega),?_⟩;conv=>whnf)|((first|refine⟨701,701,5,rfl,?_⟩|refine⟨aY (fT no) n (j+1),n+(j+1),qK (fT no) n j,(kX _ _ _).symm,?_⟩);conv=>whnf)|(refine⟨fun _=>?_,fun _=>⟨5,by (conv=>whnf);exact True.intro,fun g' c'' hc'=>?_⟩⟩<;>(conv=>whnf))|((first|refine st (f:=bF) ⟨lc,(.rsl a' (n+(j+1)) c'),[],no⟩ hEI sI rfl ?_|refine st (f:=bF) ⟨lc,(.rsl g' (n+(j+1)) c''),[],no⟩ hEI sI rfl ?_);conv=>whnf)|refine OkB.seq ?_|((first|refine OkB.aA (OkM.region tok ?_)|refine OkB.aA (OkM.aB (Ok.dP (id:=23) tok follows [(16,25,[24,23,21,20,19,18]),(20,25,[24,23,21]),(16,26,[25,24,23,21,20,19,18]),(20,26,[25,24,23,21]),(25,26,[]),(5,27,[12,11,10,8,7,6]),(6,27,[12,11,10,8,7]),(7,27,[12,11,10,8]),(8,27,[12,11,10]),(9,27,[12,11,10]),(10,27,[12,11]),(11,27,[12]),(12,27,[]),(13,27,[26,25,24,23,21,20,19,18,16,15,14]),(14,27,[26,25,24,23,21,20,19,18,16,15]),(15,27,[26,25,24,23,21,20,19,18,16]),(16,27,[26,25,24,23,21,20,19,18]),(17,27,[26,25,24,23,21,20,19,18]),(18,27,[26,25,24,23,21,20,19]),(19,27,[26,25,24,23,21,20]),(20,27,[26,25,24,23,21]),(21,27,[26,25,24,23]),(22,27,[26,25,24,23]),(23,27,[26,25,24]),(24,27,[26,25]),(25,27,[26]),(26,27,[]),(3,30,[]),(8,30,[]),(12,30,[]),(16,30,[]),(20,30,[]),(25,30,[]),(26,30,[]),(27,30,[])] (.q 0 (.q 1 (.q 2 (.q 4 (.q 5 (.q 6 (.q 7 (.q 8 (.q 9 (.q 10 (.q 11 (.q 12 (.q 13 (.q 14 (.q 15 (.q 16 (.q 17 (.q 18 (.q 19 (.q 20 (.q 21 (.q 22 (.q 23 (.q 24 (.alt 3 (.l 25 (.l 26 (.l 27 (.q 28 (.q 29 (.l 30 .nil)))))) (.alt 25 (.alt 3 (.l 26 (.l 27 (.q 28 (.q 29 (.l 30 .nil))))) (.alt 26 (.alt 3 (.l 27 (.q 28 (.q 29 (.l 30 .nil)))) (.alt 27 (.q 3 (.q 28 (.q 29 (.l 30 .nil)))) .nil)) .nil)) .nil)))))))))))))))))))))))))) kR ?_))|refine OkB.cond ?_);conv=>whnf)|refine OkB.block ?_|((first|refine OkB.skip ?_|refine nI ?_|refine rd rfl aS ?_|refine⟨_,.inl ⟨rfl,rfl⟩,?_⟩);conv=>whnf)|(refine bI ?_ ?_<;>intro<;>first|omega|conv=>whnf)|(refine aJ ?_;conv=>whnf)|(exact True.intro)|(refine And.intro ?_ ?_<;>(conv=>whnf))|fail)
     all_goals first
      | omega
      | (refine⟨(j+1,lc,.rsl a' (n+(j+1)) c',.u,.tie 5 a' (n+(j+1)) c',[z,z2,some (55,aY (fT no) n (j+1))]),by dsimp only;omega,⟨by dsimp only;omega,.two _ _ oA hl a' c' _ _⟩,.refl _,.refl _,?_⟩
         ((conv=>whnf);first|rfl|(simp[ak];done)|(simp[ak];rfl)|(simp[ak];exact⟨rfl,rfl⟩)|(simp[ak,Config.row];done))
         done)
      | (refine⟨(j+1,lc,.rsl g' (n+(j+1)) c'',.u,.tie 5 g' (n+(j+1)) c'',[z,z2,some (55,aY (fT no) n (j+1))]),by dsimp only;omega,⟨by dsimp only;omega,.two _ _ oA hl g' c'' _ _⟩,.refl _,.refl _,?_⟩
         ((conv=>whnf);first|rfl|(simp[ak];done)|(simp[ak];rfl)|(simp[ak];exact⟨rfl,rfl⟩)|(simp[ak,Config.row];done))
         done)
   . obtain rfl:j=96:=oA
     obtain⟨room,hr⟩:=hl.pub (a:=a') (c:=c') (j:=96) (tl:=[.i .i64 (no:Nat)]);(try (conv=>whnf));repeat' (first|refine OkB.seq ?_|((first|refine OkB.aA (OkM.region tok ?_)|refine OkB.cond ?_|refine OkB.exit ?_);conv=>whnf)|(refine bI ?_ ?_<;>intro<;>first|omega|conv=>whnf)|fail)
     refine⟨GoH.sG 701 2 i (cs:=bF ⟨lc,(.rsl a' (n+96) c'),[],no⟩) (bF ⟨.lst 55 (wrt (fT no) n) room,.lst 55 (aY (fT no) n 96) [],[],no⟩) rfl rfl rfl dC (qY bF oA) hr ?_⟩;(conv=>whnf);refine⟨room,rfl,.refl _,.refl _,?_⟩
     ((conv=>whnf);first|rfl|(simp[ak];done)|(simp[ak];rfl)|(simp[ak];exact⟨rfl,rfl⟩)|(simp[ak,Config.row];done))
theorem abP{Q:Exit->St->aH->aQ->Prop}(w:Int)(l:List aj)(r2:List (List D))(c:Config)(er:List ER)(en:List EN)(et:List ET)(hel:et.length<=300)(hF:∀ i e,et[i]? = some e->xW i e)
    (hQ:∀ et',et'.length=et.length->(∀ i e,et'[i]? = some e->GrT i e)->Q .normal (kpG w l r2 c er en et') [] (bkR er++(bkN en++bkT et'))) :
    OkB Tryz.prog T [] (dI [1,1] (Tryz.f27.body.getD .ret)) Q (kpG w l r2 c er en et) [] (bkR er++(bkN en++bkT et)):=by
 have hem:(et.map bF).length=et.length:=sI;refine OkB.fC [0,178,179,184,187,188] 3 2 (fun x:List ET=>kpG w l r2 c er en x) (fun _=>[]) (fun x=>bkR er++(bkN en++bkT x)) (fun e x=>e = .normal/\x.length=et.length/\∀ i e,x[i]? = some e->GrT i e) ?_ ?_;rotate_left
 . rintro e et' ⟨rfl,k1,k3⟩
   exact hQ et' k1 k3
 unfold kpG;(try (conv=>whnf));repeat' (first|refine OkB.seq ?_|(refine OkB.aA (OkM.region tok ?_);conv=>whnf)|refine OkB.block ?_|fail)
 refine OkB.aT [0,178,179,184,187,188] [6] 3 2 (fun (x:Nat × List ET)=>[.i .i64 (x.1:Nat)]) (fun (x:Nat × List ET) (_:List (List D))=>[c.row,[.own 0 er.length,.own 1 en.length,.own 2 et.length]]) (fun (x:Nat × List ET) (_:Vx.Rows)=>[some (72,er.map aZ),some (76,en.map bg),some (136,x.2.map bF)]) (fun (x:Nat × List ET)=>[]) (fun (x:Nat × List ET)=>bkR er++(bkN en++bkT x.2)) (fun (x:Nat × List ET)=>x.1<=et.length/\x.2.length=et.length/\Tw GrT xW x.1 x.2) (fun (x:Nat × List ET)=>et.length - x.1) ((0,et)) (⟨Nat.zero_le _,rfl,.start hF⟩) sS sS ?_;(conv=>whnf);refine⟨by ((conv=>whnf);first|rfl|(simp[ak,au,aj.row,ay];done)|(simp[ak,au,aj.row,ay];rw[IntKind.wrap_i64];omega)),?_⟩;rintro⟨i,ys⟩ ⟨hi,hyl,hT⟩;dsimp only at hi hyl hT ⊢;have hym:(ys.map bF).length=ys.length:=sI;(conv=>whnf);by_cases hil:i<et.length
 . obtain⟨e,he⟩:∃ e,ys[i]? = some e:=⟨_,aC oA⟩
   have heI:ys[((i:Nat):Int).toNat]? = some e:=he;have hfe:=(hT i e he).2 (Nat.le_refl _);have hin:=fun Q M no hno n a cc hn l0 g0 t0 t1 rr hI hQ=>@Yj Q M w l r2 c er en et ys i hel hil hyl no hno n a cc hn l0 g0 t0 t1 rr hI hQ
   cases hfe with
   | nil no hno=>
    skip
    (conv=>whnf)
    repeat' (first|(refine st (f:=bF) ⟨.rnl,.rnl,[],no⟩ heI sI rfl ?_;conv=>whnf)|(refine OkB.keep (c:=dI [1,1,1,2,2,1,0,2,1] (Tryz.f27.body.getD .ret)) [0,6,700,701,178,179,184,187,188] 6 2 ?_;(conv=>whnf);refine jm ?_)|refine OkB.seq ?_|((first|refine OkB.aA (OkM.region tok ?_)|refine OkB.aA (OkM.aB (Ok.aW (id:=19) tok follows [(3,15,[]),(8,15,[]),(12,15,[])] [.q 0,.q 1,.q 2,.q 3,.q 4,.q 5,.q 6,.q 7,.q 8,.q 9,.q 10,.q 11,.q 12,.q 13,.q 14,.l 15] kR ?_))|refine OkB.cond ?_);conv=>whnf)|refine OkB.block ?_|((first|refine OkB.skip ?_|refine rd rfl aS ?_);conv=>whnf)|(refine bI ?_ ?_<;>intro<;>first|omega|conv=>whnf)|(refine aJ ?_;conv=>whnf)|fail)
    refine⟨hin _ _ no hno 0 0 0 oA _ _ _ _ _ (.nil rfl) fun room=>?_⟩;(conv=>whnf)
    repeat' (first|(refine OkB.perm (c:=.region 18 _ _) ((qX ET.ks he (pmT _ _ _)).trans (rG ET.ks ⟨.lst 55 (wrt (fT no) 0) room,.lst 55 (aY (fT no) 0 96) [],[],no⟩ he (pmT _ _ _))) ?_)|((first|refine OkB.aA (OkM.region tok ?_)|refine nI ?_);conv=>whnf)|fail)
    all_goals first
     | (refine⟨(i+1,ys.set i ⟨.lst 55 (wrt (fT no) 0) room,.lst 55 (aY (fT no) 0 96) [],[],no⟩),by dsimp only;omega,⟨by dsimp only;omega,by simp[hyl],hT.next oA (.mk 0 room no hno oA)⟩,.refl _,.refl _,?_⟩
        ((conv=>whnf);first|rfl|(simp[ak];done)|(simp[ak];rfl)|(simp[ak,Config.row];done))
        done)
   | raw g n cc o no hno E hn hn16 hE hb=>
    refine OkB.perm (qX ET.ks he (pmT _ _ _)) ?_;refine OkB.go (GoH.open 700 hb ?_);(conv=>whnf);refine OkB.go (GoH.Gx 3 (fun k=>tK no k) hE rfl ?_);(conv=>whnf);subst hn;refine OkB.go (GoH.pad 55 ?_);(conv=>whnf);refine OkB.go (GoH.pad 55 ?_);(conv=>whnf)
    repeat' (first|(refine st (f:=bF) ⟨.rsl g E.length cc,.rsl g E.length cc,[],no⟩ heI sI rfl ?_;conv=>whnf)|(refine OkB.keep (c:=dI [1,1,1,2,2,1,0,2,1] (Tryz.f27.body.getD .ret)) [0,6,700,701,178,179,184,187,188] 6 2 ?_;(conv=>whnf);refine jm ?_)|refine OkB.seq ?_|((first|refine OkB.aA (OkM.region tok ?_)|refine OkB.aA (OkM.aB (Ok.aW (id:=19) tok follows [(3,15,[]),(8,15,[]),(12,15,[])] [.q 0,.q 1,.q 2,.q 3,.q 4,.q 5,.q 6,.q 7,.q 8,.q 9,.q 10,.q 11,.q 12,.q 13,.q 14,.l 15] kR ?_))|refine OkB.cond ?_);conv=>whnf)|refine OkB.block ?_|((first|refine OkB.skip ?_|refine rd rfl aS ?_);conv=>whnf)|(refine bI ?_ ?_<;>intro<;>first|omega|conv=>whnf)|(refine aJ ?_;conv=>whnf)|fail)
    have hI:=GI.one (e:=55) (f:=(fT no)) (n:=E.length) (a:=g) (c:=cc) (zs:=[]) 0;rw[Ic] at hI;refine⟨hin _ _ no hno E.length g cc oA _ _ _ _ _ hI fun room=>?_⟩;(conv=>whnf)
    repeat' (first|(refine OkB.perm (c:=.region 18 _ _) (rG ET.ks ⟨.lst 55 (wrt (fT no) E.length) room,.lst 55 (aY (fT no) E.length 96) [],[],no⟩ he (pmT _ _ _)) ?_)|((first|refine OkB.aA (OkM.region tok ?_)|refine nI ?_);conv=>whnf)|fail)
    all_goals first
     | (refine⟨(i+1,ys.set i ⟨.lst 55 (wrt (fT no) E.length) room,.lst 55 (aY (fT no) E.length 96) [],[],no⟩),by dsimp only;omega,⟨by dsimp only;omega,by simp[hyl],hT.next oA (.mk _ room no hno oA)⟩,.refl _,.refl _,?_⟩
        ((conv=>whnf);first|rfl|(simp[ak];done)|(simp[ak];rfl)|(simp[ak,Config.row];done))
        done)
 . obtain rfl:i=et.length:=oA
   (try (conv=>whnf));repeat' (first|refine OkB.seq ?_|((first|refine OkB.aA (OkM.region tok ?_)|refine OkB.cond ?_|refine OkB.exit ?_);conv=>whnf)|(refine bI ?_ ?_<;>intro<;>first|omega|conv=>whnf)|fail)
   all_goals first
    | omega
    | (refine⟨ys,⟨rfl,hyl,hT.done oA⟩,.refl _,.refl _,?_⟩
       try dsimp only
       rw[hyl];(conv=>whnf)
       try rfl)
end Go.Proofs.YtnlingegeangmaaGreatDoor
