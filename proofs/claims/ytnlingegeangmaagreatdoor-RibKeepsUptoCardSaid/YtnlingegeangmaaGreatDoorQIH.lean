/- The walks and the plain laws that a law of networks needs, part 8. -/
import Derived.Test.YtnlingegeangmaaGreatDoorQIF
set_option linter.unusedVariables false
set_option linter.unusedSimpArgs false
set_option maxRecDepth 100000
set_option maxHeartbeats 16000000
namespace Go.Proofs.YtnlingegeangmaaGreatDoor
open Go Go.Vx
theorem Yh{Q:Exit->St->aH->aQ->Prop}{M:aQ}(w:Int)(l:List aj)(r2:List (List D))(c:Config)(er:List ER)(en:List EN)(et:List ET)(ys:List ER)(i:Nat)(hel:er.length<=7000)(hil:i<er.length)(hyl:ys.length=er.length)(was:List aj)(n a cc:Nat)(hn:n<=3000000)(l0 g0 t0 t1:D)(rr:Vx.Rows)(hI:GI 57 (fR i) n a cc [some (57,[])] 0 l0 g0 t0 t1 rr)
    (hQ:∀ room,Q .normal ⟨[(0,.bp 1 0),(2,.i .i64 (i:Nat)),(178,.i .i64 w),(179,.lst 57 (l.map aj.row) r2),(184,.bp 0 0),(187,.lst 57 (l.map aj.row) rmK),(188,.bp 1 0)],[c.row,[.own 0 er.length,.own 1 en.length,.own 2 et.length]],[some (72,(ys.set i ⟨.lst 57 (wrt (fR i) n) room,.lst 57 (aY (fR i) n 96) [],[],was,i⟩).map aZ),some (76,en.map bg),some (136,et.map bF)],Tryz.f27.ntmps⟩ [] M) :
    OkB Tryz.prog T [] (dI [0,1,2,2,1,0,2,1] (Tryz.f27.body.getD .ret)) Q ⟨[(0,.bp 1 0),(2,.i .i64 (i:Nat)),(700,t0),(701,t1),(178,.i .i64 w),(179,.lst 57 (l.map aj.row) r2),(184,.bp 0 0),(187,.lst 57 (l.map aj.row) rmK),(188,.bp 1 0)],[c.row,[.own 0 er.length,.own 1 en.length,.own 2 et.length]],some (72,(ys.set i ⟨l0,g0,[],was,i⟩).map aZ) :: some (76,en.map bg) :: some (136,et.map bF) :: rr,Tryz.f27.ntmps⟩ [] M:=by
 have hym:(ys.map aZ).length=er.length:=by simp[hyl]
 refine OkB.fC [0,2,178,179,184,187,188] 3 2 (fun room=>⟨[(0,.bp 1 0),(2,.i .i64 (i:Nat)),(178,.i .i64 w),(179,.lst 57 (l.map aj.row) r2),(184,.bp 0 0),(187,.lst 57 (l.map aj.row) rmK),(188,.bp 1 0)],[c.row,[.own 0 er.length,.own 1 en.length,.own 2 et.length]],[some (72,(ys.set i ⟨.lst 57 (wrt (fR i) n) room,.lst 57 (aY (fR i) n 96) [],[],was,i⟩).map aZ),some (76,en.map bg),some (136,et.map bF)],Tryz.f27.ntmps⟩) (fun _=>[]) (fun _=>M) (fun e _=>e = .normal) (OkB.fin ?_) ?_;rotate_left
 . rintro e room rfl
   exact hQ room
 have hmk:∀ j:Nat,j<96->aF Tryz.prog T 71 [.i .i64 (i:Nat),.i .i64 (5000+(j:Nat))] (fun d rows=>d = .agg (fR i (5000+j))/\rows=[]):=fun j hj=>by
  have:=AA i (5000+j) oA oA;rwa [Int.natCast_add] at this
 have hI':=hI;cases hI
 case two hj _=>exact absurd hj oA
 all_goals
  (try (conv=>whnf));repeat' (first|refine OkB.seq ?_|(refine OkB.aA (OkM.region tok ?_);conv=>whnf)|refine OkB.block ?_|fail)
  refine OkB.aT [0,2,178,179,184,187,188] [3,700,701] 6 2 (fun (x:Nat × D × D × D × D × Vx.Rows)=>[.i .i64 (x.1:Nat),x.2.2.2.1,x.2.2.2.2.1]) (fun (x:Nat × D × D × D × D × Vx.Rows) (_:List (List D))=>[c.row,[.own 0 er.length,.own 1 en.length,.own 2 et.length]]) (fun (x:Nat × D × D × D × D × Vx.Rows) (_:Vx.Rows)=>some (72,(ys.set i ⟨x.2.1,x.2.2.1,[],was,i⟩).map aZ) :: some (76,en.map bg) :: some (136,et.map bF) :: x.2.2.2.2.2) (fun (x:Nat × D × D × D × D × Vx.Rows)=>[]) (fun (x:Nat × D × D × D × D × Vx.Rows)=>M) (fun (x:Nat × D × D × D × D × Vx.Rows)=>x.1<=96/\GI 57 (fR i) n a cc [some (57,[])] x.1 x.2.1 x.2.2.1 x.2.2.2.1 x.2.2.2.2.1 x.2.2.2.2.2) (fun (x:Nat × D × D × D × D × Vx.Rows)=>96 - x.1) ((0,_,_,_,_,_)) (⟨Nat.zero_le _,hI'⟩) sS sS ?_;(conv=>whnf);refine⟨by ((conv=>whnf);first|rfl|(simp[ak,au,aj.row,ay];done)|(simp[ak,au,aj.row,ay];rw[IntKind.wrap_i64];omega)),?_⟩;clear hI';rintro⟨j,lc,gc,ta,tb,rr'⟩ ⟨hj,hJ⟩;dsimp only at hj hJ ⊢;have hfj:=kX (fR i) n j
  cases hJ with
  | nil hn0=>
   subst hn0;have hEI:(ys.set i ((⟨.rnl,.rnl,[],was,i⟩:ER)))[((i:Nat):Int).toNat]? = some ⟨.rnl,.rnl,[],was,i⟩:=List.getElem?_set_self oA;(conv=>whnf)
   repeat' (first|(refine⟨701,?_⟩;(conv=>whnf);refine⟨sI,_,.inl ⟨rfl,rfl⟩,?_⟩;(conv=>whnf);refine⟨sI,sI,aY (fR i) 0 (0+1),0+(0+1),qK (fR i) 0 0,(kX _ _ _).symm,fun g' c' hc'=>?_⟩;(conv=>whnf))|(refine st (f:=aZ) ⟨.rnl,(.rsl g' (0+(0+1)) c'),[],was,i⟩ hEI sI rfl ?_;conv=>whnf)|refine OkB.seq ?_|((first|refine OkB.aA (OkM.region tok ?_)|refine OkB.aA (OkM.aB (Ok.dP (id:=7) tok follows [(16,23,[20,19,18]),(20,23,[]),(16,24,[23,20,19,18]),(20,24,[23]),(23,24,[]),(5,25,[12,11,10,8,7,6]),(6,25,[12,11,10,8,7]),(7,25,[12,11,10,8]),(8,25,[12,11,10]),(9,25,[12,11,10]),(10,25,[12,11]),(11,25,[12]),(12,25,[]),(13,25,[23,20,19,18,16,15,14]),(14,25,[23,20,19,18,16,15]),(15,25,[23,20,19,18,16]),(16,25,[23,20,19,18]),(17,25,[23,20,19,18]),(18,25,[23,20,19]),(19,25,[23,20]),(20,25,[23]),(21,25,[23,22]),(22,25,[23]),(23,25,[]),(24,25,[]),(3,28,[]),(8,28,[]),(12,28,[]),(16,28,[]),(20,28,[]),(23,28,[]),(24,28,[]),(25,28,[])] (.q 0 (.q 1 (.q 2 (.q 4 (.q 5 (.q 6 (.q 7 (.q 8 (.q 9 (.q 10 (.q 11 (.q 12 (.q 13 (.q 14 (.q 15 (.q 16 (.q 17 (.q 18 (.q 19 (.q 20 (.q 21 (.q 22 (.alt 3 (.l 23 (.l 24 (.l 25 (.q 26 (.q 27 (.l 28 .nil)))))) (.alt 23 (.alt 3 (.l 24 (.l 25 (.q 26 (.q 27 (.l 28 .nil))))) (.alt 24 (.alt 3 (.l 25 (.q 26 (.q 27 (.l 28 .nil)))) (.alt 25 (.q 3 (.q 26 (.q 27 (.l 28 .nil)))) .nil)) .nil)) .nil)))))))))))))))))))))))) kR ?_))|refine OkB.cond ?_);conv=>whnf)|refine OkB.block ?_|((first|refine OkB.skip ?_|refine nI ?_);conv=>whnf)|(refine Or.inr (Or.inl ?_);(conv=>whnf);(repeat (refine aI ?_;conv=>whnf));refine⟨_,hmk 0 oA,?_⟩;rintro _ _ ⟨rfl,rfl⟩;conv=>whnf)|(refine rd rfl aS ?_;conv=>whnf)|(refine bI ?_ ?_<;>intro<;>first|omega|conv=>whnf)|(refine aJ ?_;conv=>whnf)|(exact True.intro)|(refine And.intro ?_ ?_<;>(conv=>whnf))|fail)
   all_goals first
    | omega
    | (refine⟨(0+1,.rnl,.rsl g' (0+(0+1)) c',.u,.tie 5 g' (0+(0+1)) c',[some (57,[]),some (57,[(fR i) (5000+0)]),some (57,aY (fR i) 0 (0+1))]),by dsimp only;omega,⟨by dsimp only;omega,.two _ _ oA (.inr ⟨rfl,rfl⟩) g' c' _ _⟩,.refl _,.refl _,?_⟩
       ((conv=>whnf);first|rfl|(simp[ak];done)|(simp[ak];rfl)|(simp[ak,Config.row];done))
       done)
  | one j=>
   (conv=>whnf);by_cases hjl:j<96
   . have hEI:(ys.set i ((⟨.rsl a n cc,.rsl a (n+j) cc,[],was,i⟩:ER)))[((i:Nat):Int).toNat]? = some ⟨.rsl a n cc,.rsl a (n+j) cc,[],was,i⟩:=List.getElem?_set_self oA
     repeat' (first|((first|refine⟨700,701,3,rfl,?_⟩|refine⟨aY (fR i) n (j+1),n+(j+1),qK (fR i) n j,(kX _ _ _).symm,?_⟩);conv=>whnf)|(refine⟨fun _=>?_,fun _=>⟨5,by (conv=>whnf);exact True.intro,fun g' c' hc'=>?_⟩⟩<;>(conv=>whnf))|((first|refine st (f:=aZ) ⟨.rsl a n cc,(.rsl a (n+(j+1)) cc),[],was,i⟩ hEI sI rfl ?_|refine st (f:=aZ) ⟨.rsl a n cc,(.rsl g' (n+(j+1)) c'),[],was,i⟩ hEI sI rfl ?_);conv=>whnf)|(refine OkB.go (c:=.region 6 _ _) (GoH.sG 700 0 i (cs:=aZ ⟨.rsl a n cc,(.rsl g' (n+(j+1)) c'),[],was,i⟩) (aZ ⟨.lst 57 (wrt (fR i) n) ((aY (fR i) n j).drop n),(.rsl g' (n+(j+1)) c'),[],was,i⟩) rfl rfl rfl dC (qY aZ (by rw[List.length_set];omega)) LW ?_);conv=>whnf)|refine OkB.seq ?_|((first|refine OkB.aA (OkM.region tok ?_)|refine OkB.aA (OkM.aB (Ok.dP (id:=7) tok follows [(16,23,[20,19,18]),(20,23,[]),(16,24,[23,20,19,18]),(20,24,[23]),(23,24,[]),(5,25,[12,11,10,8,7,6]),(6,25,[12,11,10,8,7]),(7,25,[12,11,10,8]),(8,25,[12,11,10]),(9,25,[12,11,10]),(10,25,[12,11]),(11,25,[12]),(12,25,[]),(13,25,[23,20,19,18,16,15,14]),(14,25,[23,20,19,18,16,15]),(15,25,[23,20,19,18,16]),(16,25,[23,20,19,18]),(17,25,[23,20,19,18]),(18,25,[23,20,19]),(19,25,[23,20]),(20,25,[23]),(21,25,[23,22]),(22,25,[23]),(23,25,[]),(24,25,[]),(3,28,[]),(8,28,[]),(12,28,[]),(16,28,[]),(20,28,[]),(23,28,[]),(24,28,[]),(25,28,[])] (.q 0 (.q 1 (.q 2 (.q 4 (.q 5 (.q 6 (.q 7 (.q 8 (.q 9 (.q 10 (.q 11 (.q 12 (.q 13 (.q 14 (.q 15 (.q 16 (.q 17 (.q 18 (.q 19 (.q 20 (.q 21 (.q 22 (.alt 3 (.l 23 (.l 24 (.l 25 (.q 26 (.q 27 (.l 28 .nil)))))) (.alt 23 (.alt 3 (.l 24 (.l 25 (.q 26 (.q 27 (.l 28 .nil))))) (.alt 24 (.alt 3 (.l 25 (.q 26 (.q 27 (.l 28 .nil)))) (.alt 25 (.q 3 (.q 26 (.q 27 (.l 28 .nil)))) .nil)) .nil)) .nil)))))))))))))))))))))))) kR ?_))|refine OkB.cond ?_);conv=>whnf)|refine OkB.block ?_|((first|refine OkB.skip ?_|refine nI ?_);conv=>whnf)|(refine Or.inr (Or.inl ?_);(conv=>whnf);(repeat (refine aI ?_;conv=>whnf));refine⟨_,hmk j oA,?_⟩;rintro _ _ ⟨rfl,rfl⟩;conv=>whnf)|((first|refine rd rfl aS ?_|refine⟨_,.inl ⟨rfl,rfl⟩,?_⟩);conv=>whnf)|(refine bI ?_ ?_<;>intro<;>first|omega|conv=>whnf)|(refine aJ ?_;conv=>whnf)|(exact True.intro)|(refine And.intro ?_ ?_<;>(conv=>whnf))|fail)
     all_goals first
      | omega
      | (refine⟨(j+1,.rsl a n cc,.rsl a (n+(j+1)) cc,.tie 3 a (n+(j+1)) cc,.u,[some (57,aY (fR i) n (j+1)),some (57,[]),some (57,[])]),by dsimp only;omega,⟨by dsimp only;omega,.one (j+1)⟩,.refl _,.refl _,?_⟩
         ((conv=>whnf);first|rfl|(simp[ak];done)|(simp[ak];rfl)|(simp[ak,Config.row];done))
         done)
      | (refine⟨(j+1,.lst 57 (wrt (fR i) n) ((aY (fR i) n j).drop n),.rsl g' (n+(j+1)) c',.u,.tie 5 g' (n+(j+1)) c',[none,some (57,[]),some (57,aY (fR i) n (j+1))]),by dsimp only;omega,⟨by dsimp only;omega,.two _ _ oA (.inl ⟨_,rfl⟩) g' c' _ _⟩,.refl _,.refl _,?_⟩
         ((conv=>whnf);first|rfl|(simp[ak];done)|(simp[ak];rfl)|(simp[ak,Config.row];done))
         done)
   . obtain rfl:j=96:=oA
     (try (conv=>whnf));repeat' (first|refine OkB.seq ?_|((first|refine OkB.aA (OkM.region tok ?_)|refine OkB.cond ?_|refine OkB.exit ?_);conv=>whnf)|(refine bI ?_ ?_<;>intro<;>first|omega|conv=>whnf)|fail)
     refine⟨GoH.sG 700 0 i (cs:=aZ ⟨.rsl a n cc,.rsl a (n+96) cc,[],was,i⟩) (aZ ⟨.lst 57 (wrt (fR i) n) ((aY (fR i) n 96).drop n),.lst 57 (aY (fR i) n 96) [],[],was,i⟩) rfl rfl rfl dC (qY aZ oA) LY ?_⟩;(conv=>whnf);refine⟨(aY (fR i) n 96).drop n,rfl,.refl _,.refl _,?_⟩
     ((conv=>whnf);first|rfl|(simp[ak];done)|(simp[ak];rfl)|(simp[ak,Config.row];done))
  | two j lc hj0 hl a' c' z z2=>
   (conv=>whnf);by_cases hjl:j<96
   . have hEI:(ys.set i ((⟨lc,(.rsl a' (n+j) c'),[],was,i⟩:ER)))[((i:Nat):Int).toNat]? = some ⟨lc,(.rsl a' (n+j) c'),[],was,i⟩:=List.getElem?_set_self oA
     repeat' (first|((first|refine⟨701,701,5,rfl,?_⟩|refine⟨aY (fR i) n (j+1),n+(j+1),qK (fR i) n j,(kX _ _ _).symm,?_⟩);conv=>whnf)|(refine⟨fun _=>?_,fun _=>⟨5,by (conv=>whnf);exact True.intro,fun g' c'' hc'=>?_⟩⟩<;>(conv=>whnf))|((first|refine st (f:=aZ) ⟨lc,(.rsl a' (n+(j+1)) c'),[],was,i⟩ hEI sI rfl ?_|refine st (f:=aZ) ⟨lc,(.rsl g' (n+(j+1)) c''),[],was,i⟩ hEI sI rfl ?_);conv=>whnf)|refine OkB.seq ?_|((first|refine OkB.aA (OkM.region tok ?_)|refine OkB.aA (OkM.aB (Ok.dP (id:=7) tok follows [(16,23,[20,19,18]),(20,23,[]),(16,24,[23,20,19,18]),(20,24,[23]),(23,24,[]),(5,25,[12,11,10,8,7,6]),(6,25,[12,11,10,8,7]),(7,25,[12,11,10,8]),(8,25,[12,11,10]),(9,25,[12,11,10]),(10,25,[12,11]),(11,25,[12]),(12,25,[]),(13,25,[23,20,19,18,16,15,14]),(14,25,[23,20,19,18,16,15]),(15,25,[23,20,19,18,16]),(16,25,[23,20,19,18]),(17,25,[23,20,19,18]),(18,25,[23,20,19]),(19,25,[23,20]),(20,25,[23]),(21,25,[23,22]),(22,25,[23]),(23,25,[]),(24,25,[]),(3,28,[]),(8,28,[]),(12,28,[]),(16,28,[]),(20,28,[]),(23,28,[]),(24,28,[]),(25,28,[])] (.q 0 (.q 1 (.q 2 (.q 4 (.q 5 (.q 6 (.q 7 (.q 8 (.q 9 (.q 10 (.q 11 (.q 12 (.q 13 (.q 14 (.q 15 (.q 16 (.q 17 (.q 18 (.q 19 (.q 20 (.q 21 (.q 22 (.alt 3 (.l 23 (.l 24 (.l 25 (.q 26 (.q 27 (.l 28 .nil)))))) (.alt 23 (.alt 3 (.l 24 (.l 25 (.q 26 (.q 27 (.l 28 .nil))))) (.alt 24 (.alt 3 (.l 25 (.q 26 (.q 27 (.l 28 .nil)))) (.alt 25 (.q 3 (.q 26 (.q 27 (.l 28 .nil)))) .nil)) .nil)) .nil)))))))))))))))))))))))) kR ?_))|refine OkB.cond ?_);conv=>whnf)|refine OkB.block ?_|((first|refine OkB.skip ?_|refine nI ?_);conv=>whnf)|(refine Or.inr (Or.inl ?_);(conv=>whnf);(repeat (refine aI ?_;conv=>whnf));refine⟨_,hmk j oA,?_⟩;rintro _ _ ⟨rfl,rfl⟩;conv=>whnf)|((first|refine rd rfl aS ?_|refine⟨_,.inl ⟨rfl,rfl⟩,?_⟩);conv=>whnf)|(refine bI ?_ ?_<;>intro<;>first|omega|conv=>whnf)|(refine aJ ?_;conv=>whnf)|(exact True.intro)|(refine And.intro ?_ ?_<;>(conv=>whnf))|fail)
     all_goals first
      | omega
      | (refine⟨(j+1,lc,.rsl a' (n+(j+1)) c',.u,.tie 5 a' (n+(j+1)) c',[z,z2,some (57,aY (fR i) n (j+1))]),by dsimp only;omega,⟨by dsimp only;omega,.two _ _ oA hl a' c' _ _⟩,.refl _,.refl _,?_⟩
         ((conv=>whnf);first|rfl|(simp[ak];done)|(simp[ak];rfl)|(simp[ak,Config.row];done))
         done)
      | (refine⟨(j+1,lc,.rsl g' (n+(j+1)) c'',.u,.tie 5 g' (n+(j+1)) c'',[z,z2,some (57,aY (fR i) n (j+1))]),by dsimp only;omega,⟨by dsimp only;omega,.two _ _ oA hl g' c'' _ _⟩,.refl _,.refl _,?_⟩
         ((conv=>whnf);first|rfl|(simp[ak];done)|(simp[ak];rfl)|(simp[ak,Config.row];done))
         done)
   . obtain rfl:j=96:=oA
     obtain⟨room,hr⟩:=hl.pub (a:=a') (c:=c') (j:=96) (tl:=[.lst 57 (was.map aj.row) rmK,.i .i64 (i:Nat)]);(try (conv=>whnf));repeat' (first|refine OkB.seq ?_|((first|refine OkB.aA (OkM.region tok ?_)|refine OkB.cond ?_|refine OkB.exit ?_);conv=>whnf)|(refine bI ?_ ?_<;>intro<;>first|omega|conv=>whnf)|fail)
     refine⟨GoH.sG 701 0 i (cs:=aZ ⟨lc,(.rsl a' (n+96) c'),[],was,i⟩) (aZ ⟨.lst 57 (wrt (fR i) n) room,.lst 57 (aY (fR i) n 96) [],[],was,i⟩) rfl rfl rfl dC (qY aZ oA) hr ?_⟩;(conv=>whnf);refine⟨room,rfl,.refl _,.refl _,?_⟩
     ((conv=>whnf);first|rfl|(simp[ak];done)|(simp[ak];rfl)|(simp[ak,Config.row];done))
theorem abN{Q:Exit->St->aH->aQ->Prop}(w:Int)(l:List aj)(r2:List (List D))(c:Config)(er:List ER)(en:List EN)(et:List ET)(hel:er.length<=7000)(hF:∀ i e,er[i]? = some e->xR i e)
    (hQ:∀ er',er'.length=er.length->er'.map ER.was=er.map ER.was->(∀ i e,er'[i]? = some e->GrR i e)->Q .normal (kpG w l r2 c er' en et) [] (bkR er'++(bkN en++bkT et))) :
    OkB Tryz.prog T [] (dI [0] (Tryz.f27.body.getD .ret)) Q (kpG w l r2 c er en et) [] (bkR er++(bkN en++bkT et)):=by
 have hem:(er.map aZ).length=er.length:=sI;refine OkB.fC [0,178,179,184,187,188] 3 2 (fun x:List ER=>kpG w l r2 c x en et) (fun _=>[]) (fun x=>bkR x++(bkN en++bkT et)) (fun e x=>e = .normal/\x.length=er.length/\x.map ER.was=er.map ER.was/\∀ i e,x[i]? = some e->GrR i e) ?_ ?_;rotate_left
 . rintro e er' ⟨rfl,k1,k2,k3⟩
   exact hQ er' k1 k2 k3
 unfold kpG;(try (conv=>whnf));repeat' (first|refine OkB.seq ?_|(refine OkB.aA (OkM.region tok ?_);conv=>whnf)|refine OkB.block ?_|fail)
 refine OkB.aT [0,178,179,184,187,188] [2] 3 2 (fun (x:Nat × List ER)=>[.i .i64 (x.1:Nat)]) (fun (x:Nat × List ER) (_:List (List D))=>[c.row,[.own 0 er.length,.own 1 en.length,.own 2 et.length]]) (fun (x:Nat × List ER) (_:Vx.Rows)=>[some (72,x.2.map aZ),some (76,en.map bg),some (136,et.map bF)]) (fun (x:Nat × List ER)=>[]) (fun (x:Nat × List ER)=>bkR x.2++(bkN en++bkT et)) (fun (x:Nat × List ER)=>x.1<=er.length/\x.2.length=er.length/\x.2.map ER.was=er.map ER.was/\Tw GrR xR x.1 x.2) (fun (x:Nat × List ER)=>er.length - x.1) ((0,er)) (⟨Nat.zero_le _,rfl,rfl,.start hF⟩) sS sS ?_;(conv=>whnf);refine⟨by ((conv=>whnf);first|rfl|(simp[ak,au,aj.row,ay];done)|(simp[ak,au,aj.row,ay];rw[IntKind.wrap_i64];omega)),?_⟩;rintro⟨i,ys⟩ ⟨hi,hyl,hw,hT⟩;dsimp only at hi hyl hw hT ⊢;have hym:(ys.map aZ).length=ys.length:=sI;(conv=>whnf);by_cases hil:i<er.length
 . obtain⟨e,he⟩:∃ e,ys[i]? = some e:=⟨_,aC oA⟩
   have heI:ys[((i:Nat):Int).toNat]? = some e:=he;have hfe:=(hT i e he).2 (Nat.le_refl _);have hin:=fun Q M was n a cc hn l0 g0 t0 t1 rr hI hQ=>@Yh Q M w l r2 c er en et ys i hel hil hyl was n a cc hn l0 g0 t0 t1 rr hI hQ
   cases hfe with
   | nil was=>
    refine OkB.go (GoH.pad 57 ?_);(conv=>whnf)
    repeat' (first|(refine st (f:=aZ) ⟨.rnl,.rnl,[],was,i⟩ heI sI rfl ?_;conv=>whnf)|(refine OkB.keep (c:=dI [0,1,2,2,1,0,2,1] (Tryz.f27.body.getD .ret)) [0,2,700,701,178,179,184,187,188] 6 2 ?_;(conv=>whnf);refine jm ?_)|refine OkB.seq ?_|((first|refine OkB.aA (OkM.region tok ?_)|refine OkB.aA (OkM.aB (Ok.aW (id:=3) tok follows [(3,15,[]),(8,15,[]),(12,15,[])] [.q 0,.q 1,.q 2,.q 3,.q 4,.q 5,.q 6,.q 7,.q 8,.q 9,.q 10,.q 11,.q 12,.q 13,.q 14,.l 15] kR ?_))|refine OkB.cond ?_);conv=>whnf)|refine OkB.block ?_|((first|refine OkB.skip ?_|refine rd rfl aS ?_);conv=>whnf)|(refine bI ?_ ?_<;>intro<;>first|omega|conv=>whnf)|(refine aJ ?_;conv=>whnf)|fail)
    refine⟨hin _ _ was 0 0 0 oA _ _ _ _ _ (.nil rfl) fun room=>?_⟩;(conv=>whnf)
    repeat' (first|(refine OkB.perm (c:=.region 2 _ _) ((qX ER.ks he (.refl _)).trans (rG ER.ks ⟨.lst 57 (wrt (fR i) 0) room,.lst 57 (aY (fR i) 0 96) [],[],was,i⟩ he (.refl _))) ?_)|((first|refine OkB.aA (OkM.region tok ?_)|refine nI ?_);conv=>whnf)|fail)
    all_goals first
     | (refine⟨(i+1,ys.set i ⟨.lst 57 (wrt (fR i) 0) room,.lst 57 (aY (fR i) 0 96) [],[],was,i⟩),by dsimp only;omega,⟨by dsimp only;omega,by simp[hyl],by dsimp only;exact (l9 he (by rfl)).trans hw,hT.next oA (.mk 0 room was oA)⟩,.refl _,.refl _,?_⟩
        ((conv=>whnf);first|rfl|(simp[ak];done)|(simp[ak];rfl)|(simp[ak,Config.row];done))
        done)
   | raw g n cc o was hn hb=>
    refine OkB.perm (qX ER.ks he (.refl _)) ?_;refine OkB.go (GoH.open 700 hb ?_);(conv=>whnf);refine OkB.go (GoH.pad 57 ?_);(conv=>whnf);refine OkB.go (GoH.pad 57 ?_);(conv=>whnf)
    repeat' (first|(refine st (f:=aZ) ⟨.rsl g n cc,.rsl g n cc,[],was,i⟩ heI sI rfl ?_;conv=>whnf)|(refine OkB.keep (c:=dI [0,1,2,2,1,0,2,1] (Tryz.f27.body.getD .ret)) [0,2,700,701,178,179,184,187,188] 6 2 ?_;(conv=>whnf);refine jm ?_)|refine OkB.seq ?_|((first|refine OkB.aA (OkM.region tok ?_)|refine OkB.aA (OkM.aB (Ok.aW (id:=3) tok follows [(3,15,[]),(8,15,[]),(12,15,[])] [.q 0,.q 1,.q 2,.q 3,.q 4,.q 5,.q 6,.q 7,.q 8,.q 9,.q 10,.q 11,.q 12,.q 13,.q 14,.l 15] kR ?_))|refine OkB.cond ?_);conv=>whnf)|refine OkB.block ?_|((first|refine OkB.skip ?_|refine rd rfl aS ?_);conv=>whnf)|(refine bI ?_ ?_<;>intro<;>first|omega|conv=>whnf)|(refine aJ ?_;conv=>whnf)|fail)
    have hI:=GI.one (e:=57) (f:=(fR i)) (n:=n) (a:=g) (c:=cc) (zs:=[some (57,[])]) 0;rw[Ic] at hI;refine⟨hin _ _ was n g cc oA _ _ _ _ _ hI fun room=>?_⟩;(conv=>whnf)
    repeat' (first|(refine OkB.perm (c:=.region 2 _ _) (rG ER.ks ⟨.lst 57 (wrt (fR i) n) room,.lst 57 (aY (fR i) n 96) [],[],was,i⟩ he (.refl _)) ?_)|((first|refine OkB.aA (OkM.region tok ?_)|refine nI ?_);conv=>whnf)|fail)
    all_goals first
     | (refine⟨(i+1,ys.set i ⟨.lst 57 (wrt (fR i) n) room,.lst 57 (aY (fR i) n 96) [],[],was,i⟩),by dsimp only;omega,⟨by dsimp only;omega,by simp[hyl],by dsimp only;exact (l9 he (by rfl)).trans hw,hT.next oA (.mk _ room was oA)⟩,.refl _,.refl _,?_⟩
        ((conv=>whnf);first|rfl|(simp[ak];done)|(simp[ak];rfl)|(simp[ak,Config.row];done))
        done)
 . obtain rfl:i=er.length:=oA
   (try (conv=>whnf));repeat' (first|refine OkB.seq ?_|((first|refine OkB.aA (OkM.region tok ?_)|refine OkB.cond ?_|refine OkB.exit ?_);conv=>whnf)|(refine bI ?_ ?_<;>intro<;>first|omega|conv=>whnf)|fail)
   all_goals first
    | omega
    | (refine⟨ys,⟨rfl,hyl,hw,hT.done oA⟩,.refl _,.refl _,?_⟩
       try dsimp only
       rw[hyl];(conv=>whnf)
       try rfl)
end Go.Proofs.YtnlingegeangmaaGreatDoor
