/- The walks and the plain laws that a law of networks needs, part 9. -/
import Derived.Test.YtnlingegeangmaaGreatDoorQIF
set_option linter.unusedVariables false
set_option linter.unusedSimpArgs false
set_option maxRecDepth 100000
set_option maxHeartbeats 16000000
namespace Go.Proofs.YtnlingegeangmaaGreatDoor
open Go Go.Vx
theorem Yi{Q:Exit->St->aH->aQ->Prop}{M:aQ}(w:Int)(l:List aj)(r2:List (List D))(c:Config)(er:List ER)(en:List EN)(et:List ET)(ys:List EN)(i:Nat)(hel:en.length<=7000)(hil:i<en.length)(hyl:ys.length=en.length)(was:List Int)(no:Nat)(hno:no<=1000000000)(n a cc:Nat)(hn:n<=3000000)(l0 g0 t0 t1:D)(rr:Vx.Rows)(hI:GI 3 (fN no) n a cc [some (3,[])] 0 l0 g0 t0 t1 rr)
    (hQ:∀ room,Q .normal ⟨[(0,.bp 1 0),(4,.i .i64 (i:Nat)),(178,.i .i64 w),(179,.lst 57 (l.map aj.row) r2),(184,.bp 0 0),(187,.lst 57 (l.map aj.row) rmK),(188,.bp 1 0)],[c.row,[.own 0 er.length,.own 1 en.length,.own 2 et.length]],[some (72,er.map aZ),some (76,(ys.set i ⟨.lst 3 (wrt (fN no) n) room,.lst 3 (aY (fN no) n 96) [],[],was,no⟩).map bg),some (136,et.map bF)],Tryz.f27.ntmps⟩ [] M) :
    OkB Tryz.prog T [] (dI [1,0,1,2,2,1,0,2,1] (Tryz.f27.body.getD .ret)) Q ⟨[(0,.bp 1 0),(4,.i .i64 (i:Nat)),(700,t0),(701,t1),(178,.i .i64 w),(179,.lst 57 (l.map aj.row) r2),(184,.bp 0 0),(187,.lst 57 (l.map aj.row) rmK),(188,.bp 1 0)],[c.row,[.own 0 er.length,.own 1 en.length,.own 2 et.length]],some (72,er.map aZ) :: some (76,(ys.set i ⟨l0,g0,[],was,no⟩).map bg) :: some (136,et.map bF) :: rr,Tryz.f27.ntmps⟩ [] M:=by
 have hym:(ys.map bg).length=en.length:=by simp[hyl]
 refine OkB.fC [0,4,178,179,184,187,188] 3 2 (fun room=>⟨[(0,.bp 1 0),(4,.i .i64 (i:Nat)),(178,.i .i64 w),(179,.lst 57 (l.map aj.row) r2),(184,.bp 0 0),(187,.lst 57 (l.map aj.row) rmK),(188,.bp 1 0)],[c.row,[.own 0 er.length,.own 1 en.length,.own 2 et.length]],[some (72,er.map aZ),some (76,(ys.set i ⟨.lst 3 (wrt (fN no) n) room,.lst 3 (aY (fN no) n 96) [],[],was,no⟩).map bg),some (136,et.map bF)],Tryz.f27.ntmps⟩) (fun _=>[]) (fun _=>M) (fun e _=>e = .normal) (OkB.fin ?_) ?_;rotate_left
 . rintro e room rfl
   exact hQ room
 have hI':=hI;cases hI
 case two hj _=>exact absurd hj oA
 all_goals
  (try (conv=>whnf));repeat' (first|refine OkB.seq ?_|(refine OkB.aA (OkM.region tok ?_);conv=>whnf)|refine OkB.block ?_|fail)
  refine OkB.aT [0,4,178,179,184,187,188] [5,700,701] 6 2 (fun (x:Nat × D × D × D × D × Vx.Rows)=>[.i .i64 (x.1:Nat),x.2.2.2.1,x.2.2.2.2.1]) (fun (x:Nat × D × D × D × D × Vx.Rows) (_:List (List D))=>[c.row,[.own 0 er.length,.own 1 en.length,.own 2 et.length]]) (fun (x:Nat × D × D × D × D × Vx.Rows) (_:Vx.Rows)=>some (72,er.map aZ) :: some (76,(ys.set i ⟨x.2.1,x.2.2.1,[],was,no⟩).map bg) :: some (136,et.map bF) :: x.2.2.2.2.2) (fun (x:Nat × D × D × D × D × Vx.Rows)=>[]) (fun (x:Nat × D × D × D × D × Vx.Rows)=>M) (fun (x:Nat × D × D × D × D × Vx.Rows)=>x.1<=96/\GI 3 (fN no) n a cc [some (3,[])] x.1 x.2.1 x.2.2.1 x.2.2.2.1 x.2.2.2.2.1 x.2.2.2.2.2) (fun (x:Nat × D × D × D × D × Vx.Rows)=>96 - x.1) ((0,_,_,_,_,_)) (⟨Nat.zero_le _,hI'⟩) sS sS ?_;(conv=>whnf);refine⟨by ((conv=>whnf);first|rfl|(simp[ak,au,aj.row,ay];done)|(simp[ak,au,aj.row,ay];rw[IntKind.wrap_i64];omega)),?_⟩;clear hI';rintro⟨j,lc,gc,ta,tb,rr'⟩ ⟨hj,hJ⟩;dsimp only at hj hJ ⊢;have hfj:=kX (fN no) n j
  cases hJ with
  | nil hn0=>
   subst hn0;have hEI:(ys.set i ((⟨.rnl,.rnl,[],was,no⟩:EN)))[((i:Nat):Int).toNat]? = some ⟨.rnl,.rnl,[],was,no⟩:=List.getElem?_set_self oA;(conv=>whnf)
   repeat' (first|(refine⟨(no:Int)+((5000+0:Nat):Int),(by (try dsimp only);rw[IntKind.wrap_i64];omega),?_⟩;conv=>whnf)|(refine⟨701,?_⟩;(conv=>whnf);refine⟨sI,_,.inl ⟨rfl,rfl⟩,?_⟩;(conv=>whnf);refine⟨sI,sI,aY (fN no) 0 (0+1),0+(0+1),qK (fN no) 0 0,(kX _ _ _).symm,fun g' c' hc'=>?_⟩;(conv=>whnf))|(refine st (f:=bg) ⟨.rnl,(.rsl g' (0+(0+1)) c'),[],was,no⟩ hEI sI rfl ?_;conv=>whnf)|refine OkB.seq ?_|((first|refine OkB.aA (OkM.region tok ?_)|refine OkB.aA (OkM.aB (Ok.dP (id:=15) tok follows [(16,24,[23,21,20,19,18]),(20,24,[23,21]),(5,25,[12,11,10,8,7,6]),(6,25,[12,11,10,8,7]),(7,25,[12,11,10,8]),(8,25,[12,11,10]),(9,25,[12,11,10]),(10,25,[12,11]),(11,25,[12]),(12,25,[]),(13,25,[24,23,21,20,19,18,16,15,14]),(14,25,[24,23,21,20,19,18,16,15]),(15,25,[24,23,21,20,19,18,16]),(16,25,[24,23,21,20,19,18]),(17,25,[24,23,21,20,19,18]),(18,25,[24,23,21,20,19]),(19,25,[24,23,21,20]),(20,25,[24,23,21]),(21,25,[24,23]),(22,25,[24,23]),(23,25,[24]),(24,25,[]),(3,28,[]),(8,28,[]),(12,28,[]),(16,28,[]),(20,28,[]),(24,28,[]),(25,28,[])] (.q 0 (.q 1 (.q 2 (.q 4 (.q 5 (.q 6 (.q 7 (.q 8 (.q 9 (.q 10 (.q 11 (.q 12 (.q 13 (.q 14 (.q 15 (.q 16 (.q 17 (.q 18 (.q 19 (.q 20 (.q 21 (.q 22 (.q 23 (.alt 3 (.l 24 (.l 25 (.q 26 (.q 27 (.l 28 .nil))))) (.alt 24 (.alt 3 (.l 25 (.q 26 (.q 27 (.l 28 .nil)))) (.alt 25 (.q 3 (.q 26 (.q 27 (.l 28 .nil)))) .nil)) .nil))))))))))))))))))))))))) kR ?_))|refine OkB.cond ?_);conv=>whnf)|refine OkB.block ?_|((first|refine OkB.skip ?_|refine nI ?_|refine rd rfl aS ?_);conv=>whnf)|(refine bI ?_ ?_<;>intro<;>first|omega|conv=>whnf)|(refine aJ ?_;conv=>whnf)|(exact True.intro)|(refine And.intro ?_ ?_<;>(conv=>whnf))|fail)
   all_goals first
    | omega
    | (refine⟨(0+1,.rnl,.rsl g' (0+(0+1)) c',.u,.tie 5 g' (0+(0+1)) c',[some (3,[]),some (3,[(fN no) (5000+0)]),some (3,aY (fN no) 0 (0+1))]),by dsimp only;omega,⟨by dsimp only;omega,.two _ _ oA (.inr ⟨rfl,rfl⟩) g' c' _ _⟩,.refl _,.refl _,?_⟩
       ((conv=>whnf);first|rfl|(simp[ak];done)|(simp[ak];rfl)|(simp[ak,Config.row];done))
       done)
  | one j=>
   (conv=>whnf);by_cases hjl:j<96
   . have hEI:(ys.set i ((⟨.rsl a n cc,.rsl a (n+j) cc,[],was,no⟩:EN)))[((i:Nat):Int).toNat]? = some ⟨.rsl a n cc,.rsl a (n+j) cc,[],was,no⟩:=List.getElem?_set_self oA
     repeat' (first|(refine⟨(no:Int)+((5000+j:Nat):Int),(by (try dsimp only);rw[IntKind.wrap_i64];omega),?_⟩;conv=>whnf)|(refine⟨(no:Int)+5000,(by (try dsimp only);rw[IntKind.wrap_i64];omega),?_⟩;conv=>whnf)|((first|refine⟨700,701,3,rfl,?_⟩|refine⟨aY (fN no) n (j+1),n+(j+1),qK (fN no) n j,(kX _ _ _).symm,?_⟩);conv=>whnf)|(refine⟨fun _=>?_,fun _=>⟨5,by (conv=>whnf);exact True.intro,fun g' c' hc'=>?_⟩⟩<;>(conv=>whnf))|((first|refine st (f:=bg) ⟨.rsl a n cc,(.rsl a (n+(j+1)) cc),[],was,no⟩ hEI sI rfl ?_|refine st (f:=bg) ⟨.rsl a n cc,(.rsl g' (n+(j+1)) c'),[],was,no⟩ hEI sI rfl ?_);conv=>whnf)|(refine OkB.go (c:=.region 14 _ _) (GoH.sG 700 1 i (cs:=bg ⟨.rsl a n cc,(.rsl g' (n+(j+1)) c'),[],was,no⟩) (bg ⟨.lst 3 (wrt (fN no) n) ((aY (fN no) n j).drop n),(.rsl g' (n+(j+1)) c'),[],was,no⟩) rfl rfl rfl dC (qY bg (by rw[List.length_set];omega)) LW ?_);conv=>whnf)|refine OkB.seq ?_|((first|refine OkB.aA (OkM.region tok ?_)|refine OkB.aA (OkM.aB (Ok.dP (id:=15) tok follows [(16,24,[23,21,20,19,18]),(20,24,[23,21]),(5,25,[12,11,10,8,7,6]),(6,25,[12,11,10,8,7]),(7,25,[12,11,10,8]),(8,25,[12,11,10]),(9,25,[12,11,10]),(10,25,[12,11]),(11,25,[12]),(12,25,[]),(13,25,[24,23,21,20,19,18,16,15,14]),(14,25,[24,23,21,20,19,18,16,15]),(15,25,[24,23,21,20,19,18,16]),(16,25,[24,23,21,20,19,18]),(17,25,[24,23,21,20,19,18]),(18,25,[24,23,21,20,19]),(19,25,[24,23,21,20]),(20,25,[24,23,21]),(21,25,[24,23]),(22,25,[24,23]),(23,25,[24]),(24,25,[]),(3,28,[]),(8,28,[]),(12,28,[]),(16,28,[]),(20,28,[]),(24,28,[]),(25,28,[])] (.q 0 (.q 1 (.q 2 (.q 4 (.q 5 (.q 6 (.q 7 (.q 8 (.q 9 (.q 10 (.q 11 (.q 12 (.q 13 (.q 14 (.q 15 (.q 16 (.q 17 (.q 18 (.q 19 (.q 20 (.q 21 (.q 22 (.q 23 (.alt 3 (.l 24 (.l 25 (.q 26 (.q 27 (.l 28 .nil))))) (.alt 24 (.alt 3 (.l 25 (.q 26 (.q 27 (.l 28 .nil)))) (.alt 25 (.q 3 (.q 26 (.q 27 (.l 28 .nil)))) .nil)) .nil))))))))))))))))))))))))) kR ?_))|refine OkB.cond ?_);conv=>whnf)|refine OkB.block ?_|((first|refine OkB.skip ?_|refine nI ?_|refine rd rfl aS ?_|refine⟨_,.inl ⟨rfl,rfl⟩,?_⟩);conv=>whnf)|(refine bI ?_ ?_<;>intro<;>first|omega|conv=>whnf)|(refine aJ ?_;conv=>whnf)|(exact True.intro)|(refine And.intro ?_ ?_<;>(conv=>whnf))|fail)
     all_goals first
      | omega
      | (refine⟨(j+1,.rsl a n cc,.rsl a (n+(j+1)) cc,.tie 3 a (n+(j+1)) cc,.u,[some (3,aY (fN no) n (j+1)),some (3,[]),some (3,[])]),by dsimp only;omega,⟨by dsimp only;omega,.one (j+1)⟩,.refl _,.refl _,?_⟩
         ((conv=>whnf);first|rfl|(simp[ak];done)|(simp[ak];rfl)|(simp[ak,Config.row];done))
         done)
      | (refine⟨(j+1,.lst 3 (wrt (fN no) n) ((aY (fN no) n j).drop n),.rsl g' (n+(j+1)) c',.u,.tie 5 g' (n+(j+1)) c',[none,some (3,[]),some (3,aY (fN no) n (j+1))]),by dsimp only;omega,⟨by dsimp only;omega,.two _ _ oA (.inl ⟨_,rfl⟩) g' c' _ _⟩,.refl _,.refl _,?_⟩
         ((conv=>whnf);first|rfl|(simp[ak];done)|(simp[ak];rfl)|(simp[ak,Config.row];done))
         done)
   . obtain rfl:j=96:=oA
     (try (conv=>whnf));repeat' (first|refine OkB.seq ?_|((first|refine OkB.aA (OkM.region tok ?_)|refine OkB.cond ?_|refine OkB.exit ?_);conv=>whnf)|(refine bI ?_ ?_<;>intro<;>first|omega|conv=>whnf)|fail)
     refine⟨GoH.sG 700 1 i (cs:=bg ⟨.rsl a n cc,.rsl a (n+96) cc,[],was,no⟩) (bg ⟨.lst 3 (wrt (fN no) n) ((aY (fN no) n 96).drop n),.lst 3 (aY (fN no) n 96) [],[],was,no⟩) rfl rfl rfl dC (qY bg oA) LY ?_⟩;(conv=>whnf);refine⟨(aY (fN no) n 96).drop n,rfl,.refl _,.refl _,?_⟩
     ((conv=>whnf);first|rfl|(simp[ak];done)|(simp[ak];rfl)|(simp[ak,Config.row];done))
  | two j lc hj0 hl a' c' z z2=>
   (conv=>whnf);by_cases hjl:j<96
   . have hEI:(ys.set i ((⟨lc,(.rsl a' (n+j) c'),[],was,no⟩:EN)))[((i:Nat):Int).toNat]? = some ⟨lc,(.rsl a' (n+j) c'),[],was,no⟩:=List.getElem?_set_self oA
     repeat' (first|(refine⟨(no:Int)+((5000+j:Nat):Int),(by (try dsimp only);rw[IntKind.wrap_i64];omega),?_⟩;conv=>whnf)|(refine⟨(no:Int)+5000,(by (try dsimp only);rw[IntKind.wrap_i64];omega),?_⟩;conv=>whnf)|((first|refine⟨701,701,5,rfl,?_⟩|refine⟨aY (fN no) n (j+1),n+(j+1),qK (fN no) n j,(kX _ _ _).symm,?_⟩);conv=>whnf)|(refine⟨fun _=>?_,fun _=>⟨5,by (conv=>whnf);exact True.intro,fun g' c'' hc'=>?_⟩⟩<;>(conv=>whnf))|((first|refine st (f:=bg) ⟨lc,(.rsl a' (n+(j+1)) c'),[],was,no⟩ hEI sI rfl ?_|refine st (f:=bg) ⟨lc,(.rsl g' (n+(j+1)) c''),[],was,no⟩ hEI sI rfl ?_);conv=>whnf)|refine OkB.seq ?_|((first|refine OkB.aA (OkM.region tok ?_)|refine OkB.aA (OkM.aB (Ok.dP (id:=15) tok follows [(16,24,[23,21,20,19,18]),(20,24,[23,21]),(5,25,[12,11,10,8,7,6]),(6,25,[12,11,10,8,7]),(7,25,[12,11,10,8]),(8,25,[12,11,10]),(9,25,[12,11,10]),(10,25,[12,11]),(11,25,[12]),(12,25,[]),(13,25,[24,23,21,20,19,18,16,15,14]),(14,25,[24,23,21,20,19,18,16,15]),(15,25,[24,23,21,20,19,18,16]),(16,25,[24,23,21,20,19,18]),(17,25,[24,23,21,20,19,18]),(18,25,[24,23,21,20,19]),(19,25,[24,23,21,20]),(20,25,[24,23,21]),(21,25,[24,23]),(22,25,[24,23]),(23,25,[24]),(24,25,[]),(3,28,[]),(8,28,[]),(12,28,[]),(16,28,[]),(20,28,[]),(24,28,[]),(25,28,[])] (.q 0 (.q 1 (.q 2 (.q 4 (.q 5 (.q 6 (.q 7 (.q 8 (.q 9 (.q 10 (.q 11 (.q 12 (.q 13 (.q 14 (.q 15 (.q 16 (.q 17 (.q 18 (.q 19 (.q 20 (.q 21 (.q 22 (.q 23 (.alt 3 (.l 24 (.l 25 (.q 26 (.q 27 (.l 28 .nil))))) (.alt 24 (.alt 3 (.l 25 (.q 26 (.q 27 (.l 28 .nil)))) (.alt 25 (.q 3 (.q 26 (.q 27 (.l 28 .nil)))) .nil)) .nil))))))))))))))))))))))))) kR ?_))|refine OkB.cond ?_);conv=>whnf)|refine OkB.block ?_|((first|refine OkB.skip ?_|refine nI ?_|refine rd rfl aS ?_|refine⟨_,.inl ⟨rfl,rfl⟩,?_⟩);conv=>whnf)|(refine bI ?_ ?_<;>intro<;>first|omega|conv=>whnf)|(refine aJ ?_;conv=>whnf)|(exact True.intro)|(refine And.intro ?_ ?_<;>(conv=>whnf))|fail)
     all_goals first
      | omega
      | (refine⟨(j+1,lc,.rsl a' (n+(j+1)) c',.u,.tie 5 a' (n+(j+1)) c',[z,z2,some (3,aY (fN no) n (j+1))]),by dsimp only;omega,⟨by dsimp only;omega,.two _ _ oA hl a' c' _ _⟩,.refl _,.refl _,?_⟩
         ((conv=>whnf);first|rfl|(simp[ak];done)|(simp[ak];rfl)|(simp[ak,Config.row];done))
         done)
      | (refine⟨(j+1,lc,.rsl g' (n+(j+1)) c'',.u,.tie 5 g' (n+(j+1)) c'',[z,z2,some (3,aY (fN no) n (j+1))]),by dsimp only;omega,⟨by dsimp only;omega,.two _ _ oA hl g' c'' _ _⟩,.refl _,.refl _,?_⟩
         ((conv=>whnf);first|rfl|(simp[ak];done)|(simp[ak];rfl)|(simp[ak,Config.row];done))
         done)
   . obtain rfl:j=96:=oA
     obtain⟨room,hr⟩:=hl.pub (a:=a') (c:=c') (j:=96) (tl:=[.lst 3 (was.map ay) [],.i .i64 (no:Nat)]);(try (conv=>whnf));repeat' (first|refine OkB.seq ?_|((first|refine OkB.aA (OkM.region tok ?_)|refine OkB.cond ?_|refine OkB.exit ?_);conv=>whnf)|(refine bI ?_ ?_<;>intro<;>first|omega|conv=>whnf)|fail)
     refine⟨GoH.sG 701 1 i (cs:=bg ⟨lc,(.rsl a' (n+96) c'),[],was,no⟩) (bg ⟨.lst 3 (wrt (fN no) n) room,.lst 3 (aY (fN no) n 96) [],[],was,no⟩) rfl rfl rfl dC (qY bg oA) hr ?_⟩;(conv=>whnf);refine⟨room,rfl,.refl _,.refl _,?_⟩
     ((conv=>whnf);first|rfl|(simp[ak];done)|(simp[ak];rfl)|(simp[ak,Config.row];done))
theorem abO{Q:Exit->St->aH->aQ->Prop}(w:Int)(l:List aj)(r2:List (List D))(c:Config)(er:List ER)(en:List EN)(et:List ET)(hel:en.length<=7000)(hF:∀ i e,en[i]? = some e->xU i e)
    (hQ:∀ en',en'.length=en.length->en'.map EN.was=en.map EN.was->(∀ i e,en'[i]? = some e->GrN i e)->Q .normal (kpG w l r2 c er en' et) [] (bkR er++(bkN en'++bkT et))) :
    OkB Tryz.prog T [] (dI [1,0] (Tryz.f27.body.getD .ret)) Q (kpG w l r2 c er en et) [] (bkR er++(bkN en++bkT et)):=by
 have hem:(en.map bg).length=en.length:=sI;refine OkB.fC [0,178,179,184,187,188] 3 2 (fun x:List EN=>kpG w l r2 c er x et) (fun _=>[]) (fun x=>bkR er++(bkN x++bkT et)) (fun e x=>e = .normal/\x.length=en.length/\x.map EN.was=en.map EN.was/\∀ i e,x[i]? = some e->GrN i e) ?_ ?_;rotate_left
 . rintro e en' ⟨rfl,k1,k2,k3⟩
   exact hQ en' k1 k2 k3
 unfold kpG;(try (conv=>whnf));repeat' (first|refine OkB.seq ?_|(refine OkB.aA (OkM.region tok ?_);conv=>whnf)|refine OkB.block ?_|fail)
 refine OkB.aT [0,178,179,184,187,188] [4] 3 2 (fun (x:Nat × List EN)=>[.i .i64 (x.1:Nat)]) (fun (x:Nat × List EN) (_:List (List D))=>[c.row,[.own 0 er.length,.own 1 en.length,.own 2 et.length]]) (fun (x:Nat × List EN) (_:Vx.Rows)=>[some (72,er.map aZ),some (76,x.2.map bg),some (136,et.map bF)]) (fun (x:Nat × List EN)=>[]) (fun (x:Nat × List EN)=>bkR er++(bkN x.2++bkT et)) (fun (x:Nat × List EN)=>x.1<=en.length/\x.2.length=en.length/\x.2.map EN.was=en.map EN.was/\Tw GrN xU x.1 x.2) (fun (x:Nat × List EN)=>en.length - x.1) ((0,en)) (⟨Nat.zero_le _,rfl,rfl,.start hF⟩) sS sS ?_;(conv=>whnf);refine⟨by ((conv=>whnf);first|rfl|(simp[ak,au,aj.row,ay];done)|(simp[ak,au,aj.row,ay];rw[IntKind.wrap_i64];omega)),?_⟩;rintro⟨i,ys⟩ ⟨hi,hyl,hw,hT⟩;dsimp only at hi hyl hw hT ⊢;have hym:(ys.map bg).length=ys.length:=sI;(conv=>whnf);by_cases hil:i<en.length
 . obtain⟨e,he⟩:∃ e,ys[i]? = some e:=⟨_,aC oA⟩
   have heI:ys[((i:Nat):Int).toNat]? = some e:=he;have hfe:=(hT i e he).2 (Nat.le_refl _);have hin:=fun Q M was no hno n a cc hn l0 g0 t0 t1 rr hI hQ=>@Yi Q M w l r2 c er en et ys i hel hil hyl was no hno n a cc hn l0 g0 t0 t1 rr hI hQ
   cases hfe with
   | nil was no hno=>
    refine OkB.go (GoH.pad 3 ?_);(conv=>whnf)
    repeat' (first|(refine st (f:=bg) ⟨.rnl,.rnl,[],was,no⟩ heI sI rfl ?_;conv=>whnf)|(refine OkB.keep (c:=dI [1,0,1,2,2,1,0,2,1] (Tryz.f27.body.getD .ret)) [0,4,700,701,178,179,184,187,188] 6 2 ?_;(conv=>whnf);refine jm ?_)|refine OkB.seq ?_|((first|refine OkB.aA (OkM.region tok ?_)|refine OkB.aA (OkM.aB (Ok.aW (id:=11) tok follows [(3,15,[]),(8,15,[]),(12,15,[])] [.q 0,.q 1,.q 2,.q 3,.q 4,.q 5,.q 6,.q 7,.q 8,.q 9,.q 10,.q 11,.q 12,.q 13,.q 14,.l 15] kR ?_))|refine OkB.cond ?_);conv=>whnf)|refine OkB.block ?_|((first|refine OkB.skip ?_|refine rd rfl aS ?_);conv=>whnf)|(refine bI ?_ ?_<;>intro<;>first|omega|conv=>whnf)|(refine aJ ?_;conv=>whnf)|fail)
    refine⟨hin _ _ was no hno 0 0 0 oA _ _ _ _ _ (.nil rfl) fun room=>?_⟩;(conv=>whnf)
    repeat' (first|(refine OkB.perm (c:=.region 10 _ _) ((qX EN.ks he (pmN _ _ _)).trans (rG EN.ks ⟨.lst 3 (wrt (fN no) 0) room,.lst 3 (aY (fN no) 0 96) [],[],was,no⟩ he (pmN _ _ _))) ?_)|((first|refine OkB.aA (OkM.region tok ?_)|refine nI ?_);conv=>whnf)|fail)
    all_goals first
     | (refine⟨(i+1,ys.set i ⟨.lst 3 (wrt (fN no) 0) room,.lst 3 (aY (fN no) 0 96) [],[],was,no⟩),by dsimp only;omega,⟨by dsimp only;omega,by simp[hyl],by dsimp only;exact (l9 he (by rfl)).trans hw,hT.next oA (.mk 0 room was no hno oA)⟩,.refl _,.refl _,?_⟩
        ((conv=>whnf);first|rfl|(simp[ak];done)|(simp[ak];rfl)|(simp[ak,Config.row];done))
        done)
   | raw g n cc o was no hno hn hb=>
    refine OkB.perm (qX EN.ks he (pmN _ _ _)) ?_;refine OkB.go (GoH.open 700 hb ?_);(conv=>whnf);refine OkB.go (GoH.pad 3 ?_);(conv=>whnf);refine OkB.go (GoH.pad 3 ?_);(conv=>whnf)
    repeat' (first|(refine st (f:=bg) ⟨.rsl g n cc,.rsl g n cc,[],was,no⟩ heI sI rfl ?_;conv=>whnf)|(refine OkB.keep (c:=dI [1,0,1,2,2,1,0,2,1] (Tryz.f27.body.getD .ret)) [0,4,700,701,178,179,184,187,188] 6 2 ?_;(conv=>whnf);refine jm ?_)|refine OkB.seq ?_|((first|refine OkB.aA (OkM.region tok ?_)|refine OkB.aA (OkM.aB (Ok.aW (id:=11) tok follows [(3,15,[]),(8,15,[]),(12,15,[])] [.q 0,.q 1,.q 2,.q 3,.q 4,.q 5,.q 6,.q 7,.q 8,.q 9,.q 10,.q 11,.q 12,.q 13,.q 14,.l 15] kR ?_))|refine OkB.cond ?_);conv=>whnf)|refine OkB.block ?_|((first|refine OkB.skip ?_|refine rd rfl aS ?_);conv=>whnf)|(refine bI ?_ ?_<;>intro<;>first|omega|conv=>whnf)|(refine aJ ?_;conv=>whnf)|fail)
    have hI:=GI.one (e:=3) (f:=(fN no)) (n:=n) (a:=g) (c:=cc) (zs:=[some (3,[])]) 0;rw[Ic] at hI;refine⟨hin _ _ was no hno n g cc oA _ _ _ _ _ hI fun room=>?_⟩;(conv=>whnf)
    repeat' (first|(refine OkB.perm (c:=.region 10 _ _) (rG EN.ks ⟨.lst 3 (wrt (fN no) n) room,.lst 3 (aY (fN no) n 96) [],[],was,no⟩ he (pmN _ _ _)) ?_)|((first|refine OkB.aA (OkM.region tok ?_)|refine nI ?_);conv=>whnf)|fail)
    all_goals first
     | (refine⟨(i+1,ys.set i ⟨.lst 3 (wrt (fN no) n) room,.lst 3 (aY (fN no) n 96) [],[],was,no⟩),by dsimp only;omega,⟨by dsimp only;omega,by simp[hyl],by dsimp only;exact (l9 he (by rfl)).trans hw,hT.next oA (.mk _ room was no hno oA)⟩,.refl _,.refl _,?_⟩
        ((conv=>whnf);first|rfl|(simp[ak];done)|(simp[ak];rfl)|(simp[ak,Config.row];done))
        done)
 . obtain rfl:i=en.length:=oA
   (try (conv=>whnf));repeat' (first|refine OkB.seq ?_|((first|refine OkB.aA (OkM.region tok ?_)|refine OkB.cond ?_|refine OkB.exit ?_);conv=>whnf)|(refine bI ?_ ?_<;>intro<;>first|omega|conv=>whnf)|fail)
   all_goals first
    | omega
    | (refine⟨ys,⟨rfl,hyl,hw,hT.done oA⟩,.refl _,.refl _,?_⟩
       try dsimp only
       rw[hyl];(conv=>whnf)
       try rfl)
end Go.Proofs.YtnlingegeangmaaGreatDoor
