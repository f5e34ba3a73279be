/- The walks and the plain laws that a law of networks needs, part 12. -/
import Derived.Test.YtnlingegeangmaaGreatDoorQIG
import Derived.Test.YtnlingegeangmaaGreatDoorQIH
import Derived.Test.YtnlingegeangmaaGreatDoorQII
import Derived.Test.YtnlingegeangmaaGreatDoorQIJ
import Derived.Test.YtnlingegeangmaaGreatDoorQIK
import Derived.Test.YtnlingegeangmaaGreatDoorRows
import Derived.ProofKit
import Derived.OpenShut
import Derived.LaidMore
import Derived.Lay
import Derived.Lib.LaidTab
set_option linter.unusedVariables false
set_option linter.unusedSimpArgs false
set_option maxRecDepth 100000
set_option maxHeartbeats 16000000
namespace Go.Proofs.YtnlingegeangmaaGreatDoor
open Go Go.Vx
noncomputable def zB(w:Int)(l:List aj)(r2:List (List D))(c:Config)(er:List ER)(en:List EN)(et:List ET):St:=
 ⟨[(0,.i .i64 w),(1,.lst 57 (l.map aj.row) r2),(6,.bp 0 0),(9,.lst 57 (l.map aj.row) rmK),(10,.bp 1 0)],[c.row,[.own 0 er.length,.own 1 en.length,.own 2 et.length]],
  [some (72,er.map aZ),some (76,en.map bg),some (136,et.map bF)],Tryz.f5.ntmps⟩
theorem VZ{Q:Exit->St->aH->aQ->Prop}(w:Int)(l:List aj)(r2:List (List D))(hll:l.length<=60)(rounds:Int)(c:Config)(er:List ER)(en:List EN)(et:List ET)(i:Nat)(hel:er.length<=7000)(adr:en.length<=7000){R:List (List aj)}{N:List (List Int)}(hS:Shf er en et R N)
    (hQ:∀ er' en',er'.length=er.length->en'.length=en.length->Shf er' en' et R N->Q .normal (zB w l r2 c er' en' et) [] (bkR er'++(bkN en'++bkT et))) :
    OkB Tryz.prog T [] (dI [1,1,1,1,1,1,0] (Tryz.f5.body.getD .ret)) Q (sH w l r2 rounds c er en et i) [] (bkR er++(bkN en++bkT et)):=by
 have hem:(er.map aZ).length=er.length:=sI;have hun:=MG l r2 hll;refine OkB.fC [0,1,6,9,10] 3 2 (fun x:List ER × List EN=>zB w l r2 c x.1 x.2 et) (fun _=>[]) (fun x=>bkR x.1++(bkN x.2++bkT et)) (fun e x=>e = .normal/\x.1.length=er.length/\x.2.length=en.length/\Shf x.1 x.2 et R N) ?_ ?_;rotate_left
 . rintro e ⟨er',en'⟩ ⟨rfl,k1,k2,k3⟩
   exact hQ er' en' k1 k2 k3
 unfold sH;(try (conv=>whnf));repeat' (first|(refine OkB.region (id:=11) tok ?_;conv=>whnf)|refine OkB.seq ?_|fail)
 refine Or.inr (Or.inr ?_);(conv=>whnf);refine⟨_,_,Tryz.func24,rfl,Tryz.call24,?_⟩;(conv=>whnf);(try (conv=>whnf));repeat' (first|refine OkB.seq ?_|(refine OkB.aA (OkM.region tok ?_);conv=>whnf)|refine OkB.block ?_|fail)
 refine OkB.aT [0,59,60,65,68,69] [3] 3 2 (fun (x:Nat × List ER)=>[.i .i64 (x.1:Nat)]) (fun (x:Nat × List ER) (_:List (List D))=>[c.row,[.own 0 er.length,.own 1 en.length,.own 2 et.length]]) (fun (x:Nat × List ER) (_:Vx.Rows)=>[some (72,x.2.map aZ),some (76,en.map bg),some (136,et.map bF)]) (fun (x:Nat × List ER)=>[]) (fun (x:Nat × List ER)=>bkR x.2++(bkN en++bkT et)) (fun (x:Nat × List ER)=>x.1<=er.length/\x.2.length=er.length/\x.2.map ER.was=R/\(∀ i e,x.2[i]? = some e->kC i e)) (fun (x:Nat × List ER)=>er.length - x.1) ((0,er)) (⟨Nat.zero_le _,rfl,hS.wr,hS.r⟩) sS sS ?_;(conv=>whnf);refine⟨by ((conv=>whnf);first|rfl|(simp[ak,au,aj.row,ay];done)|(simp[ak,au,aj.row,ay];rw[IntKind.wrap_i64];omega)),?_⟩;rintro⟨k,ys⟩ ⟨hk,hyl,hW,hF⟩;dsimp only at hk hyl hW hF ⊢;have hym:(ys.map aZ).length=ys.length:=sI;(conv=>whnf);by_cases hkl:k<er.length
 . obtain⟨e,he⟩:∃ e,ys[k]? = some e:=⟨_,aC oA⟩
   have heI:ys[((k:Nat):Int).toNat]? = some e:=he;have hfe:=hF k e he
   cases hfe with
   | nil=>
    have hal:=DR [] [] rmK rfl rfl sI;(try (conv=>whnf));repeat' (first|(refine Or.inr (Or.inr (Or.inr ?_));(conv=>whnf);refine bW.uI 0 57 rfl rfl ?_;refine bW.iK (ts:=[55,55]) Tryz.call28 ?_;(conv=>whnf);(repeat (refine aI ?_;conv=>whnf));refine⟨_,hal,?_⟩;rintro _ _ ⟨rfl,rfl⟩;(refine And.intro True.intro ?_;conv=>whnf))|refine OkB.seq ?_|((first|refine OkB.aA (OkM.region tok ?_)|refine OkB.aA (OkM.aB (Ok.aW (id:=4) tok follows [(3,16,[7,6,5]),(7,16,[]),(11,16,[15,14,13]),(15,16,[])] [.q 0,.q 1,.q 2,.q 3,.q 4,.q 5,.q 6,.q 7,.q 8,.q 9,.q 10,.q 11,.q 12,.q 13,.q 14,.q 15,.l 16,.q 17] kR ?_))|refine OkB.cond ?_);conv=>whnf)|refine OkB.block ?_|((first|refine OkB.skip ?_|refine OkB.ret ?_|refine nI ?_|refine rd rfl aS ?_);conv=>whnf)|(refine bI ?_ ?_<;>intro<;>first|omega|conv=>whnf)|(refine aJ ?_;conv=>whnf)|fail)
    all_goals first
     | exact absurd True.intro aS
     | (refine⟨(k+1,ys),by dsimp only;omega,⟨by dsimp only;omega,hyl,hW,hF⟩,.refl _,.refl _,?_⟩
        (conv=>whnf);(first|rfl|simp[ak,au,aj.row,ay]);done)
   | raw g n cc o m hn hl hb=>
    have hmn:(m.map aj.row).length=n:=by simp[hn]
    have hal:=fun rm=>DR m rm rmK (l1:=(m.map aj.row).take n) (by exact au oA) rfl oA
    have hsm:∀ o',(ys.set k ⟨.rsl g n cc,.lst 57 [] [],[(g,o')],m,k⟩).map aZ=ys.map aZ:=fun o'=>l9 he rfl
    have hsw:∀ o',(ys.set k ⟨.rsl g n cc,.lst 57 [] [],[(g,o')],m,k⟩).map ER.was=ys.map ER.was:=fun o'=>l9 he rfl
    refine OkB.perm ((AB ER.ks he).append_right _) ?_;refine OkB.go (GoH.open 559 hb ?_);(conv=>whnf)
    repeat' (first|(refine Or.inr (Or.inr (Or.inr ?_));(conv=>whnf);refine bW.rF 0 559 rfl rfl rfl (Nat.le_refl _) ?_;refine bW.iK (ts:=[55,55]) Tryz.call28 ?_;(conv=>whnf);(repeat (refine aI ?_;conv=>whnf));refine⟨_,hal _,?_⟩;rintro _ _ ⟨rfl,rfl⟩;(refine And.intro True.intro ?_;conv=>whnf))|(refine OkB.go (c:=.region 3 _ _) (GoH.close tok (t0:=559) (ti:=_) rfl rfl rfl (jw m) fun o1 ho1=>?_);conv=>whnf)|(refine OkB.perm (c:=.region 3 _ _) ((Jg ER.ks (e':=⟨.rsl g n cc,.lst 57 [] [],[(g,o1)],m,k⟩) he).append_right _) ?_)|refine OkB.seq ?_|((first|refine OkB.aA (OkM.region tok ?_)|refine OkB.aA (OkM.aB (Ok.aW (id:=4) tok follows [(3,16,[7,6,5]),(7,16,[]),(11,16,[15,14,13]),(15,16,[])] [.q 0,.q 1,.q 2,.q 3,.q 4,.q 5,.q 6,.q 7,.q 8,.q 9,.q 10,.q 11,.q 12,.q 13,.q 14,.q 15,.l 16,.q 17] kR ?_))|refine OkB.cond ?_);conv=>whnf)|refine OkB.block ?_|((first|refine OkB.skip ?_|refine OkB.ret ?_|refine nI ?_|refine rd rfl aS ?_);conv=>whnf)|(refine bI ?_ ?_<;>intro<;>first|omega|conv=>whnf)|(refine aJ ?_;conv=>whnf)|fail)
    all_goals first
     | exact absurd True.intro aS
     | (refine⟨(k+1,ys.set k ⟨.rsl g n cc,.lst 57 [] [],[(g,o1)],m,k⟩),by dsimp only;omega,⟨by dsimp only;omega,by simp[hyl],by dsimp only;rw[hsw,hW],SA hF oA (.raw g n cc o1 m hn hl ho1)⟩,.refl _,.refl _,?_⟩
        dsimp only;rw[hsm o1];(conv=>whnf);(first|rfl|simp[ak,au,aj.row,ay]);done)
 . obtain rfl:k=er.length:=oA
   (try (conv=>whnf));repeat' (first|refine OkB.seq ?_|((first|refine OkB.aA (OkM.region tok ?_)|refine OkB.cond ?_);conv=>whnf)|refine OkB.block ?_|(refine OkB.exit ?_;conv=>whnf)|(refine bI ?_ ?_<;>intro<;>first|omega|conv=>whnf)|fail)
   refine OkB.aT [0,59,60,65,68,69] [4] 3 2 (fun (x:Nat × List EN)=>[.i .i64 (x.1:Nat)]) (fun (x:Nat × List EN) (_:List (List D))=>[c.row,[.own 0 er.length,.own 1 en.length,.own 2 et.length]]) (fun (x:Nat × List EN) (_:Vx.Rows)=>[some (72,ys.map aZ),some (76,x.2.map bg),some (136,et.map bF)]) (fun (x:Nat × List EN)=>[]) (fun (x:Nat × List EN)=>bkR ys++(bkN x.2++bkT et)) (fun (x:Nat × List EN)=>x.1<=en.length/\x.2.length=en.length/\x.2.map EN.was=N/\(∀ i e,x.2[i]? = some e->lV i e)) (fun (x:Nat × List EN)=>en.length - x.1) ((0,en)) (⟨Nat.zero_le _,rfl,hS.wn,hS.n⟩) sS sS ?_;(conv=>whnf);refine⟨by ((conv=>whnf);first|rfl|(simp[ak,au,aj.row,ay];done)|(simp[ak,au,aj.row,ay];rw[IntKind.wrap_i64];omega)),?_⟩;rintro⟨q,zs⟩ ⟨hq,hzl,hZ,hG⟩;dsimp only at hq hzl hZ hG ⊢;have hzm:(zs.map bg).length=zs.length:=sI;(conv=>whnf);by_cases hql:q<en.length
   . obtain⟨e,he⟩:∃ e,zs[q]? = some e:=⟨_,aC oA⟩
     have heI:zs[((q:Nat):Int).toNat]? = some e:=he;have hfe:=hG q e he
     cases hfe with
     | nil=>
      have hal:=Jc [] [] [] rfl rfl sI;(try (conv=>whnf));repeat' (first|(refine Or.inr (Or.inr (Or.inr ?_));(conv=>whnf);refine bW.uI 0 3 rfl rfl ?_;refine bW.iK (ts:=[74,74]) Tryz.call29 ?_;(conv=>whnf);(repeat (refine aI ?_;conv=>whnf));refine⟨_,hal,?_⟩;rintro _ _ ⟨rfl,rfl⟩;(refine And.intro True.intro ?_;conv=>whnf))|refine OkB.seq ?_|((first|refine OkB.aA (OkM.region tok ?_)|refine OkB.aA (OkM.aB (Ok.aW (id:=9) tok follows [(3,16,[7,6,5]),(7,16,[]),(11,16,[15,14,13]),(15,16,[])] [.q 0,.q 1,.q 2,.q 3,.q 4,.q 5,.q 6,.q 7,.q 8,.q 9,.q 10,.q 11,.q 12,.q 13,.q 14,.q 15,.l 16,.q 17] kR ?_))|refine OkB.cond ?_);conv=>whnf)|refine OkB.block ?_|((first|refine OkB.skip ?_|refine OkB.ret ?_|refine nI ?_|refine rd rfl aS ?_);conv=>whnf)|(refine bI ?_ ?_<;>intro<;>first|omega|conv=>whnf)|(refine aJ ?_;conv=>whnf)|fail)
      all_goals first
       | exact absurd True.intro aS
       | (refine⟨(q+1,zs),by dsimp only;omega,⟨by dsimp only;omega,hzl,hZ,hG⟩,.refl _,.refl _,?_⟩
          (conv=>whnf);(first|rfl|simp[ak,au,aj.row,ay]);done)
     | raw g n cc o m hn hl hb=>
      have hmn:(m.map ay).length=n:=by simp[hn]
      have hal:=fun rm=>Jc m rm [] (l1:=(m.map ay).take n) (by exact au oA) rfl oA
      have hsm:∀ o',(zs.set q ⟨.rsl g n cc,.lst 3 [] [],[(g,o')],m,100000*(q+1)⟩).map bg=zs.map bg:=fun o'=>l9 he rfl
      have hsw:∀ o',(zs.set q ⟨.rsl g n cc,.lst 3 [] [],[(g,o')],m,100000*(q+1)⟩).map EN.was=zs.map EN.was:=fun o'=>l9 he rfl
      have hp1:(bkR ys++(bkN zs++bkT et)).Perm ((g,o) :: (bkR ys++((zs.eraseIdx q).flatMap EN.ks++bkT et))):=by
       refine (((AB EN.ks he).append_right (bkT et)).append_left (bkR ys)).trans ?_;exact List.perm_middle
      have hp2:∀ o1,((g,o1) :: (bkR ys++((zs.eraseIdx q).flatMap EN.ks++bkT et))).Perm (bkR ys++(bkN (zs.set q ⟨.rsl g n cc,.lst 3 [] [],[(g,o1)],m,100000*(q+1)⟩)++bkT et)):=fun o1=>
       List.perm_middle.symm.trans (((Jg EN.ks (e':=⟨.rsl g n cc,.lst 3 [] [],[(g,o1)],m,100000*(q+1)⟩) he).append_right (bkT et)).append_left (bkR ys))
      refine OkB.perm hp1 ?_;refine OkB.go (GoH.open 559 hb ?_);(conv=>whnf)
      repeat' (first|(refine Or.inr (Or.inr (Or.inr ?_));(conv=>whnf);refine bW.rF 0 559 rfl rfl rfl (Nat.le_refl _) ?_;refine bW.iK (ts:=[74,74]) Tryz.call29 ?_;(conv=>whnf);(repeat (refine aI ?_;conv=>whnf));refine⟨_,hal _,?_⟩;rintro _ _ ⟨rfl,rfl⟩;(refine And.intro True.intro ?_;conv=>whnf))|(refine OkB.go (c:=.region 8 _ _) (GoH.close tok (t0:=559) (ti:=_) rfl rfl rfl (qI m) fun o1 ho1=>?_);conv=>whnf)|(refine OkB.perm (c:=.region 8 _ _) (hp2 o1) ?_)|refine OkB.seq ?_|((first|refine OkB.aA (OkM.region tok ?_)|refine OkB.aA (OkM.aB (Ok.aW (id:=9) tok follows [(3,16,[7,6,5]),(7,16,[]),(11,16,[15,14,13]),(15,16,[])] [.q 0,.q 1,.q 2,.q 3,.q 4,.q 5,.q 6,.q 7,.q 8,.q 9,.q 10,.q 11,.q 12,.q 13,.q 14,.q 15,.l 16,.q 17] kR ?_))|refine OkB.cond ?_);conv=>whnf)|refine OkB.block ?_|((first|refine OkB.skip ?_|refine OkB.ret ?_|refine nI ?_|refine rd rfl aS ?_);conv=>whnf)|(refine bI ?_ ?_<;>intro<;>first|omega|conv=>whnf)|(refine aJ ?_;conv=>whnf)|fail)
      all_goals first
       | exact absurd True.intro aS
       | (refine⟨(q+1,zs.set q ⟨.rsl g n cc,.lst 3 [] [],[(g,o1)],m,100000*(q+1)⟩),by dsimp only;omega,⟨by dsimp only;omega,by simp[hzl],by dsimp only;rw[hsw,hZ],SA hG oA (.raw g n cc o1 m hn hl ho1)⟩,.refl _,.refl _,?_⟩
          dsimp only;rw[hsm o1];(conv=>whnf);(first|rfl|simp[ak,au,aj.row,ay]);done)
   . obtain rfl:q=en.length:=oA
     (try (conv=>whnf));repeat' (first|(refine Or.inl ?_;(conv=>whnf);refine Or.inl ?_;(conv=>whnf))|((first|refine Or.inl ?_|refine⟨.b True,hun.mono (fun _ _ h=>h.1),rfl,?_⟩);conv=>whnf)|refine OkB.seq ?_|((first|refine OkB.aA (OkM.region tok ?_)|refine OkB.cond ?_|refine OkB.skip ?_|refine OkB.exit ?_|refine OkB.ret ?_);conv=>whnf)|(refine bI ?_ ?_<;>intro<;>first|omega|conv=>whnf)|fail)
     all_goals first
      | exact absurd True.intro aS
      | skip
     refine⟨(ys,zs),⟨rfl,hyl,hzl,⟨hF,hG,hS.t,hW,hZ⟩⟩,.refl _,.refl _,?_⟩;dsimp only[zB];rw[hyl,hzl];(conv=>whnf)
theorem ZK(w:Int)(l:List aj)(r2:List (List D))(hll:l.length<=60)(c:Config)(htb:iJ Tryz.prog T 8 [.agg c.row] (fun d M B=>M=[]/\zA c d B))(htL:(fV c).length<=16/\∀ m ∈ fV c,m.length<=3000000)
    (er:List ER)(en:List EN)(et:List ET)(k:Nat)(hk:2<=k)(h1:er.length<=7000)(h2:en.length<=7000)(h3:et.length<=300)(hS:Shf er en et (List.replicate k (qG w l c)).flatten (List.replicate k qH).flatten) :
    OkB Tryz.prog T [] (lU 7 kpC) kpQ (zB w l r2 c er en et) [] (bkR er++(bkN en++bkT et)):=by
 unfold kpC kpQ zB;(try (conv=>whnf));repeat' (first|(refine OkB.region (id:=13) tok ?_;conv=>whnf)|refine OkB.seq ?_|fail)
 refine Or.inr (Or.inr ?_);(conv=>whnf);refine⟨_,_,Tryz.func26,rfl,Tryz.call26,?_⟩;(conv=>whnf);(try (conv=>whnf));repeat' (first|(refine OkB.keep (c:=dI [0] (Tryz.f26.body.getD .ret)) [0,136,137,142,145,146] 3 2 ?_;(conv=>whnf);refine jm ?_)|refine OkB.seq ?_|fail)
 refine⟨aaX w l r2 c er en et h3 hS.t fun et1 a1 a2=>?_⟩;(conv=>whnf)
 repeat' (first|(refine OkB.keep (c:=dI [1,0] (Tryz.f26.body.getD .ret)) [0,136,137,142,145,146] 3 2 ?_;(conv=>whnf);refine jm ?_)|refine OkB.seq ?_|fail)
 refine⟨aaY w l r2 c er en et1 h1 hS.r fun er1 b1 b2 b3=>?_⟩;(conv=>whnf)
 repeat' (first|(refine OkB.keep (c:=dI [1,1] (Tryz.f26.body.getD .ret)) [0,136,137,142,145,146] 3 2 ?_;(conv=>whnf);refine jm ?_)|fail)
 refine⟨aaZ w l r2 c er1 en et1 h2 hS.n fun en1 c1 c2 c3=>?_⟩;(conv=>whnf)
 repeat' (first|(refine OkB.region (id:=14) tok ?_;conv=>whnf)|refine OkB.seq ?_|fail)
 refine Or.inr (Or.inr ?_);(conv=>whnf);refine⟨_,_,Tryz.func27,rfl,Tryz.call27,?_⟩;(conv=>whnf);(try (conv=>whnf));repeat' (first|(refine OkB.keep (c:=dI [0] (Tryz.f27.body.getD .ret)) [0,178,179,184,187,188] 3 2 ?_;(conv=>whnf);refine jm ?_)|refine OkB.seq ?_|fail)
 refine⟨abN w l r2 c er1 en1 et1 oA b3 fun er3 d1 d2 d3=>?_⟩;(conv=>whnf)
 repeat' (first|(refine OkB.keep (c:=dI [1,0] (Tryz.f27.body.getD .ret)) [0,178,179,184,187,188] 3 2 ?_;(conv=>whnf);refine jm ?_)|refine OkB.seq ?_|fail)
 refine⟨abO w l r2 c er3 en1 et1 oA c3 fun en3 e1 e2 e3=>?_⟩;(conv=>whnf)
 repeat' (first|(refine OkB.keep (c:=dI [1,1] (Tryz.f27.body.getD .ret)) [0,178,179,184,187,188] 3 2 ?_;(conv=>whnf);refine jm ?_)|fail)
 refine⟨abP w l r2 c er3 en3 et1 oA a2 fun et3 f1 f2=>?_⟩;(conv=>whnf)
 repeat' (first|(refine OkB.keep (c:=lU 9 (Tryz.f5.body.getD .ret)) [0,1,6,9,10] 3 2 ?_;(conv=>whnf);refine jm ?_)|fail)
 constructor;refine OkB.sub (.refl _) (List.nil_sublist _) ?_;refine OkB.pub 0 ?_;(conv=>whnf);refine OkB.pub 1 ?_;(conv=>whnf);refine OkB.pub 2 ?_;(conv=>whnf);rw[tu,zZ,tu,zZ,tu,zZ];refine OkB.go (GoH.aaU 10 1 [0,1,6,9] rfl rfl rfl ?_);(conv=>whnf)
 repeat' (first|((refine OkB.go (c:=.region 16 _ _) (GoH.oG 1 0 72 rfl rfl ?_);(conv=>whnf);refine OkB.go (GoH.oG 1 1 76 rfl rfl ?_);(conv=>whnf);refine OkB.go (GoH.oG 1 2 136 rfl rfl ?_);(conv=>whnf);refine OkB.region (id:=16) tok ?_;(conv=>whnf)))|refine OkB.seq ?_|(refine OkB.aA (OkM.region tok ?_);conv=>whnf)|fail)
 refine Or.inr (Or.inr ?_);(conv=>whnf);refine⟨_,_,Tryz.func23,rfl,Tryz.call23,?_⟩;(conv=>whnf);refine OkB.keep [0,1,2,3,102,103,105,108,111,112,113,114] 3 2 ?_;(conv=>whnf);refine QT w l r2 hll false 0 c htb [] [] [] 0 (shC er3 en3 et3) sI sI sI (R:=[]) (N:=[]) ⟨sI,sI,sI,rfl,rfl⟩ htL ?_;intro er2 en2 et2 k1 k2 k3 hS2;rw[List.nil_append,List.nil_append] at hS2;simp only[List.length_nil] at k1 k2 k3;have hend:=ZJ w l r2 hll c er3 en3 et3 k hk oA oA oA d3 e3 f2 (by rw[d2,b2];exact hS.wr) (by rw[e2,c2];exact hS.wn) er2 en2 et2 hS2 oA oA;unfold kpC kpQ at hend;(conv=>whnf)
 repeat' (first|(refine OkB.sub (c:=lU 11 (Tryz.f5.body.getD .ret)) (.refl _) (List.nil_sublist _) ?_;refine OkB.keep [0,1,6,9,10,12] 3 2 ?_;(conv=>whnf);exact hend)|fail)
theorem Xb{bits:Int}{l:List aj}(h:dV bits l=0):l.length<=256:=by
 unfold dV at h;split at h
 . cases h
 . omega
theorem abQ(c:Config):(fV c).length<=16/\∀ m ∈ fV c,m.length<=3000000:=by
 unfold fV;split
 . simp
 . rename_i h0
   obtain⟨_,h1,_⟩:=Dk (Classical.not_not.1 h0);have hbn:=(qQ h1).1;have hb:c.boxes.l.length<=16:=by simpa[Config.b] using hbn
   split
   . refine⟨by simpa using hb,fun m hm=>?_⟩
     rw[(List.mem_replicate.1 hm).2];simp
   . split
     . rename_i h2
       refine⟨by rw[Ee];exact hb,fun m hm=>?_⟩;unfold ku at hm;obtain⟨a,ha,rfl⟩:=List.mem_map.1 hm;have h3:=Xb (h2.2 a (List.mem_range.1 ha));split
       . unfold kV
         split
         . have:=Jf (cu c.b) (dw c (ksF c) (ksF c).length a)
           omega
         . have:=JF (cu c.b) (dw c (ksF c) (ksF c).length a)
           omega
       . omega
     . simp
theorem Vo(w rounds:Int)(l:List aj)(r2:List (List D))(c:Config)(hc:c.Ok)(ht:c.Tx)(hl:l.length<=1048576):aF Tryz.prog T 5 [.i .i64 w,.lst 57 (l.map aj.row) r2,.agg c.row,.i .i64 rounds] (fun d _=>d = .b True):=by
 have hlm:(l.map aj.row).length=l.length:=sI;have htb:=Xa c hc ht;have htL:=abQ c;have htk:(l.map aj.row++rmK).take l.length=l.map aj.row:=List.take_left' sI;have hdk:(l.map aj.row++rmK).drop l.length=rmK:=List.drop_left' sI;have hcp:=fun r=>oh l r (l1:=l.map aj.row) rfl oA
 refine aF.abG tok Tryz.func5 rfl Tryz.call5 sI ?_;(try (conv=>whnf));repeat' (first|((refine OkB.pub (c:=lU 5 (Tryz.f5.body.getD .ret)) 0 ?_;(conv=>whnf);rw[htk,hdk];refine OkB.keep [0,1,3,6,9,10] 0 2 ?_;(conv=>whnf);refine OkB.go (GoH.oG 1 0 72 rfl rfl ?_);(conv=>whnf);refine OkB.go (GoH.oG 1 1 76 rfl rfl ?_);(conv=>whnf);refine OkB.go (GoH.oG 1 2 136 rfl rfl ?_);(conv=>whnf);refine jm ?_))|refine OkB.seq ?_|((first|refine OkB.aA (OkM.region tok ?_)|refine OkB.cond ?_|refine OkB.skip ?_|refine OkB.ret ?_);conv=>whnf)|(refine Or.inl ?_;(conv=>whnf);refine Or.inl ?_;(conv=>whnf);(repeat (refine aI ?_;conv=>whnf));refine⟨_,WW,rfl,?_⟩;conv=>whnf)|(refine Or.inl ?_;(conv=>whnf);refine Or.inr (Or.inl ?_);(conv=>whnf);(repeat (refine aI ?_;conv=>whnf));refine⟨_,ZL c hc , ?_⟩;rintro _ _ ⟨rfl,P1,rfl⟩<;>(conv=>whnf))|(refine Or.inl ?_;(conv=>whnf);refine Or.inr (Or.inl ?_);(conv=>whnf);(repeat (refine aI ?_;conv=>whnf));refine⟨_,hcp _ , ?_⟩;rintro _ _ ⟨rfl,rfl⟩<;>(conv=>whnf))|(refine bI ?_ ?_<;>intro<;>first|omega|conv=>whnf)|fail)
 all_goals try (refine Or.inl ?_;(conv=>whnf);rfl;done)
 have hll:l.length<=60:=oA;refine⟨ZI w l r2 hll rounds c htb htL fun k er en et hk hk2 k1 k2 k3 hS=>?_⟩;unfold kpC sH;(try (conv=>whnf));repeat' (first|(refine OkB.keep (c:=dI [1,1,1,1,1,1,0] (Tryz.f5.body.getD .ret)) [0,1,3,6,9,10,11] 3 2 ?_;(conv=>whnf);refine jm ?_)|refine OkB.seq ?_|fail)
 refine⟨VZ w l r2 hll rounds c er en et k oA oA hS fun er' en' q1 q2 hS'=>?_⟩;(conv=>whnf);have hmid:=ZK w l r2 hll c htb htL er' en' et k hk oA oA oA hS';unfold kpC zB at hmid;(try (conv=>whnf));repeat' (first|(refine OkB.keep (c:=lU 7 (Tryz.f5.body.getD .ret)) [0,1,6,9,10] 3 2 ?_;(conv=>whnf);exact hmid)|fail)
theorem Yk{B:Nat}(r:List D)(h:bZ B [.int .i64,.int .i64,.int .i64,.int .i64] r):∃ a:aj,r=a.row/\True:=by
 obtain⟨_,_,rfl,h1,h⟩:=dA h;obtain⟨_,_,rfl,h2,h⟩:=dA h;obtain⟨_,_,rfl,h3,h⟩:=dA h;obtain⟨_,_,rfl,h4,h⟩:=dA h;obtain rfl:=oH h;obtain⟨a,rfl,_⟩:=jB h1;obtain⟨b,rfl,_⟩:=jB h2;obtain⟨c,rfl,_⟩:=jB h3;obtain⟨d,rfl,_⟩:=jB h4;exact⟨⟨a,b,c,d⟩,rfl,trivial⟩
theorem Vp:∃ ls,shapes T 9 [3,55,27,3]=some ls/\∀ xs,uQ T 1048576 [3,55,27,3] ls xs->aF Tryz.prog T 5 xs (fun d _=>d = .b True):=by
 refine⟨_,rfl,fun xs h=>?_⟩;obtain⟨_,_,rfl,h0,h⟩:=EF h;obtain⟨_,_,rfl,h1,h⟩:=EF h;obtain⟨_,_,rfl,h2,h⟩:=EF h;obtain⟨_,_,rfl,h3,h⟩:=EF h;obtain rfl:=as_nil h;obtain⟨w,rfl,_⟩:=jB (leaf h0 rfl);obtain⟨l,r2,rfl,hl,_⟩:=SY (leaf h1 rfl) Yk;obtain⟨r0,rfl,g0⟩:=abh h2 rfl;obtain⟨c,rfl,hc,ht⟩:=Xq g0;obtain⟨n,rfl,_⟩:=jB (leaf h3 rfl);exact Vo w n l _ c hc ht oA
theorem UW{α:Type}{l:List α}(h:l.length=4):∃ a b c d,l=[a,b,c,d]:=match l,h with|[a,b,c,d],_=>⟨a,b,c,d,rfl⟩
theorem acZ{α:Type}{l:List α}(h:l.length=5):∃ a b c d e,l=[a,b,c,d,e]:=match l,h with|[a,b,c,d,e],_=>⟨a,b,c,d,e,rfl⟩
theorem ach{α:Type}{l:List α}(h:l.length=20):∃ v0 v1 v2 v3 v4 v5 v6 v7 v8 v9 v10 v11 v12 v13 v14 v15 v16 v17 v18 v19,l=[v0,v1,v2,v3,v4,v5,v6,v7,v8,v9,v10,v11,v12,v13,v14,v15,v16,v17,v18,v19]:=match l,h with|[v0,v1,v2,v3,v4,v5,v6,v7,v8,v9,v10,v11,v12,v13,v14,v15,v16,v17,v18,v19],_=>⟨v0,v1,v2,v3,v4,v5,v6,v7,v8,v9,v10,v11,v12,v13,v14,v15,v16,v17,v18,v19,rfl⟩
theorem st4{W:World}{fuel:Nat}{cs:List Value}{y:DataW Unit × List MemPlace}{a b c d:Bool}(h:DataW.trod (fun _=>()) Tryz.prog W 0 (fun _=>true) false fuel 351 cs=some y)
    (hy:y.1 = .agg [.lit (.bool a),.lit (.bool b),.lit (.bool c),.lit (.bool d)]):cs=[.bool a,.bool b,.bool c,.bool d]:=by
 obtain⟨xs,n,_,rfl,hl,hlen,hf⟩:=DataW.trod_struct Tryz.underlying351 h;have hc4:Tryz.prog.cellsOf 351=4:=kR;have hcb:Tryz.prog.cellsOf 4=1:=kR;rw[hc4] at hl;have hx4:xs.length=4:=hlen;obtain⟨z0,z1,z2,z3,rfl⟩:=UW hx4;obtain⟨v0,v1,v2,v3,rfl⟩:=UW hl
 ·
  simp only[List.map_cons,List.map_nil,DataW.agg.injEq,List.cons.injEq,and_true] at hy;obtain⟨e0,e1,e2,e3⟩:=hy;have f0:DataW.trod (fun _=>()) Tryz.prog W 0 (fun _=>true) false n 4 (List.take (Tryz.prog.cellsOf 4) (List.drop 0 [v0,v1,v2,v3]))=some z0:=hf 0 _ rfl;rw[hcb,show List.take 1 (List.drop 0 [v0,v1,v2,v3])=[v0] from rfl] at f0;have f1:DataW.trod (fun _=>()) Tryz.prog W 0 (fun _=>true) false n 4 (List.take (Tryz.prog.cellsOf 4) (List.drop 1 [v0,v1,v2,v3]))=some z1:=hf 1 _ rfl;rw[hcb,show List.take 1 (List.drop 1 [v0,v1,v2,v3])=[v1] from rfl] at f1;have f2:DataW.trod (fun _=>()) Tryz.prog W 0 (fun _=>true) false n 4 (List.take (Tryz.prog.cellsOf 4) (List.drop 2 [v0,v1,v2,v3]))=some z2:=hf 2 _ rfl;rw[hcb,show List.take 1 (List.drop 2 [v0,v1,v2,v3])=[v2] from rfl] at f2;have f3:DataW.trod (fun _=>()) Tryz.prog W 0 (fun _=>true) false n 4 (List.take (Tryz.prog.cellsOf 4) (List.drop 3 [v0,v1,v2,v3]))=some z3:=hf 3 _ rfl;rw[hcb,show List.take 1 (List.drop 3 [v0,v1,v2,v3])=[v3] from rfl] at f3;obtain⟨b0,h0,rfl⟩:=DataW.trod_bool Tryz.underlying4 f0;obtain⟨b1,h1,rfl⟩:=DataW.trod_bool Tryz.underlying4 f1;obtain⟨b2,h2,rfl⟩:=DataW.trod_bool Tryz.underlying4 f2;obtain⟨b3,h3,rfl⟩:=DataW.trod_bool Tryz.underlying4 f3;clear hf h;simp only[List.cons.injEq,and_true] at h0 h1 h2 h3;simp only[DataW.lit.injEq,Lit.bool.injEq] at e0 e1 e2 e3;rw[h0,h1,h2,h3,e0,e1,e2,e3]
theorem aa7{W:World}{fuel:Nat}{cs:List Value}{p:List MemPlace}(h:DataW.trod (fun _=>()) Tryz.prog W 0 (fun _=>true) false fuel 352 cs=some (Rows.laid_reach_field_used,p)) :
    cs=[.bool false,.bool false,.bool false,.bool false,.bool true,.bool false,.bool false,.bool false,.bool true,.bool false,.bool true,.bool false,.bool true,.bool true,.bool false,.bool false,.bool false,.bool false,.bool false,.bool true]:=by
 obtain⟨xs,m,_,hx,hl,hxl,hf⟩:=DataW.trod_array Tryz.underlying352 h;have hc:Tryz.prog.cellsOf 352=20:=kR;have hc4:Tryz.prog.cellsOf 351=4:=kR;rw[hc] at hl;rw[hc4] at hf;have hx1:=(Prod.mk.inj hx).1;unfold Rows.laid_reach_field_used at hx1;obtain⟨y0,y1,y2,y3,y4,rfl⟩:=acZ hxl;obtain⟨v0,v1,v2,v3,v4,v5,v6,v7,v8,v9,v10,v11,v12,v13,v14,v15,v16,v17,v18,v19,rfl⟩:=ach hl
 ·
  simp only[List.map_cons,List.map_nil,DataW.agg.injEq,List.cons.injEq,and_true] at hx1;obtain⟨e0,e1,e2,e3,e4⟩:=hx1;have g0:=st4 (hf 0 dC) e0.symm;have g1:=st4 (hf 1 dC) e1.symm;have g2:=st4 (hf 2 dC) e2.symm;have g3:=st4 (hf 3 dC) e3.symm;have g4:=st4 (hf 4 dC) e4.symm;simp at g0 g1 g2 g3 g4;simp[g0,g1,g2,g3,g4]
theorem ZM{W:World}(h:GT W):zk W:=by
 refine⟨fun pp v hp=>?_,h⟩;unfold glV at hp;obtain⟨b,o,sp⟩:=pp
 cases sp with
 | some _=>cases hp
 | none=>
  dsimp only at hp
  cases hg:glD b with
  | none=>rw[hg] at hp;cases hp
  | some cs=>
   rw[hg] at hp;dsimp only at hp;obtain⟨_,a,c,hw⟩:=h b cs hg;show W.cell? ⟨b,o,none⟩=some v;simp only[World.cell?,hw];simpa using hp
theorem aa8{W:World}{name:String}{g:Nat}{cs:Array Value}(hg:Tryz.prog.globalNamed name=some g)(h:W.var? Tryz.prog name=some cs):∃ a b,W.heap[g]? = some (.cells cs a b):=by
 simp only[World.var?,hg,Option.bind_some] at h;split at h
 . rename_i cs' a b hh
   cases h;exact⟨a,b,hh⟩
 . cases h
def KA(W:World)(name:String)(g:Nat):Prop:=∃ cs:Array Value,W.var? Tryz.prog name=some cs/\∃ ds,glD g=some ds/\cs.toList=ds.map rQ
theorem aci{W:World}(h1:KA W "reach/field.used" 1)(h5:KA W "internal/strconv.uint64pow10" 2):GT W:=by
 have one:∀ name g,Tryz.prog.globalNamed name=some g → KA W name g → ∀ cs,glD g=some cs → ∃ a b,W.heap[g]? = some (.cells (cs.map rQ).toArray a b):=by
  rintro name g hn ⟨cs,hv,ds,hd,he⟩ cs' hc;rw[hd] at hc;cases hc;obtain⟨a,b,hh⟩:=aa8 hn hv;exact⟨a,b,by rw[hh,← he]⟩
 intro g cs hg
 match g,hg with
 | 1,hg=>exact⟨by cases hg;simp,one _ 1 kR h1 cs hg⟩
 | 2,hg=>exact⟨by cases hg;simp,one _ 2 kR h5 cs hg⟩
 | 0,hg=>cases hg
 | n+3,hg=>cases hg
theorem type_of{name:String}{g:Nat}{t t':TypeId}(hg0:Tryz.prog.globalNamed name=some g)(ht0:(Tryz.prog.globals[g]?).map (·.type)=some t){g':Nat}(hg:Tryz.prog.globalNamed name=some g')(ht:(Tryz.prog.globals[g']?).map (·.type)=some t'):g'=g/\t'=t:=by
 obtain rfl:=Option.some.inj (hg0.symm.trans hg);exact⟨rfl,(Option.some.inj (ht0.symm.trans ht)).symm⟩
theorem glM{W:World}(h:laidMetH Tryz.prog Rows.ribKeepsUptoRow.laid W):zk W:=by
 rw[MakeChecks.laidMetH_plain _ _ _ kR] at h;obtain⟨ps,⟨_,_,_,_,_,_,_,_,_,_,⟨_,_,_,_,_,_,_,_,_,_,⟨g5,t5,c5,f5,p5,q5,hg5,ht5,hv5,hd5,⟨_,_,_,_,_,_,_,_,_,_,⟨g1,t1,c1,f1,p1,q1,hg1,ht1,hv1,hd1,_,_⟩,_⟩,_⟩,_⟩,_⟩,_⟩:=h;obtain⟨rfl,rfl⟩:=type_of (g:=2) (t:=364) kR kR hg5 ht5;obtain⟨rfl,rfl⟩:=type_of (g:=1) (t:=352) kR kR hg1 ht1;refine ZM (aci ⟨c1,hv1,_,rfl,?_⟩ ⟨c5,hv5,_,rfl,?_⟩)
 . exact aa7 hd1
 . exact Lib.cells_of_tab (zs:=Lib.pow10Tab) Tryz.underlying364 Tryz.underlying285 kR kR hd5
end Go.Proofs.YtnlingegeangmaaGreatDoor

