/- The walks and the plain laws that a law of networks needs, part 7. -/
import Derived.Test.YtnlingegeangmaaGreatDoorQIF
set_option linter.unusedVariables false
set_option linter.unusedSimpArgs false
set_option maxRecDepth 100000
set_option maxHeartbeats 16000000
namespace Go.Proofs.YtnlingegeangmaaGreatDoor
open Go Go.Vx
theorem aa3{Q:Exit->St->Prop}(er:List ER)(en:List EN)(et:List ET)(s1 s2 s3:List (List D))(h1:en.length<=7000)(hN:∀ i e,en[i]? = some e->GrN i e)
    (hQ:Q .normal ⟨[(0,shD er en et s1 s2 s3)],[],[],Tryz.f30.ntmps⟩) :
    Ok Tryz.prog T (dI [1,1,0] (Tryz.f30.body.getD .ret)) Q ⟨[(0,shD er en et s1 s2 s3)],[],[],Tryz.f30.ntmps⟩:=by
 have m1:(er.map aZ).length=er.length:=sI;have m2:(en.map bg).length=en.length:=sI;have m3:(et.map bF).length=et.length:=sI;refine Ok.fC [0] 0 0 (fun _:Unit=>⟨[(0,shD er en et s1 s2 s3)],[],[],Tryz.f30.ntmps⟩) (fun e _=>e = .normal) ?_ ?_;rotate_left
 . rintro e _ rfl
   exact hQ
 (try (conv=>whnf));repeat' (first|refine Ok.seq ?_|(refine Ok.region tok ?_;conv=>whnf)|refine Ok.block ?_|fail)
 refine Ok.aT [0] [6] 0 0 (fun (i:Nat)=>[.i .i64 (i:Nat)]) (fun _ b=>b) (fun _ r=>r) (fun (i:Nat)=>i<=en.length) (fun (i:Nat)=>en.length - i) (0) (Nat.zero_le _) ?_;(conv=>whnf);refine⟨by ((conv=>whnf);first|rfl|(simp[ak,au,aj.row,ay];done)|(simp[ak,au,aj.row,ay];rw[IntKind.wrap_i64];omega)),?_⟩;intro i hi;(conv=>whnf);by_cases hil:i<en.length
 . obtain⟨e,he⟩:∃ e,en[i]? = some e:=⟨_,aC hil⟩
   have heI:en[((i:Nat):Int).toNat]? = some e:=he
   cases hN i e he with
   | mk n room was no hno hn=>
    have hwl:=lg (fN no) n;have hw:∀ q:Nat,q<=3000096->IntKind.i64.wrap ((no:Int)+(q:Nat))=(no:Int)+(q:Nat):=fun q hq=>by rw[IntKind.wrap_i64];omega
    (try (conv=>whnf));repeat' (first|refine Ok.seq ?_|((first|refine Ok.region tok ?_|refine Ok.cond ?_);conv=>whnf)|refine Ok.block ?_|((first|refine Ok.skip ?_|refine ix _ aS ?_);conv=>whnf)|(refine bI ?_ ?_<;>intro<;>first|omega|conv=>whnf)|fail)
    all_goals try omega
    rw[hwl];refine Ok.aT [0,6,7] [8] 0 0 (fun (k:Nat)=>[.i .i64 (k:Nat)]) (fun _ b=>b) (fun _ r=>r) (fun (k:Nat)=>k<=n+96) (fun (k:Nat)=>n+96 - k) (0) (Nat.zero_le _) ?_;(conv=>whnf);refine⟨by ((conv=>whnf);first|rfl|(simp[ak,au,aj.row,ay];done)|(simp[ak,au,aj.row,ay];rw[IntKind.wrap_i64];omega)),?_⟩;intro k hk;(conv=>whnf);by_cases hkl:k<n+96
    . have hgk:(aY (fN no) n 96)[((k:Nat):Int).toNat]? = some ((fN no) (kT n k)):=Jh (fN no) hkl
      have hpl:=JU hn hkl;by_cases hkn:k<n
      . have hlk:(wrt (fN no) n)[((k:Nat):Int).toNat]? = some ((fN no) k):=yT (fN no) hkn
        repeat' (first|((first|refine And.intro (Int.natCast_nonneg k) ⟨_,hgk,?_⟩|refine And.intro (Int.natCast_nonneg k) ⟨_,hlk,?_⟩|refine⟨_,(hw (kT n k) oA).symm,?_⟩|refine⟨_,(hw k oA).symm,?_⟩);conv=>whnf)|refine Ok.seq ?_|((first|refine Ok.region tok ?_|refine Ok.bH tok follows kR ?_|refine Ok.cond ?_);conv=>whnf)|refine Ok.block ?_|((first|refine Ok.skip ?_|refine nI ?_|refine ix _ aS ?_|refine⟨_,(yC n k oA oA).mono (fun _ _ h=>h.1),rfl,?_⟩);conv=>whnf)|(refine bI ?_ ?_<;>intro<;>first|omega|conv=>whnf)|fail)
        all_goals first
         | omega
         | (rename_i h;exact (h rfl).elim)
         | (rename_i h;exfalso;simp[dM,eqD] at h;done)
         | (refine⟨k+1,oA,oA,?_⟩
            (conv=>whnf);rfl)
      . (try (conv=>whnf));repeat' (first|((first|refine And.intro (Int.natCast_nonneg k) ⟨_,hgk,?_⟩|refine⟨_,(hw (kT n k) oA).symm,?_⟩);conv=>whnf)|refine Ok.seq ?_|((first|refine Ok.region tok ?_|refine Ok.bH tok follows kR ?_|refine Ok.cond ?_);conv=>whnf)|refine Ok.block ?_|((first|refine Ok.skip ?_|refine nI ?_|refine ix _ aS ?_|refine⟨_,(yC n k oA oA).mono (fun _ _ h=>h.1),rfl,?_⟩);conv=>whnf)|(refine bI ?_ ?_<;>intro<;>first|omega|conv=>whnf)|fail)
        all_goals first
         | omega
         | (rename_i h;exact (h rfl).elim)
         | (rename_i h;exfalso;simp[dM,eqD] at h;done)
         | (refine⟨k+1,oA,oA,?_⟩
            (conv=>whnf);rfl)
    . obtain rfl:k=n+96:=oA
      (try (conv=>whnf));repeat' (first|refine Ok.seq ?_|((first|refine Ok.region tok ?_|refine Ok.cond ?_|refine Ok.exit ?_|refine nI ?_);conv=>whnf)|(refine bI ?_ ?_<;>intro<;>first|omega|conv=>whnf)|fail)
      all_goals first
       | omega
       | (refine⟨i+1,oA,oA,?_⟩
          (conv=>whnf);rfl)
 . obtain rfl:i=en.length:=oA
   (try (conv=>whnf));repeat' (first|refine Ok.seq ?_|((first|refine Ok.region tok ?_|refine Ok.cond ?_|refine Ok.exit ?_);conv=>whnf)|(refine bI ?_ ?_<;>intro<;>first|omega|conv=>whnf)|fail)
   all_goals try omega
   exact⟨(),rfl,by (conv=>whnf);try rfl⟩
theorem aa4{Q:Exit->St->Prop}(er:List ER)(en:List EN)(et:List ET)(s1 s2 s3:List (List D))(h1:et.length<=300)(hT:∀ i e,et[i]? = some e->GrT i e)
    (hQ:Q .normal ⟨[(0,shD er en et s1 s2 s3)],[],[],Tryz.f30.ntmps⟩) :
    Ok Tryz.prog T (dI [1,1,1,0] (Tryz.f30.body.getD .ret)) Q ⟨[(0,shD er en et s1 s2 s3)],[],[],Tryz.f30.ntmps⟩:=by
 have m1:(er.map aZ).length=er.length:=sI;have m2:(en.map bg).length=en.length:=sI;have m3:(et.map bF).length=et.length:=sI;refine Ok.fC [0] 0 0 (fun _:Unit=>⟨[(0,shD er en et s1 s2 s3)],[],[],Tryz.f30.ntmps⟩) (fun e _=>e = .normal) ?_ ?_;rotate_left
 . rintro e _ rfl
   exact hQ
 (try (conv=>whnf));repeat' (first|refine Ok.seq ?_|(refine Ok.region tok ?_;conv=>whnf)|refine Ok.block ?_|fail)
 refine Ok.aT [0] [9] 0 0 (fun (i:Nat)=>[.i .i64 (i:Nat)]) (fun _ b=>b) (fun _ r=>r) (fun (i:Nat)=>i<=et.length) (fun (i:Nat)=>et.length - i) (0) (Nat.zero_le _) ?_;(conv=>whnf);refine⟨by ((conv=>whnf);first|rfl|(simp[ak,au,aj.row,ay];done)|(simp[ak,au,aj.row,ay];rw[IntKind.wrap_i64];omega)),?_⟩;intro i hi;(conv=>whnf);by_cases hil:i<et.length
 . obtain⟨e,he⟩:∃ e,et[i]? = some e:=⟨_,aC hil⟩
   have heI:et[((i:Nat):Int).toNat]? = some e:=he
   cases hT i e he with
   | mk n room no hno hn=>
    have hwl:=lg (fT no) n;have hw:∀ q:Nat,q<=3000096->IntKind.i64.wrap ((no:Int)+(q:Nat))=(no:Int)+(q:Nat):=fun q hq=>by rw[IntKind.wrap_i64];omega
    (try (conv=>whnf));repeat' (first|refine Ok.seq ?_|((first|refine Ok.region tok ?_|refine Ok.cond ?_);conv=>whnf)|refine Ok.block ?_|((first|refine Ok.skip ?_|refine ix _ aS ?_);conv=>whnf)|(refine bI ?_ ?_<;>intro<;>first|omega|conv=>whnf)|fail)
    all_goals try omega
    rw[hwl];refine Ok.aT [0,9,10] [11] 0 0 (fun (k:Nat)=>[.i .i64 (k:Nat)]) (fun _ b=>b) (fun _ r=>r) (fun (k:Nat)=>k<=n+96) (fun (k:Nat)=>n+96 - k) (0) (Nat.zero_le _) ?_;(conv=>whnf);refine⟨by ((conv=>whnf);first|rfl|(simp[ak,au,aj.row,ay];done)|(simp[ak,au,aj.row,ay];rw[IntKind.wrap_i64];omega)),?_⟩;intro k hk;(conv=>whnf);by_cases hkl:k<n+96
    . have hgk:(aY (fT no) n 96)[((k:Nat):Int).toNat]? = some ((fT no) (kT n k)):=Jh (fT no) hkl
      have hpl:=JU hn hkl;by_cases hkn:k<n
      . have hlk:(wrt (fT no) n)[((k:Nat):Int).toNat]? = some ((fT no) k):=yT (fT no) hkn
        repeat' (first|((first|refine And.intro (Int.natCast_nonneg k) ⟨_,hgk,?_⟩|refine And.intro (Int.natCast_nonneg k) ⟨_,hlk,?_⟩|refine⟨_,(hw (kT n k) oA).symm,?_⟩|refine⟨_,(hw k oA).symm,?_⟩|refine And.intro (Int.le_refl 0) ⟨_,rfl,?_⟩);conv=>whnf)|refine Ok.seq ?_|((first|refine Ok.region tok ?_|refine Ok.bH tok follows kR ?_|refine Ok.cond ?_);conv=>whnf)|refine Ok.block ?_|((first|refine Ok.skip ?_|refine Ok.ret ?_|refine nI ?_|refine ix _ aS ?_|refine⟨_,(yC n k oA oA).mono (fun _ _ h=>h.1),rfl,?_⟩);conv=>whnf)|(refine bI ?_ ?_<;>intro<;>first|omega|conv=>whnf)|fail)
        all_goals first
         | omega
         | (rename_i h;exact (h rfl).elim)
         | (rename_i h;exfalso;simp[dM,eqD] at h;done)
         | (refine⟨k+1,oA,oA,?_⟩
            (conv=>whnf);rfl)
      . (try (conv=>whnf));repeat' (first|((first|refine And.intro (Int.natCast_nonneg k) ⟨_,hgk,?_⟩|refine⟨_,(hw (kT n k) oA).symm,?_⟩|refine And.intro (Int.le_refl 0) ⟨_,rfl,?_⟩);conv=>whnf)|refine Ok.seq ?_|((first|refine Ok.region tok ?_|refine Ok.bH tok follows kR ?_|refine Ok.cond ?_);conv=>whnf)|refine Ok.block ?_|((first|refine Ok.skip ?_|refine Ok.ret ?_|refine nI ?_|refine ix _ aS ?_|refine⟨_,(yC n k oA oA).mono (fun _ _ h=>h.1),rfl,?_⟩);conv=>whnf)|(refine bI ?_ ?_<;>intro<;>first|omega|conv=>whnf)|fail)
        all_goals first
         | omega
         | (rename_i h;exact (h rfl).elim)
         | (rename_i h;exfalso;simp[dM,eqD] at h;done)
         | (refine⟨k+1,oA,oA,?_⟩
            (conv=>whnf);rfl)
    . obtain rfl:k=n+96:=oA
      (try (conv=>whnf));repeat' (first|refine Ok.seq ?_|((first|refine Ok.region tok ?_|refine Ok.cond ?_|refine Ok.exit ?_|refine nI ?_);conv=>whnf)|(refine bI ?_ ?_<;>intro<;>first|omega|conv=>whnf)|fail)
      all_goals first
       | omega
       | (refine⟨i+1,oA,oA,?_⟩
          (conv=>whnf);rfl)
 . obtain rfl:i=et.length:=oA
   (try (conv=>whnf));repeat' (first|refine Ok.seq ?_|((first|refine Ok.region tok ?_|refine Ok.cond ?_|refine Ok.exit ?_);conv=>whnf)|(refine bI ?_ ?_<;>intro<;>first|omega|conv=>whnf)|fail)
   all_goals try omega
   exact⟨(),rfl,by (conv=>whnf);try rfl⟩
theorem still_at(er:List ER)(en:List EN)(et:List ET)(s1 s2 s3:List (List D))(h1:er.length<=7000)(h2:en.length<=7000)(h3:et.length<=300)(hR:∀ i e,er[i]? = some e->GrR i e)(hN:∀ i e,en[i]? = some e->GrN i e)(hT:∀ i e,et[i]? = some e->GrT i e) :
    aF Tryz.prog T 30 [shD er en et s1 s2 s3] (fun d rows=>d = .b True/\rows=[]):=by
 refine aF.aB tok Tryz.func30 rfl Tryz.call30 sI ?_;(try (conv=>whnf));repeat' (first|(refine Ok.keep (c:=dI [1,0] (Tryz.f30.body.getD .ret)) [0] 0 0 ?_;(conv=>whnf);refine aa2 er en et s1 s2 s3 h1 hR ?_;(conv=>whnf))|(refine Ok.keep (c:=dI [1,1,0] (Tryz.f30.body.getD .ret)) [0] 0 0 ?_;(conv=>whnf);refine aa3 er en et s1 s2 s3 h2 hN ?_;(conv=>whnf))|(refine Ok.keep (c:=dI [1,1,1,0] (Tryz.f30.body.getD .ret)) [0] 0 0 ?_;(conv=>whnf);refine aa4 er en et s1 s2 s3 h3 hT ?_;(conv=>whnf))|refine Ok.seq ?_|((first|refine Ok.region tok ?_|refine Ok.ret ?_);conv=>whnf)|fail)
 refine Or.inl ?_;(conv=>whnf);exact⟨rfl,rfl⟩
theorem PL{α:Type}(k:Nat)(a:List α):(List.replicate (k+1) a).flatten=(List.replicate k a).flatten++a:=by
 rw[List.replicate_succ',List.flatten_append];simp
noncomputable def UO(w:Int)(l:List aj)(r2:List (List D))(rounds:Int)(c:Config):St:=
 ⟨[(0,.i .i64 w),(1,.lst 57 (l.map aj.row) r2),(3,.i .i64 rounds),(6,.bp 0 0),(9,.lst 57 (l.map aj.row) rmK),(10,.bp 1 0)],[c.row,[.own 0 0,.own 1 0,.own 2 0]],
  [some (72,[]),some (76,[]),some (136,[])],Tryz.f5.ntmps⟩
theorem ZI(w:Int)(l:List aj)(r2:List (List D))(hll:l.length<=60)(rounds:Int)(c:Config)
    (htb:iJ Tryz.prog T 8 [.agg c.row] (fun d M B=>M=[]/\zA c d B))(htL:(fV c).length<=16/\∀ m ∈ fV c,m.length<=3000000)
    (hnext:∀ (k:Nat) (er:List ER) (en:List EN) (et:List ET),2<=k->k<=200->er.length<=20*k->en.length<=4*k->et.length<=k->Shf er en et (List.replicate k (qG w l c)).flatten (List.replicate k qH).flatten ->
     OkB Tryz.prog T [] (lU 6 kpC) kpQ (sH w l r2 rounds c er en et k) [] (bkR er++(bkN en++bkT et))) :
    OkB Tryz.prog T [] (lU 5 kpC) kpQ (UO w l r2 rounds c) [] []:=by
 have hstep:=fun Q er en et i hel hnl htl R N hS hQ=>@ZH Q w l r2 hll rounds c htb er en et i hel hnl htl R N hS htL hQ
 unfold kpC at hstep hnext;unfold kpQ kpC;unfold sH at hstep hnext;unfold UO;(try (conv=>whnf));repeat' (first|refine OkB.seq ?_|(refine OkB.aA (OkM.region tok ?_);conv=>whnf)|refine OkB.block ?_|fail)
 refine OkB.aT [0,1,3,6,9,10] [11] 3 2 (fun (x:Nat × List ER × List EN × List ET)=>[.i .i64 (x.1:Nat)]) (fun (x:Nat × List ER × List EN × List ET) (_:List (List D))=>[c.row,[.own 0 x.2.1.length,.own 1 x.2.2.1.length,.own 2 x.2.2.2.length]]) (fun (x:Nat × List ER × List EN × List ET) (_:Vx.Rows)=>[some (72,x.2.1.map aZ),some (76,x.2.2.1.map bg),some (136,x.2.2.2.map bF)]) (fun (x:Nat × List ER × List EN × List ET)=>[]) (fun (x:Nat × List ER × List EN × List ET)=>bkR x.2.1++(bkN x.2.2.1++bkT x.2.2.2)) (fun (x:Nat × List ER × List EN × List ET)=>x.1<=200/\x.2.1.length<=20*x.1/\x.2.2.1.length<=4*x.1/\x.2.2.2.length<=x.1/\Shf x.2.1 x.2.2.1 x.2.2.2 (List.replicate x.1 (qG w l c)).flatten (List.replicate x.1 qH).flatten) (fun (x:Nat × List ER × List EN × List ET)=>200 - x.1) ((0,[],[],[])) (⟨sI,sI,sI,sI,⟨sI,sI,sI,sI,sI⟩⟩) sS sS ?_;(conv=>whnf);refine⟨by ((conv=>whnf);first|rfl|(simp[ak,au,aj.row,ay];done)|(simp[ak,au,aj.row,ay];rw[IntKind.wrap_i64];omega)),?_⟩;rintro⟨k,er,en,et⟩ ⟨hk,hrl,hnl,htl,hS⟩;dsimp only at hk hrl hnl htl hS ⊢;(conv=>whnf)
 repeat' (first|(refine OkB.keep (c:=dI [1,1,1,1,1,0,1,2,2,1,0,2] (Tryz.f5.body.getD .ret)) [0,1,3,6,9,10,11] 3 2 ?_;(conv=>whnf);refine jm ?_)|(refine OkB.keep (c:=lU 6 (Tryz.f5.body.getD .ret)) [0,1,3,6,9,10,11] 3 2 ?_;(conv=>whnf);refine jm ?_)|refine OkB.seq ?_|((first|refine OkB.aA (OkM.region tok ?_)|refine OkB.cond ?_);conv=>whnf)|refine OkB.block ?_|((first|refine OkB.skip ?_|refine OkB.exit ?_);conv=>whnf)|(refine bI ?_ ?_<;>intro<;>first|omega|conv=>whnf)|fail)
 all_goals first
  | exact⟨hnext k er en et oA hk hrl hnl htl hS⟩
  | (refine⟨hstep _ er en et k oA oA oA _ _ hS ?_⟩
     intro er' en' et' k1 k2 k3 hS';(conv=>whnf)
     repeat' (first|((first|refine OkB.aA (OkM.region tok ?_)|refine nI ?_);conv=>whnf)|fail)
     refine⟨(k+1,er',en',et'),by dsimp only;omega,⟨by dsimp only;omega,by dsimp only;omega,by dsimp only;omega,by dsimp only;omega,by dsimp only;rw[PL,PL];exact hS'⟩,.refl _,.refl _,?_⟩;(conv=>whnf);(first|rfl|simp[ak,au,aj.row,ay]);done)
theorem SE{α β:Type}{f:α->β}{l m:List α}{X:List β}{k:Nat}(hk:2<=k)(hl:l.map f=(List.replicate k X).flatten)(hm:m.map f=X){i:Nat}(hi:i<m.length):∃ a b,l[i]? = some a/\m[i]? = some b/\f a=f b:=by
 obtain⟨q,rfl⟩:∃ q,k=q+1:=⟨k - 1,oA⟩;rw[List.replicate_succ,List.flatten_cons] at hl;have hb:=aC hi;have h1:(m.map f)[i]? = some (f m[i]):=by rw[aN,hb];rfl
 have h2:(l.map f)[i]? = some (f m[i]):=by
  rw[hl,List.getElem?_append_left (by rw[<- hm,bV];exact hi),<- hm];exact h1
 rw[aN,Option.map_eq_some_iff] at h2;obtain⟨a,ha,he⟩:=h2;exact⟨a,_,ha,hb,he⟩
theorem kC.le{i:Nat}{e:ER}(h:kC i e):e.was.length<=3000000:=by
 cases h with
 | nil=>simp
 | raw g n c o m hn hl hb=>dsimp only;omega
theorem lV.le{i:Nat}{e:EN}(h:lV i e):e.was.length<=3000000:=by
 cases h with
 | nil=>simp
 | raw g n c o m hn hl hb=>dsimp only;omega
@[reducible] def shC(er:List ER)(en:List EN)(et:List ET):List D:=[.lst 72 (er.map aZ) [],.lst 76 (en.map bg) [],.lst 136 (et.map bF) []]
theorem ZJ(w:Int)(l:List aj)(r2:List (List D))(hll:l.length<=60)(c:Config)(er:List ER)(en:List EN)(et:List ET)(k:Nat)(hk:2<=k)(h1:er.length<=7000)(h2:en.length<=7000)(h3:et.length<=300)(hR:∀ i e,er[i]? = some e->GrR i e)(hN:∀ i e,en[i]? = some e->GrN i e)(hT:∀ i e,et[i]? = some e->GrT i e)
    (hwr:er.map ER.was=(List.replicate k (qG w l c)).flatten)(hwn:en.map EN.was=(List.replicate k qH).flatten)(er2:List ER)(en2:List EN)(et2:List ET)(hS:Shf er2 en2 et2 (qG w l c) qH)(g1:er2.length<=7000)(g2:en2.length<=7000) :
    OkB Tryz.prog T [] (lU 11 kpC) kpQ ⟨[(0,.i .i64 w),(1,.lst 57 (l.map aj.row) r2),(6,.bp 0 0),(9,.lst 57 (l.map aj.row) rmK),(10,.ep (shC er en et)),(12,.bp 1 0)],[c.row,[.own 0 er2.length,.own 1 en2.length,.own 2 et2.length]],
     [some (72,er2.map aZ),some (76,en2.map bg),some (136,et2.map bF)],Tryz.f5.ntmps⟩ [] []:=by
 have m1:(er2.map aZ).length=er2.length:=sI;have m2:(en2.map bg).length=en2.length:=sI;have m3:(er.map aZ).length=er.length:=sI;have m4:(en.map bg).length=en.length:=sI;have hun:=MG l r2 hll;have hst:=still_at er en et [] [] [] h1 h2 h3 hR hN hT;unfold kpC kpQ;(try (conv=>whnf));repeat' (first|refine OkB.seq ?_|(refine OkB.aA (OkM.region tok ?_);conv=>whnf)|refine OkB.block ?_|fail)
 refine OkB.aT [1,9,10,12] [13] 3 2 (fun (i:Nat)=>[.i .i64 (i:Nat)]) (fun _ b=>b) (fun _ r=>r) (fun (i:Nat)=>[]) (fun (i:Nat)=>[]) (fun (i:Nat)=>i<=er2.length) (fun (i:Nat)=>er2.length - i) (0) (Nat.zero_le _) sS sS ?_;(conv=>whnf);refine⟨by ((conv=>whnf);first|rfl|(simp[ak,au,aj.row,ay];done)|(simp[ak,au,aj.row,ay];rw[IntKind.wrap_i64];omega)),?_⟩;intro i hi;(conv=>whnf);by_cases hil:i<er2.length
 . obtain⟨a,b,ha,hb,hab⟩:=SE hk hwr hS.wr hil
   have haI:er[((i:Nat):Int).toNat]? = some a:=ha;have hbI:er2[((i:Nat):Int).toNat]? = some b:=hb;have hbl:=(hS.r i b hb).le;have hal:=DR b.was rmK rmK (l1:=b.was.map aj.row) (l2:=a.was.map aj.row) rfl (by rw[hab]) hbl;have hga:=hR i a ha;have hfb:=hS.r i b hb;cases hga;cases hfb
   all_goals
    (try (conv=>whnf));repeat' (first|refine OkB.seq ?_|((first|refine OkB.aA (OkM.region tok ?_)|refine OkB.aA (OkM.aB (Ok.aW (id:=20) tok follows [(3,16,[7,6,5]),(7,16,[]),(11,16,[15,14,13]),(15,16,[])] [.q 0,.q 1,.q 2,.q 3,.q 4,.q 5,.q 6,.q 7,.q 8,.q 9,.q 10,.q 11,.q 12,.q 13,.q 14,.q 15,.l 16,.q 17] kR ?_))|refine OkB.cond ?_);conv=>whnf)|refine OkB.block ?_|((first|refine OkB.skip ?_|refine OkB.ret ?_|refine nI ?_|refine ix _ aS ?_);conv=>whnf)|(refine Or.inl ?_;(conv=>whnf);(repeat (refine aI ?_;conv=>whnf));refine⟨_,hal.mono (fun _ _ h=>h.1),rfl,?_⟩;conv=>whnf)|(refine rd rfl aS ?_;conv=>whnf)|(refine bI ?_ ?_<;>intro<;>first|omega|conv=>whnf)|(refine aJ ?_;conv=>whnf)|fail)
    all_goals first
     | omega
     | exact absurd True.intro aS
     | (refine⟨i+1,oA,oA,.refl _,.refl _,?_⟩
        (conv=>whnf);(first|rfl|simp[ak,au,aj.row,ay]);done)
 . obtain rfl:i=er2.length:=oA
   (try (conv=>whnf));repeat' (first|refine OkB.seq ?_|((first|refine OkB.aA (OkM.region tok ?_)|refine OkB.cond ?_);conv=>whnf)|refine OkB.block ?_|(refine OkB.exit ?_;conv=>whnf)|(refine bI ?_ ?_<;>intro<;>first|omega|conv=>whnf)|fail)
   all_goals try omega
   refine OkB.aT [1,9,10,12] [14] 3 2 (fun (i:Nat)=>[.i .i64 (i:Nat)]) (fun _ b=>b) (fun _ r=>r) (fun (i:Nat)=>[]) (fun (i:Nat)=>[]) (fun (i:Nat)=>i<=en2.length) (fun (i:Nat)=>en2.length - i) (0) (Nat.zero_le _) sS sS ?_;(conv=>whnf);refine⟨by ((conv=>whnf);first|rfl|(simp[ak,au,aj.row,ay];done)|(simp[ak,au,aj.row,ay];rw[IntKind.wrap_i64];omega)),?_⟩;intro i hi;(conv=>whnf);by_cases hil:i<en2.length
   . obtain⟨a,b,ha,hb,hab⟩:=SE hk hwn hS.wn hil
     have haI:en[((i:Nat):Int).toNat]? = some a:=ha;have hbI:en2[((i:Nat):Int).toNat]? = some b:=hb;have hbl:=(hS.n i b hb).le;have hal:=Jc b.was [] [] (l1:=b.was.map ay) (l2:=a.was.map ay) rfl (by rw[hab]) hbl;have hga:=hN i a ha;have hfb:=hS.n i b hb;cases hga;cases hfb
     all_goals
      (try (conv=>whnf));repeat' (first|refine OkB.seq ?_|((first|refine OkB.aA (OkM.region tok ?_)|refine OkB.aA (OkM.aB (Ok.aW (id:=25) tok follows [(3,16,[7,6,5]),(7,16,[]),(11,16,[15,14,13]),(15,16,[])] [.q 0,.q 1,.q 2,.q 3,.q 4,.q 5,.q 6,.q 7,.q 8,.q 9,.q 10,.q 11,.q 12,.q 13,.q 14,.q 15,.l 16,.q 17] kR ?_))|refine OkB.cond ?_);conv=>whnf)|refine OkB.block ?_|((first|refine OkB.skip ?_|refine OkB.ret ?_|refine nI ?_|refine ix _ aS ?_);conv=>whnf)|(refine Or.inl ?_;(conv=>whnf);(repeat (refine aI ?_;conv=>whnf));refine⟨_,hal.mono (fun _ _ h=>h.1),rfl,?_⟩;conv=>whnf)|(refine rd rfl aS ?_;conv=>whnf)|(refine bI ?_ ?_<;>intro<;>first|omega|conv=>whnf)|(refine aJ ?_;conv=>whnf)|fail)
      all_goals first
       | omega
       | exact absurd True.intro aS
       | (refine⟨i+1,oA,oA,.refl _,.refl _,?_⟩
          (conv=>whnf);(first|rfl|simp[ak,au,aj.row,ay]);done)
   . obtain rfl:i=en2.length:=oA
     (try (conv=>whnf));repeat' (first|(refine Or.inl ?_;(conv=>whnf);refine Or.inl ?_;(conv=>whnf))|((first|refine Or.inl ?_|refine⟨.b True,hst.mono (fun _ _ h=>h.1),rfl,?_⟩|refine⟨.b True,hun.mono (fun _ _ h=>h.1),rfl,?_⟩);conv=>whnf)|refine OkB.seq ?_|((first|refine OkB.aA (OkM.region tok ?_)|refine OkB.cond ?_|refine OkB.exit ?_|refine OkB.ret ?_);conv=>whnf)|(refine bI ?_ ?_<;>intro<;>first|omega|conv=>whnf)|fail)
     all_goals first
      | exact absurd True.intro aS
      | omega
      | rfl
      | (refine Or.inl ?_;(conv=>whnf)
         rfl)
end Go.Proofs.YtnlingegeangmaaGreatDoor
