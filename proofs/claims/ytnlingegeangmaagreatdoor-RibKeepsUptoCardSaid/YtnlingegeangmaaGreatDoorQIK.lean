/- The walks and the plain laws that a law of networks needs, part 11. -/
import Derived.Test.YtnlingegeangmaaGreatDoorQIF
set_option linter.unusedVariables false
set_option linter.unusedSimpArgs false
set_option maxRecDepth 100000
set_option maxHeartbeats 16000000
namespace Go.Proofs.YtnlingegeangmaaGreatDoor
open Go Go.Vx
theorem SG{α:Type}(f:α->Nat){l:List α}{x:α}(hx:x ∈ l):f x<=(l.map f).sum:=by
 induction l with
 | nil=>cases hx
 | cons a l ih=>
  rw[List.map_cons,List.sum_cons];rcases List.mem_cons.1 hx with rfl|h
  . omega
  . have:=ih h;omega
theorem PN{c:bC}(h:(jL c).1=0):qW c.boxes<=64:=by
 have h1:=sU h 4 _ rfl;unfold zu at h1;split at h1
 . cases h1
 . dsimp only at *;omega
theorem aa5{c:Config}(h:(jL c.b).1=0){b:Box}(hb:b ∈ c.boxes.l):b.owns.l.length<=70:=by
 have h1:=PN h;have h2:b.owns.l.length+b.routes.l.length<=qW c.b.boxes:=SG (fun b:bf=>b.owns.length+b.routes.length) (List.mem_map.2 ⟨b,hb,rfl⟩:Box.b b ∈ c.b.boxes);omega
theorem aa6{c:Config}(h:(jL c.b).1=0)(ks:List Key)(i n:Nat):(dw c ks n i).length<=100+ks.length:=by
 have h1:(CU c i).length<=64:=by
  unfold CU;split
  . rename_i b hb
    have h1:=PN h;have h2:b.owns.l.length+b.routes.l.length<=qW c.b.boxes:=SG (fun b:bf=>b.owns.length+b.routes.length) (List.mem_map.2 ⟨b,aU hb,rfl⟩:Box.b b ∈ c.b.boxes);simp only[LU,List.length_append,bV];omega
  . simp
 have h2:∀ l:List Key,(l.flatMap (sF c i)).length<=l.length:=by
  intro l
  induction l with
  | nil=>simp
  | cons k l ih=>
   rw[List.flatMap_cons,List.length_append,List.length_cons];have:(sF c i k).length<=1:=by unfold sF;split<;>simp
   omega
 have h3:=h2 (ks.take n);have h4:(ks.take n).length<=ks.length:=by simp;omega
 unfold dw;rw[List.length_append];omega
theorem V3(c:Config)(hc:c.Ok)(ht:c.Tx):iJ Tryz.prog T 8 [.agg c.row] (fun d M B=>M=[]/\UN c d B):=by
 have hck:=IB Jz Jy c hc ht;by_cases h0:(fZ c.b).1=0
 case neg=>
  refine iJ.tab (T':=LV) (yS _ _) (iJ.aB (Gy .other rfl (.inl rfl)) Tryz.func8 rfl Tryz.call8 sI (OkB.tab (yS _ _).symm ?_));(try (conv=>whnf));repeat' (first|refine OkB.seq ?_|((first|refine OkB.aA (OkM.region tok ?_)|refine OkB.cond ?_|refine OkB.ret ?_);conv=>whnf)|(refine Or.inl ?_;(conv=>whnf);refine Or.inl ?_;(conv=>whnf);(repeat (refine aI ?_;conv=>whnf));refine⟨_,hck,rfl,?_⟩;conv=>whnf)|(refine bI ?_ ?_<;>intro<;>first|omega|conv=>whnf)|(refine aJ ?_;conv=>whnf)|fail)
  all_goals first
   | (exact .inl ⟨_,rfl,ZC h0⟩)
   | (exact absurd aS h0)
 rw[h0] at hck;obtain⟨hh,h1,h2,h3,h4,_⟩:=Dk h0;have hbn:=(qQ h1).1;have hbl:(c.boxes.l.map Box.row).length=c.boxes.l.length:=sI;have hfl:(c.fields.l.map SI.row).length=c.fields.l.length:=sI;have hfn:=hc.fields;have UQ:c.boxes.l.length<=16:=by simpa[Config.b] using hbn
 have hown:∀ b ∈ c.boxes.l,b.owns.l.length<=70:=fun b hb=>aa5 h1 hb
 refine iJ.tab (T':=LV) (yS _ _) (iJ.aB (Gy .other rfl (.inl rfl)) Tryz.func8 rfl Tryz.call8 sI (OkB.tab (yS _ _).symm ?_));(try (conv=>whnf));repeat' (first|(refine OkB.aA (OkM.aB (Ok.tab (c:=.region 4 _ _) (xQ 55 .other) (yS _ _) ?_));refine Ok.region (Gy .other rfl (.inl rfl)) ?_;conv=>whnf)|(refine OkB.go (c:=.region 6 _ _) (GoH.Uh (r:=0) .rnl rfl (fun V=>.rnl) ?_);conv=>whnf)|((refine OkB.go (c:=.region 6 _ _) (GoH.raw tok 6 500 (ti:=_) rfl rfl rfl sI (fun hx0=>?_) (fun g cap hgc=>?_))<;>(conv=>whnf)))|(refine OkB.go (c:=.ret) (GoH.close tok (t0:=500) (ti:=_) rfl rfl rfl (fun x hx=>by rw[(List.mem_replicate.1 hx).2];rfl) fun o ho=>?_);conv=>whnf)|(refine OkB.go (c:=.region 7 _ _) (GoH.Uh (r:=0) .rnl rfl (fun V=>.rnl) ?_);conv=>whnf)|refine OkB.seq ?_|((first|refine OkB.aA (OkM.region tok ?_)|refine OkB.cond ?_);conv=>whnf)|refine OkB.block ?_|((first|refine OkB.skip ?_|refine OkB.ret ?_);conv=>whnf)|(refine Or.inl ?_;(conv=>whnf);refine Or.inl ?_;(conv=>whnf);(repeat (refine aI ?_;conv=>whnf));refine⟨_,hck,rfl,?_⟩;conv=>whnf)|(refine⟨_,_,rfl,rfl,?_⟩;conv=>whnf)|(refine bI ?_ ?_<;>intro<;>first|omega|conv=>whnf)|((first|refine aJ ?_|refine⟨_,rfl,?_⟩);conv=>whnf)|fail)
 case refine_1.refine_1=>
  refine .inr (.inl ⟨_,rfl,?_⟩);rw[Sv h0 aS];have:=congrArg List.length hx0;rw[List.length_replicate,hbl] at this;rw[this];rfl
 case refine_1.refine_2=>
  refine .inr (.inr ⟨0,g,cap,List.replicate c.boxes.l.length none,o,?_,?_,?_,?_⟩)
  . show D.tup [.rsl g _ cap,_]=_
    rw[List.length_replicate,List.length_replicate,hbl]
  . rw[QU]
  . rw[List.length_replicate,hbl] at ho
    rw[List.length_replicate,List.map_replicate];exact ho
  . rw[Sv h0 aS]
    exact fK.start _
 rename_i hro;have hrt:c.b.routing ≠ []:=hro;obtain⟨fk,fb,f1,f2,f3,f4,f5,f6,f7⟩:=QB (Jw hh) hrt;have e0:(List.replicate (c.boxes.l.map Box.row).length [D.rnl])=(List.replicate c.boxes.l.length (none:Option Hd)).map cel:=by simp[cel,hdD]
 rw[e0];refine OkB.aT [1,6,33,34] [7,35] 1 1 (fun (x:Nat)=>[.i .i64 (if fk<x then fb.n else 0),.i .i64 (x:Nat)]) (fun (x:Nat) (_:List (List D))=>[c.row]) (fun (x:Nat) (_:Vx.Rows)=>[some (55,(List.replicate c.boxes.l.length (none:Option Hd)).map cel)]) (fun (x:Nat)=>[]) (fun (x:Nat)=>[]) (fun (x:Nat)=>x<=c.fields.l.length) (fun (x:Nat)=>c.fields.l.length - x) (0) (Nat.zero_le _) sS sS ?_;(conv=>whnf);refine⟨by ((conv=>whnf);first|rfl|(simp[ak, au, SI.row, Node.row, Pfx.row, Link.row, aG, Line.row, Rule.row, Box.row, Slc.row, Config.row, ay, bM, Prt.row, Eg.row, aj.row, cel];done)|(simp[ak, au, SI.row, Node.row, Pfx.row, Link.row, aG, Line.row, Rule.row, Box.row, Slc.row, Config.row, ay, bM, Prt.row, Eg.row, aj.row, cel];rw[IntKind.wrap_i64];omega)),?_⟩;rintro i hi;(conv=>whnf);by_cases hlt:i<c.fields.l.length
 . obtain⟨f,hf⟩:∃ f,c.fields.l[i]? = some f:=⟨_,aC hlt⟩
   have hfI:c.fields.l[((i:Nat):Int).toNat]? = some f:=hf;have hfr:(c.fields.l.map SI.row)[((i:Nat):Int).toNat]? = some f.row:=by rw[aN,hfI];rfl
   by_cases he:f.s=c.routing
   . obtain rfl:i=fk:=Zv (Jw hh) (c:=c.b) hf f2 (he.trans f3.symm)
     have hfb:f=fb:=by
      have:=hf.symm.trans f2;exact Option.some.inj this
     subst hfb;(try (conv=>whnf));repeat' (first|refine OkB.seq ?_|((first|refine OkB.aA (OkM.region tok ?_)|refine OkB.cond ?_);conv=>whnf)|refine OkB.block ?_|((first|refine OkB.skip ?_|refine nI ?_|refine ix _ aS ?_);conv=>whnf)|(refine bI ?_ ?_<;>intro<;>first|omega|conv=>whnf)|fail)
     all_goals first
      | (exfalso;rename_i hx;exact hx he)
      | (refine⟨i+1,oA,oA,.refl _,.refl _,?_⟩
         rw[show (if i<i+1 then f.n else 0)=f.n from if_pos oA];(conv=>whnf);(first|rfl|simp[ak, au, SI.row, Node.row, Pfx.row, Link.row, aG, Line.row, Rule.row, Box.row, Slc.row, Config.row, ay, bM, Prt.row, Eg.row, aj.row, cel]);done)
   . have hne:i ≠ fk:=by
       rintro rfl;have:=hf.symm.trans f2;cases this;exact he f3
     (try (conv=>whnf));repeat' (first|refine OkB.seq ?_|((first|refine OkB.aA (OkM.region tok ?_)|refine OkB.cond ?_);conv=>whnf)|refine OkB.block ?_|((first|refine OkB.skip ?_|refine nI ?_|refine ix _ aS ?_);conv=>whnf)|(refine bI ?_ ?_<;>intro<;>first|omega|conv=>whnf)|fail)
     all_goals first
      | (exfalso;rename_i hx;exact he hx)
      | (refine⟨i+1,oA,oA,.refl _,.refl _,?_⟩
         have e1:(if fk<i+1 then fb.n else 0)=if fk<i then fb.n else 0:=by
          by_cases h:fk<i
          . rw[if_pos h,if_pos oA]
          . rw[if_neg h,if_neg oA]
         rw[e1];(conv=>whnf);(first|rfl|simp[ak, au, SI.row, Node.row, Pfx.row, Link.row, aG, Line.row, Rule.row, Box.row, Slc.row, Config.row, ay, bM, Prt.row, Eg.row, aj.row, cel]);done)
 . obtain rfl:i=c.fields.l.length:=oA
   have hfk:fk<c.fields.l.length:=(aK.1 f2).1;rw[if_pos hfk];(try (conv=>whnf));repeat' (first|(refine OkB.region (id:=14) tok ?_;conv=>whnf)|refine OkB.seq ?_|((first|refine OkB.aA (OkM.region tok ?_)|refine OkB.cond ?_|refine OkB.exit ?_);conv=>whnf)|(refine bI ?_ ?_<;>intro<;>first|omega|conv=>whnf)|fail)
   refine Or.inr (Or.inr ?_);(conv=>whnf);refine⟨_,_,Tryz.func36,rfl,Tryz.call36,?_⟩;(conv=>whnf);refine OkB.wS [107,112,113] [4] 1 1 (fun (hs:List (Option Hd))=>[.i .i64 0]) (fun (hs:List (Option Hd)) (_:List (List D))=>[c.row]) (fun (hs:List (Option Hd)) (_:Vx.Rows)=>[some (55,hs.map cel)]) (fun (hs:List (Option Hd))=>[]) (fun (hs:List (Option Hd))=>bt hs) (fun e (hs:List (Option Hd))=>e = .ret/\fK 57 aj.row hs (wlF c c.boxes.l.length [])) ?_;(conv=>whnf);refine And.intro ?_ ?_
   . (try (conv=>whnf));repeat' (first|(refine⟨_,_,_,_,_,dH,fun _ _=>?_⟩;conv=>whnf)|(refine Or.inr (Or.inl ?_);(conv=>whnf);(repeat (refine aI ?_;conv=>whnf));refine⟨_,X5 c hc ht h0,?_⟩;rintro _ _ _ ⟨⟨rfl,rfl⟩,rfl⟩<;>(conv=>whnf))|refine OkB.seq ?_|((first|refine OkB.aA (OkM.region tok ?_)|refine OkB.cond ?_);conv=>whnf)|refine OkB.block ?_|(refine OkB.skip ?_;conv=>whnf)|(refine bI ?_ ?_<;>intro<;>first|omega|conv=>whnf)|fail)
     rename_i gn hgn;have hpn:(kL c.b).map Prt.name=aP c.b.boxes:=Np c.b _;have hpl:(kL c.b).length=(aP c.b.boxes).length:=by rw[<- hpn,bV]
     have hpm:((kL c.b).map Prt.row).length=(kL c.b).length:=sI;have ads:(kL c.b).length<=48:=by rw[hpl,zO];exact (qQ h1).2.1
     have hnd:=zJ h2;refine OkB.aT [1,2,7,25,26,107,112,113] [27] 2 2 (fun (x:Nat × List (Str × Int × Nat) × Nat)=>[.i .i64 (x.1:Nat)]) (fun (x:Nat × List (Str × Int × Nat) × Nat) (_:List (List D))=>[c.row,c.row]) (fun (x:Nat × List (Str × Int × Nat) × Nat) (_:Vx.Rows)=>[some (55,(List.replicate c.boxes.l.length (none:Option Hd)).map cel),some (147,(kL c.b).map Prt.row)]) (fun (x:Nat × List (Str × Int × Nat) × Nat)=>[(gn,bG D.s fI x.2.1 x.2.2)]) (fun (x:Nat × List (Str × Int × Nat) × Nat)=>[]) (fun (x:Nat × List (Str × Int × Nat) × Nat)=>x.1<=(kL c.b).length/\jX x.2.1 ((aP c.b.boxes).take x.1)) (fun (x:Nat × List (Str × Int × Nat) × Nat)=>(kL c.b).length - x.1) ((0,[],0)) (⟨Nat.zero_le _,jX.nil⟩) sS sS ?_;(conv=>whnf);refine⟨by ((conv=>whnf);first|rfl|(simp[ak, au, SI.row, Node.row, Pfx.row, Link.row, aG, Line.row, Rule.row, Box.row, Slc.row, Config.row, ay, bM, Prt.row, Eg.row, aj.row, cel];done)|(simp[ak, au, SI.row, Node.row, Pfx.row, Link.row, aG, Line.row, Rule.row, Box.row, Slc.row, Config.row, ay, bM, Prt.row, Eg.row, aj.row, cel];rw[IntKind.wrap_i64];omega)),?_⟩;rintro⟨k,l,cl⟩ ⟨hk,hl⟩;dsimp only at hk hl ⊢;(conv=>whnf);by_cases hkl:k<(kL c.b).length
     . obtain⟨p,hp⟩:∃ p,(kL c.b)[k]? = some p:=⟨_,aC hkl⟩
       have hpI:(kL c.b)[((k:Nat):Int).toNat]? = some p:=hp;have hfk:(aP c.b.boxes)[k]? = some p.name:=by rw[<- hpn,aN,hp];rfl
       repeat' (first|(refine⟨_,_,_,_,_,_,_,0,_,_,dH,rfl,rfl,rfl,?_⟩;conv=>whnf)|refine OkB.seq ?_|((first|refine OkB.aA (OkM.region tok ?_)|refine OkB.cond ?_);conv=>whnf)|refine OkB.block ?_|((first|refine OkB.skip ?_|refine nI ?_|refine rd rfl aS ?_);conv=>whnf)|(refine bI ?_ ?_<;>intro<;>first|omega|conv=>whnf)|(refine aJ ?_;conv=>whnf)|fail)
       refine⟨(k+1,(aX l cl p.name (k:Int)).1,(aX l cl p.name (k:Int)).2),by dsimp only;omega,⟨by dsimp only;omega,?_⟩,.refl _,.refl _,?_⟩
       . dsimp only
         rw[List.take_add_one,hfk];refine hl.new (fun hm=>?_) cl k sO;obtain⟨j,hj⟩:=List.getElem?_of_mem hm;have hjk:j<k:=by have:=(aK.1 hj).1;simp at this;omega
         rw[List.getElem?_take_of_lt hjk] at hj;have:=DJ hnd hj hfk;omega
       . (conv=>whnf);(first|rfl|simp[ak, au, SI.row, Node.row, Pfx.row, Link.row, aG, Line.row, Rule.row, Box.row, Slc.row, Config.row, ay, bM, Prt.row, Eg.row, aj.row, cel])
     . obtain rfl:k=(kL c.b).length:=oA
       rw[hpl,List.take_length] at hl;have hout:∀ b ∈ c.boxes.l,∀ p,p ∈ b.owns.l\/p ∈ b.routes.l->(lk l (dot b.name p.dst)).getD 0=Gw c b p:=by
        intro b hb p hp;have hbb:Box.b b ∈ c.b.boxes:=List.mem_map.2 ⟨b,hb,rfl⟩;have h5:=(abJ h3 hbb hp).out;have h6:dot b.name p.dst ∈ aP c.b.boxes:=oq.2 (.inr (List.mem_flatMap.2 ⟨Box.b b,hbb,List.mem_map.2 ⟨p.dst,h5,rfl⟩⟩));rw[(hl _).2 h6];rfl
       (try (conv=>whnf));repeat' (first|refine OkB.seq ?_|((first|refine OkB.aA (OkM.region tok ?_)|refine OkB.cond ?_);conv=>whnf)|refine OkB.block ?_|(refine OkB.exit ?_;conv=>whnf)|(refine bI ?_ ?_<;>intro<;>first|omega|conv=>whnf)|fail)
       refine OkB.aT [1,7,38,39,107,112,113] [40] 1 2 (fun (x:Nat × List (Option Hd))=>[.i .i64 (x.1:Nat)]) (fun (x:Nat × List (Option Hd)) (_:List (List D))=>[c.row,c.row]) (fun (x:Nat × List (Option Hd)) (_:Vx.Rows)=>[some (55,x.2.map cel)]) (fun (x:Nat × List (Option Hd))=>[(gn,bG D.s fI l cl)]) (fun (x:Nat × List (Option Hd))=>bt x.2) (fun (x:Nat × List (Option Hd))=>x.1<=c.boxes.l.length/\fK 57 aj.row x.2 (wlF c x.1 [])) (fun (x:Nat × List (Option Hd))=>c.boxes.l.length - x.1) ((0,List.replicate c.boxes.l.length none)) (⟨Nat.zero_le _,by rw[Zx];exact fK.start _⟩) sS sS ?_;(conv=>whnf);refine⟨by ((conv=>whnf);first|rfl|(simp[ak, au, SI.row, Node.row, Pfx.row, Link.row, aG, Line.row, Rule.row, Box.row, Slc.row, Config.row, ay, bM, Prt.row, Eg.row, aj.row, cel];done)|(simp[ak, au, SI.row, Node.row, Pfx.row, Link.row, aG, Line.row, Rule.row, Box.row, Slc.row, Config.row, ay, bM, Prt.row, Eg.row, aj.row, cel];rw[IntKind.wrap_i64];omega)),?_⟩;rintro⟨i,hs⟩ ⟨hi,hTI⟩;dsimp only at hi hTI ⊢;(conv=>whnf);have hsl:hs.length=c.boxes.l.length:=by rw[hTI.1];simp[wlF]
       have hcm:(hs.map cel).length=hs.length:=sI;by_cases hil:i<c.boxes.l.length
       . obtain⟨b,hb⟩:∃ b,c.boxes.l[i]? = some b:=⟨_,aC hil⟩
         have hbI:c.boxes.l[((i:Nat):Int).toNat]? = some b:=hb;have hbr:(c.boxes.l.map Box.row)[((i:Nat):Int).toNat]? = some b.row:=by rw[aN,hbI];rfl
         have hol:(b.owns.l.map Pfx.row).length=b.owns.l.length:=sI;have hrl:(b.routes.l.map Pfx.row).length=b.routes.l.length:=sI;have hbm:=aU hb;have hbo:=hc.box b hbm
         repeat' (first|refine OkB.seq ?_|((first|refine OkB.aA (OkM.region tok ?_)|refine OkB.cond ?_);conv=>whnf)|refine OkB.block ?_|((first|refine OkB.skip ?_|refine ix _ aS ?_);conv=>whnf)|(refine bI ?_ ?_<;>intro<;>first|omega|conv=>whnf)|fail)
         refine OkB.aT [1,7,10,11,38,39,40,46,47,107,112,113] [48] 1 3 (fun (y:Nat × List (Option Hd))=>[.i .i64 (y.1:Nat)]) (fun (y:Nat × List (Option Hd)) (_:List (List D))=>[c.row,c.row,b.row]) (fun (y:Nat × List (Option Hd)) (_:Vx.Rows)=>[some (55,y.2.map cel)]) (fun (y:Nat × List (Option Hd))=>[(gn,bG D.s fI l cl)]) (fun (y:Nat × List (Option Hd))=>bt y.2) (fun (y:Nat × List (Option Hd))=>y.1<=b.owns.l.length/\fK 57 aj.row y.2 (wlF c i ((b.owns.l.take y.1).map (rtO c b 1)))) (fun (y:Nat × List (Option Hd))=>b.owns.l.length - y.1) ((0,hs)) (⟨Nat.zero_le _,by simpa using hTI⟩) sS sS ?_;(conv=>whnf);refine⟨by ((conv=>whnf);first|rfl|(simp[ak, au, SI.row, Node.row, Pfx.row, Link.row, aG, Line.row, Rule.row, Box.row, Slc.row, Config.row, ay, bM, Prt.row, Eg.row, aj.row, cel];done)|(simp[ak, au, SI.row, Node.row, Pfx.row, Link.row, aG, Line.row, Rule.row, Box.row, Slc.row, Config.row, ay, bM, Prt.row, Eg.row, aj.row, cel];rw[IntKind.wrap_i64];omega)),?_⟩;clear hTI hsl hcm hs;rintro⟨m,hs⟩ ⟨hm,hTI⟩;dsimp only at hm hTI ⊢;have hsl:hs.length=c.boxes.l.length:=by rw[hTI.1];simp[wlF]
         have hcm:(hs.map cel).length=hs.length:=sI;(conv=>whnf);by_cases hml:m<b.owns.l.length
         . obtain⟨o,hoo⟩:∃ o,b.owns.l[m]? = some o:=⟨_,aC hml⟩
           have hoI:b.owns.l[((m:Nat):Int).toNat]? = some o:=hoo;have hor:(b.owns.l.map Pfx.row)[((m:Nat):Int).toNat]? = some o.row:=by rw[aN,hoI];rfl
           have hrw:(lk l (dot b.name o.dst)).getD 0=Gw c b o:=hout b hbm o (.inl (aU hoo));have hn1:b.name.length<=1048576:=(ht.boxes b hbm).name;have ho1:o.dst.length<=1048576:=((ht.boxes b hbm).owns o (aU hoo)).dst;have hoL:=hbo.owns;have hz:aj.row (rtO c b 1 o)=[.i .i64 1,.i .i64 o.value,.i .i64 o.len,.i .i64 ((lk l (dot b.name o.dst)).getD 0)]:=by rw[hrw];rfl
           have hnx:fK 57 aj.row hs (wlF c i ((b.owns.l.take m).map (rtO c b 1)))->∀ x:Hd,fP (ah T) 57 x.n x.c (((b.owns.l.take m).map (rtO c b 1)++[rtO c b 1 o]).map aj.row) x.o->fK 57 aj.row (hs.set i (some x)) (wlF c i ((b.owns.l.take (m+1)).map (rtO c b 1))):=fun h x hx=>by
            have:=h.set (i:=i) hx;rw[Sm] at this;rw[List.take_add_one,hoo,List.map_append];exact this
           have hLl:((b.owns.l.take m).map (rtO c b 1)).length<=3000000:=by simp;omega
           rcases hcell:hs[i]? with _|_|h
           . have:=List.getElem?_eq_none_iff.1 hcell
             omega
           . have hle:(b.owns.l.take m).map (rtO c b 1)=[]:=hTI.2 i none _ hcell (EZ _ hil)
             (try (conv=>whnf));repeat' (first|((first|refine rd rfl hcell ?_|refine⟨_,_,_,_,_,_,_,_,dH,.head _,rfl,?_⟩);conv=>whnf)|(refine⟨500,?_⟩;(conv=>whnf);refine⟨sI,_,.inl ⟨rfl,rfl⟩,?_⟩;(conv=>whnf);refine⟨sI,sI,[aj.row (rtO c b 1 o)],1,by rw[hz];rfl,rfl,fun g' c' hc'=>?_⟩;(conv=>whnf))|((first|refine st (some ⟨g',1,c',obD⟩:Option Hd) hcell (by simp[cel]) rfl ?_|refine OkB.go (c:=.region 17 _ _) (GoH.close tok (t0:=500) (ti:=_) rfl rfl rfl (jw [rtO c b 1 o]) fun o' ho'=>?_));conv=>whnf)|(refine OkB.perm (c:=.region 17 _ _) (Ed hcell ⟨g',1,c',o'⟩) ?_)|refine OkB.seq ?_|((first|refine OkB.aA (OkM.region tok ?_)|refine OkB.aA (OkM.dP (id:=16) tok follows [(12,17,[16,13]),(15,17,[16]),(7,19,[18]),(9,19,[18]),(12,19,[18,17,16,13]),(15,19,[18,17,16]),(17,19,[18]),(2,20,[5,4]),(3,20,[5,4]),(4,20,[5]),(5,20,[]),(6,20,[19,18,7]),(7,20,[19,18]),(8,20,[19,18,9]),(9,20,[19,18]),(10,20,[19,18,17]),(11,20,[19,18,17,16,13,12]),(12,20,[19,18,17,16,13]),(13,20,[19,18,17,16]),(14,20,[19,18,17,16,15]),(15,20,[19,18,17,16]),(16,20,[19,18,17]),(17,20,[19,18]),(18,20,[19]),(19,20,[]),(5,22,[]),(7,22,[]),(9,22,[]),(12,22,[]),(15,22,[]),(17,22,[]),(19,22,[]),(20,22,[])] (.q 0 (.q 1 (.q 2 (.q 3 (.q 4 (.q 5 (.q 6 (.q 7 (.q 8 (.q 9 (.q 10 (.q 11 (.q 12 (.q 13 (.q 14 (.q 15 (.q 16 (.l 17 (.q 18 (.l 19 (.l 20 (.q 21 (.l 22 .nil))))))))))))))))))))))) kR ?_)|refine OkB.cond ?_);conv=>whnf)|refine OkB.block ?_|((first|refine OkB.skip ?_|refine nI ?_|refine ix _ aS ?_);conv=>whnf)|(refine bI ?_ ?_<;>intro<;>first|omega|conv=>whnf)|(refine aJ ?_;conv=>whnf)|fail)
             refine⟨(m+1,hs.set i (some ⟨g',1,c',o'⟩)),by dsimp only;omega,⟨by dsimp only;omega,hnx hTI ⟨g',1,c',o'⟩ (by rw[hle];exact ho')⟩,.refl _,.refl _,?_⟩;rw[oD hs i g' 1 c' o' obD];(conv=>whnf);(first|rfl|simp[ak, au, SI.row, Node.row, Pfx.row, Link.row, aG, Line.row, Rule.row, Box.row, Slc.row, Config.row, ay, bM, Prt.row, Eg.row, aj.row, cel])
           . have hbk:=hTI.2 i (some h) _ hcell (EZ _ hil)
             have hnl:=(vY hbk).1;have hml':(((b.owns.l.take m).map (rtO c b 1)).map aj.row).length=((b.owns.l.take m).map (rtO c b 1)).length:=by simp only[bV]
             (try (conv=>whnf));repeat' (first|(refine OkB.perm (c:=.region 16 _ _) (Fv hcell) ?_)|((first|refine OkB.go (c:=.region 16 _ _) (GoH.open 500 hbk ?_)|refine rd rfl hcell ?_|refine⟨_,_,_,_,_,_,_,_,dH,.head _,rfl,?_⟩|refine⟨500,501,1,rfl,?_⟩);conv=>whnf)|(refine⟨((b.owns.l.take m).map (rtO c b 1)++[rtO c b 1 o]).map aj.row,h.n+1,by rw[List.map_append,List.map_singleton,hz];rfl,by rw[bV,List.length_append,List.length_singleton];omega,?_⟩;conv=>whnf)|(refine⟨fun _=>?_,fun _=>⟨1,by (conv=>whnf);exact True.intro,fun g' c' hc'=>?_⟩⟩<;>(conv=>whnf))|((first|refine st (some ⟨g',h.n+1,c',obD⟩:Option Hd) hcell (by simp[cel]) rfl ?_|refine st (some ⟨h.g,h.n+1,h.c,obD⟩:Option Hd) hcell (by simp[cel]) rfl ?_|refine OkB.go (c:=.region 17 _ _) (GoH.close tok (t0:=501) (ti:=_) rfl rfl rfl (jw _) fun o' ho'=>?_)|refine OkB.go (c:=.region 17 _ _) (GoH.close tok (t0:=500) (ti:=_) rfl rfl rfl (jw _) fun o' ho'=>?_));conv=>whnf)|(refine OkB.perm (c:=.region 17 _ _) (uj (h:=⟨g',h.n+1,c',o'⟩) oA) ?_)|(refine OkB.perm (c:=.region 17 _ _) (uj (h:=⟨h.g,h.n+1,h.c,o'⟩) oA) ?_)|refine OkB.seq ?_|((first|refine OkB.aA (OkM.region tok ?_)|refine OkB.aA (OkM.dP (id:=16) tok follows [(12,17,[16,13]),(15,17,[16]),(7,19,[18]),(9,19,[18]),(12,19,[18,17,16,13]),(15,19,[18,17,16]),(17,19,[18]),(2,20,[5,4]),(3,20,[5,4]),(4,20,[5]),(5,20,[]),(6,20,[19,18,7]),(7,20,[19,18]),(8,20,[19,18,9]),(9,20,[19,18]),(10,20,[19,18,17]),(11,20,[19,18,17,16,13,12]),(12,20,[19,18,17,16,13]),(13,20,[19,18,17,16]),(14,20,[19,18,17,16,15]),(15,20,[19,18,17,16]),(16,20,[19,18,17]),(17,20,[19,18]),(18,20,[19]),(19,20,[]),(5,22,[]),(7,22,[]),(9,22,[]),(12,22,[]),(15,22,[]),(17,22,[]),(19,22,[]),(20,22,[])] (.q 0 (.q 1 (.q 2 (.q 3 (.q 4 (.q 5 (.q 6 (.q 7 (.q 8 (.q 9 (.q 10 (.q 11 (.q 12 (.q 13 (.q 14 (.q 15 (.q 16 (.l 17 (.q 18 (.l 19 (.l 20 (.q 21 (.l 22 .nil))))))))))))))))))))))) kR ?_)|refine OkB.cond ?_);conv=>whnf)|refine OkB.block ?_|((first|refine OkB.skip ?_|refine nI ?_|refine ix _ aS ?_|refine⟨_,.inl ⟨rfl,rfl⟩,?_⟩);conv=>whnf)|(refine bI ?_ ?_<;>intro<;>first|omega|conv=>whnf)|(refine aJ ?_;conv=>whnf)|fail)
             all_goals first
              | (refine⟨(m+1,hs.set i (some ⟨g',h.n+1,c',o'⟩)),by dsimp only;omega,⟨by dsimp only;omega,hnx hTI ⟨g',h.n+1,c',o'⟩ ho'⟩,.refl _,.refl _,?_⟩
                 rw[oD hs i g' (h.n+1) c' o' obD];(conv=>whnf);(first|rfl|simp[ak, au, SI.row, Node.row, Pfx.row, Link.row, aG, Line.row, Rule.row, Box.row, Slc.row, Config.row, ay, bM, Prt.row, Eg.row, aj.row, cel]);done)
              | (refine⟨(m+1,hs.set i (some ⟨h.g,h.n+1,h.c,o'⟩)),by dsimp only;omega,⟨by dsimp only;omega,hnx hTI ⟨h.g,h.n+1,h.c,o'⟩ ho'⟩,.refl _,.refl _,?_⟩
                 rw[oD hs i h.g (h.n+1) h.c o' obD];(conv=>whnf);(first|rfl|simp[ak, au, SI.row, Node.row, Pfx.row, Link.row, aG, Line.row, Rule.row, Box.row, Slc.row, Config.row, ay, bM, Prt.row, Eg.row, aj.row, cel]);done)
         . obtain rfl:m=b.owns.l.length:=oA
           rw[List.take_length] at hTI;(try (conv=>whnf));repeat' (first|refine OkB.seq ?_|((first|refine OkB.aA (OkM.region tok ?_)|refine OkB.cond ?_);conv=>whnf)|refine OkB.block ?_|(refine OkB.exit ?_;conv=>whnf)|(refine bI ?_ ?_<;>intro<;>first|omega|conv=>whnf)|fail)
           refine OkB.aT [1,7,10,11,38,39,40,76,77,107,112,113] [78] 1 3 (fun (y:Nat × List (Option Hd))=>[.i .i64 (y.1:Nat)]) (fun (y:Nat × List (Option Hd)) (_:List (List D))=>[c.row,c.row,b.row]) (fun (y:Nat × List (Option Hd)) (_:Vx.Rows)=>[some (55,y.2.map cel)]) (fun (y:Nat × List (Option Hd))=>[(gn,bG D.s fI l cl)]) (fun (y:Nat × List (Option Hd))=>bt y.2) (fun (y:Nat × List (Option Hd))=>y.1<=b.routes.l.length/\fK 57 aj.row y.2 (wlF c i (b.owns.l.map (rtO c b 1)++(b.routes.l.take y.1).map (rtO c b 2)))) (fun (y:Nat × List (Option Hd))=>b.routes.l.length - y.1) ((0,hs)) (⟨Nat.zero_le _,by simpa using hTI⟩) sS sS ?_;(conv=>whnf);refine⟨by ((conv=>whnf);first|rfl|(simp[ak, au, SI.row, Node.row, Pfx.row, Link.row, aG, Line.row, Rule.row, Box.row, Slc.row, Config.row, ay, bM, Prt.row, Eg.row, aj.row, cel];done)|(simp[ak, au, SI.row, Node.row, Pfx.row, Link.row, aG, Line.row, Rule.row, Box.row, Slc.row, Config.row, ay, bM, Prt.row, Eg.row, aj.row, cel];rw[IntKind.wrap_i64];omega)),?_⟩;clear hTI hsl hcm hs;rintro⟨m,hs⟩ ⟨hm,hTI⟩;dsimp only at hm hTI ⊢;have hsl:hs.length=c.boxes.l.length:=by rw[hTI.1];simp[wlF]
           have hcm:(hs.map cel).length=hs.length:=sI;(conv=>whnf);by_cases hml:m<b.routes.l.length
           . obtain⟨o,hoo⟩:∃ o,b.routes.l[m]? = some o:=⟨_,aC hml⟩
             have hoI:b.routes.l[((m:Nat):Int).toNat]? = some o:=hoo;have hor:(b.routes.l.map Pfx.row)[((m:Nat):Int).toNat]? = some o.row:=by rw[aN,hoI];rfl
             have hrw:(lk l (dot b.name o.dst)).getD 0=Gw c b o:=hout b hbm o (.inr (aU hoo));have hn1:b.name.length<=1048576:=(ht.boxes b hbm).name;have ho1:o.dst.length<=1048576:=((ht.boxes b hbm).routes o (aU hoo)).dst;have hoL:=hbo.owns;have hoR:=hbo.routes;have hz:aj.row (rtO c b 2 o)=[.i .i64 2,.i .i64 o.value,.i .i64 o.len,.i .i64 ((lk l (dot b.name o.dst)).getD 0)]:=by rw[hrw];rfl
             have hnx:fK 57 aj.row hs (wlF c i (b.owns.l.map (rtO c b 1)++(b.routes.l.take m).map (rtO c b 2)))->∀ x:Hd,fP (ah T) 57 x.n x.c ((b.owns.l.map (rtO c b 1)++(b.routes.l.take m).map (rtO c b 2)++[rtO c b 2 o]).map aj.row) x.o->fK 57 aj.row (hs.set i (some x)) (wlF c i (b.owns.l.map (rtO c b 1)++(b.routes.l.take (m+1)).map (rtO c b 2))):=fun h x hx=>by
              have:=h.set (i:=i) hx;rw[Sm] at this;rw[List.take_add_one,hoo,List.map_append,<- List.append_assoc];exact this
             have hLl:(b.owns.l.map (rtO c b 1)++(b.routes.l.take m).map (rtO c b 2)).length<=3000000:=by simp;omega
             rcases hcell:hs[i]? with _|_|h
             . have:=List.getElem?_eq_none_iff.1 hcell
               omega
             . have hle:b.owns.l.map (rtO c b 1)++(b.routes.l.take m).map (rtO c b 2)=[]:=hTI.2 i none _ hcell (EZ _ hil)
               (try (conv=>whnf));repeat' (first|((first|refine rd rfl hcell ?_|refine⟨_,_,_,_,_,_,_,_,dH,.head _,rfl,?_⟩);conv=>whnf)|(refine⟨500,?_⟩;(conv=>whnf);refine⟨sI,_,.inl ⟨rfl,rfl⟩,?_⟩;(conv=>whnf);refine⟨sI,sI,[aj.row (rtO c b 2 o)],1,by rw[hz];rfl,rfl,fun g' c' hc'=>?_⟩;(conv=>whnf))|((first|refine st (some ⟨g',1,c',obD⟩:Option Hd) hcell (by simp[cel]) rfl ?_|refine OkB.go (c:=.region 22 _ _) (GoH.close tok (t0:=500) (ti:=_) rfl rfl rfl (jw [rtO c b 2 o]) fun o' ho'=>?_));conv=>whnf)|(refine OkB.perm (c:=.region 22 _ _) (Ed hcell ⟨g',1,c',o'⟩) ?_)|refine OkB.seq ?_|((first|refine OkB.aA (OkM.region tok ?_)|refine OkB.aA (OkM.dP (id:=21) tok follows [(12,17,[16,13]),(15,17,[16]),(7,19,[18]),(9,19,[18]),(12,19,[18,17,16,13]),(15,19,[18,17,16]),(17,19,[18]),(2,20,[5,4]),(3,20,[5,4]),(4,20,[5]),(5,20,[]),(6,20,[19,18,7]),(7,20,[19,18]),(8,20,[19,18,9]),(9,20,[19,18]),(10,20,[19,18,17]),(11,20,[19,18,17,16,13,12]),(12,20,[19,18,17,16,13]),(13,20,[19,18,17,16]),(14,20,[19,18,17,16,15]),(15,20,[19,18,17,16]),(16,20,[19,18,17]),(17,20,[19,18]),(18,20,[19]),(19,20,[]),(5,22,[]),(7,22,[]),(9,22,[]),(12,22,[]),(15,22,[]),(17,22,[]),(19,22,[]),(20,22,[])] (.q 0 (.q 1 (.q 2 (.q 3 (.q 4 (.q 5 (.q 6 (.q 7 (.q 8 (.q 9 (.q 10 (.q 11 (.q 12 (.q 13 (.q 14 (.q 15 (.q 16 (.l 17 (.q 18 (.l 19 (.l 20 (.q 21 (.l 22 .nil))))))))))))))))))))))) kR ?_)|refine OkB.cond ?_);conv=>whnf)|refine OkB.block ?_|((first|refine OkB.skip ?_|refine nI ?_|refine ix _ aS ?_);conv=>whnf)|(refine bI ?_ ?_<;>intro<;>first|omega|conv=>whnf)|(refine aJ ?_;conv=>whnf)|fail)
               refine⟨(m+1,hs.set i (some ⟨g',1,c',o'⟩)),by dsimp only;omega,⟨by dsimp only;omega,hnx hTI ⟨g',1,c',o'⟩ (by rw[hle];exact ho')⟩,.refl _,.refl _,?_⟩;rw[oD hs i g' 1 c' o' obD];(conv=>whnf);(first|rfl|simp[ak, au, SI.row, Node.row, Pfx.row, Link.row, aG, Line.row, Rule.row, Box.row, Slc.row, Config.row, ay, bM, Prt.row, Eg.row, aj.row, cel])
             . have hbk:=hTI.2 i (some h) _ hcell (EZ _ hil)
               have hnl:=(vY hbk).1;have hml':((b.owns.l.map (rtO c b 1)++(b.routes.l.take m).map (rtO c b 2)).map aj.row).length=(b.owns.l.map (rtO c b 1)++(b.routes.l.take m).map (rtO c b 2)).length:=by simp only[bV]
               (try (conv=>whnf));repeat' (first|(refine OkB.perm (c:=.region 21 _ _) (Fv hcell) ?_)|((first|refine OkB.go (c:=.region 21 _ _) (GoH.open 500 hbk ?_)|refine rd rfl hcell ?_|refine⟨_,_,_,_,_,_,_,_,dH,.head _,rfl,?_⟩|refine⟨500,501,1,rfl,?_⟩);conv=>whnf)|(refine⟨(b.owns.l.map (rtO c b 1)++(b.routes.l.take m).map (rtO c b 2)++[rtO c b 2 o]).map aj.row,h.n+1,by rw[List.map_append,List.map_singleton,hz];rfl,by rw[bV,List.length_append,List.length_singleton];omega,?_⟩;conv=>whnf)|(refine⟨fun _=>?_,fun _=>⟨1,by (conv=>whnf);exact True.intro,fun g' c' hc'=>?_⟩⟩<;>(conv=>whnf))|((first|refine st (some ⟨g',h.n+1,c',obD⟩:Option Hd) hcell (by simp[cel]) rfl ?_|refine st (some ⟨h.g,h.n+1,h.c,obD⟩:Option Hd) hcell (by simp[cel]) rfl ?_|refine OkB.go (c:=.region 22 _ _) (GoH.close tok (t0:=501) (ti:=_) rfl rfl rfl (jw _) fun o' ho'=>?_)|refine OkB.go (c:=.region 22 _ _) (GoH.close tok (t0:=500) (ti:=_) rfl rfl rfl (jw _) fun o' ho'=>?_));conv=>whnf)|(refine OkB.perm (c:=.region 22 _ _) (uj (h:=⟨g',h.n+1,c',o'⟩) oA) ?_)|(refine OkB.perm (c:=.region 22 _ _) (uj (h:=⟨h.g,h.n+1,h.c,o'⟩) oA) ?_)|refine OkB.seq ?_|((first|refine OkB.aA (OkM.region tok ?_)|refine OkB.aA (OkM.dP (id:=21) tok follows [(12,17,[16,13]),(15,17,[16]),(7,19,[18]),(9,19,[18]),(12,19,[18,17,16,13]),(15,19,[18,17,16]),(17,19,[18]),(2,20,[5,4]),(3,20,[5,4]),(4,20,[5]),(5,20,[]),(6,20,[19,18,7]),(7,20,[19,18]),(8,20,[19,18,9]),(9,20,[19,18]),(10,20,[19,18,17]),(11,20,[19,18,17,16,13,12]),(12,20,[19,18,17,16,13]),(13,20,[19,18,17,16]),(14,20,[19,18,17,16,15]),(15,20,[19,18,17,16]),(16,20,[19,18,17]),(17,20,[19,18]),(18,20,[19]),(19,20,[]),(5,22,[]),(7,22,[]),(9,22,[]),(12,22,[]),(15,22,[]),(17,22,[]),(19,22,[]),(20,22,[])] (.q 0 (.q 1 (.q 2 (.q 3 (.q 4 (.q 5 (.q 6 (.q 7 (.q 8 (.q 9 (.q 10 (.q 11 (.q 12 (.q 13 (.q 14 (.q 15 (.q 16 (.l 17 (.q 18 (.l 19 (.l 20 (.q 21 (.l 22 .nil))))))))))))))))))))))) kR ?_)|refine OkB.cond ?_);conv=>whnf)|refine OkB.block ?_|((first|refine OkB.skip ?_|refine nI ?_|refine ix _ aS ?_|refine⟨_,.inl ⟨rfl,rfl⟩,?_⟩);conv=>whnf)|(refine bI ?_ ?_<;>intro<;>first|omega|conv=>whnf)|(refine aJ ?_;conv=>whnf)|fail)
               all_goals first
                | (refine⟨(m+1,hs.set i (some ⟨g',h.n+1,c',o'⟩)),by dsimp only;omega,⟨by dsimp only;omega,hnx hTI ⟨g',h.n+1,c',o'⟩ ho'⟩,.refl _,.refl _,?_⟩
                   rw[oD hs i g' (h.n+1) c' o' obD];(conv=>whnf);(first|rfl|simp[ak, au, SI.row, Node.row, Pfx.row, Link.row, aG, Line.row, Rule.row, Box.row, Slc.row, Config.row, ay, bM, Prt.row, Eg.row, aj.row, cel]);done)
                | (refine⟨(m+1,hs.set i (some ⟨h.g,h.n+1,h.c,o'⟩)),by dsimp only;omega,⟨by dsimp only;omega,hnx hTI ⟨h.g,h.n+1,h.c,o'⟩ ho'⟩,.refl _,.refl _,?_⟩
                   rw[oD hs i h.g (h.n+1) h.c o' obD];(conv=>whnf);(first|rfl|simp[ak, au, SI.row, Node.row, Pfx.row, Link.row, aG, Line.row, Rule.row, Box.row, Slc.row, Config.row, ay, bM, Prt.row, Eg.row, aj.row, cel]);done)
           . obtain rfl:m=b.routes.l.length:=oA
             rw[List.take_length] at hTI;(try (conv=>whnf));repeat' (first|refine OkB.seq ?_|((first|refine OkB.aA (OkM.region tok ?_)|refine OkB.cond ?_|refine OkB.exit ?_|refine nI ?_);conv=>whnf)|(refine bI ?_ ?_<;>intro<;>first|omega|conv=>whnf)|fail)
             refine⟨(i+1,hs),by dsimp only;omega,⟨by dsimp only;omega,by dsimp only;rw[<- Zw hb];exact hTI⟩,.refl _,.refl _,?_⟩;(conv=>whnf);(first|rfl|simp[ak, au, SI.row, Node.row, Pfx.row, Link.row, aG, Line.row, Rule.row, Box.row, Slc.row, Config.row, ay, bM, Prt.row, Eg.row, aj.row, cel])
       . obtain rfl:i=c.boxes.l.length:=oA
         (try (conv=>whnf));repeat' (first|refine OkB.seq ?_|((first|refine OkB.aA (OkM.region tok ?_)|refine OkB.cond ?_|refine OkB.exit ?_|refine OkB.ret ?_);conv=>whnf)|(refine bI ?_ ?_<;>intro<;>first|omega|conv=>whnf)|fail)
         refine⟨hs,⟨rfl,hTI⟩,List.nil_sublist _,.refl _,?_⟩;(conv=>whnf);(first|rfl|simp[ak, au, SI.row, Node.row, Pfx.row, Link.row, aG, Line.row, Rule.row, Box.row, Slc.row, Config.row, ay, bM, Prt.row, Eg.row, aj.row, cel])
   . rintro e hs ⟨he,hTI⟩
     subst he;(conv=>whnf)
     repeat' (first|(refine OkB.region (id:=17) tok ?_;conv=>whnf)|refine OkB.seq ?_|((first|refine OkB.aA (OkM.region tok ?_)|refine OkB.cond ?_|refine OkB.skip ?_);conv=>whnf)|(refine bI ?_ ?_<;>intro<;>first|omega|conv=>whnf)|fail)
     refine Or.inr (Or.inr ?_);(conv=>whnf);refine⟨_,_,Tryz.func37,rfl,Tryz.call37,?_⟩;(conv=>whnf);refine OkB.wS [85,90,91] [4] 1 1 (fun (x:Int × List (Option Hd))=>[.i .i64 x.1]) (fun (x:Int × List (Option Hd)) (_:List (List D))=>[c.row]) (fun (x:Int × List (Option Hd)) (_:Vx.Rows)=>[some (55,x.2.map cel)]) (fun (x:Int × List (Option Hd))=>[]) (fun (x:Int × List (Option Hd))=>bt x.2) (fun e (x:Int × List (Option Hd))=>e = .ret/\x.2.length=c.boxes.l.length/\((x.1=0/\(∀ k ∈ ksF c,eP c.boxes.l.length (dS c.b) (byF (dJ c.boxes.l c.boxes.l.length) k)=0)/\fK 57 aj.row x.2 (clF c (ksF c) (ksF c).length 0))\/(x.1 ≠ 0/\¬ ∀ k ∈ ksF c,eP c.boxes.l.length (dS c.b) (byF (dJ c.boxes.l c.boxes.l.length) k)=0))) ?_;(conv=>whnf);refine And.intro ?_ ?_
     . have hel:=Zt h4
       have hll:=(qQ h1).2.2.1;have hem:((dS c.b).map Eg.row).length=(dS c.b).length:=sI;(try (conv=>whnf));repeat' (first|(refine OkB.region (id:=4) tok ?_;conv=>whnf)|(refine Or.inr (Or.inl ?_);(conv=>whnf);(repeat (refine aI ?_;conv=>whnf));refine⟨_,Yd c hc ht h0,?_⟩;rintro _ _ _ ⟨⟨rfl,rfl⟩,rfl⟩<;>(conv=>whnf))|(refine Or.inr (Or.inl ?_);(conv=>whnf);(repeat (refine aI ?_;conv=>whnf));refine⟨_,Yc c hc oA hown , ?_⟩;rintro _ _ _ ⟨gm,l,cl,ks,rfl,rfl,rfl,hO,hks,hkn,hpw⟩<;>(conv=>whnf))|refine OkB.seq ?_|((first|refine OkB.aA (OkM.region tok ?_)|refine OkB.cond ?_);conv=>whnf)|refine OkB.block ?_|(refine OkB.skip ?_;conv=>whnf)|(refine bI ?_ ?_<;>intro<;>first|omega|conv=>whnf)|fail)
       have hkm:(ks.map bM).length=ks.length:=sI;refine OkB.aT [1,2,5,7,28,29,85,90,91] [30] 2 2 (fun (x:Nat × List (Option Hd) × iw × Nat)=>[.i .i64 (x.1:Nat)]) (fun (x:Nat × List (Option Hd) × iw × Nat) (_:List (List D))=>[c.row,c.row]) (fun (x:Nat × List (Option Hd) × iw × Nat) (_:Vx.Rows)=>[some (55,x.2.1.map cel),some (122,(dS c.b).map Eg.row)]) (fun (x:Nat × List (Option Hd) × iw × Nat)=>[(gm,bG kP fS x.2.2.1 x.2.2.2)]) (fun (x:Nat × List (Option Hd) × iw × Nat)=>bo x.2.2.1++bt x.2.1) (fun (x:Nat × List (Option Hd) × iw × Nat)=>x.1<=ks.length/\fK 57 aj.row x.2.1 (clF c ks x.1 0)/\(∀ k ∈ ks.take x.1,eP c.boxes.l.length (dS c.b) (byF (dJ c.boxes.l c.boxes.l.length) k)=0)/\OI (dJ c.boxes.l c.boxes.l.length) x.2.2.1 x.2.2.2) (fun (x:Nat × List (Option Hd) × iw × Nat)=>ks.length - x.1) ((0,hs,l,cl)) (⟨Nat.zero_le _,by rw[ZA];exact hTI,sI,hO⟩) sS sS ?_;(conv=>whnf);refine⟨by ((conv=>whnf);first|rfl|(simp[ak, au, SI.row, Node.row, Pfx.row, Link.row, aG, Line.row, Rule.row, Box.row, Slc.row, Config.row, ay, bM, Prt.row, Eg.row, aj.row, cel];done)|(simp[ak, au, SI.row, Node.row, Pfx.row, Link.row, aG, Line.row, Rule.row, Box.row, Slc.row, Config.row, ay, bM, Prt.row, Eg.row, aj.row, cel];rw[IntKind.wrap_i64];omega)),?_⟩;have Gu:∀ k,k ∈ ks ↔ byF (dJ c.boxes.l c.boxes.l.length) k ≠ []:=by
        intro k;rw[hks k];rcases hO.cases k with⟨q1,q2⟩|⟨x,q1,q2,_⟩
        . rw[q1,q2];simp
        . rw[q1];simp[q2]
       have hkF:=abL hpw Gu;clear hO hks hTI hs l cl;rintro⟨n,hs,l,cl⟩ ⟨hn,hTI,hgr,hO⟩;dsimp only at hn hTI hgr hO ⊢;(conv=>whnf);have hsl:hs.length=c.boxes.l.length:=by rw[hTI.1];simp[clF]
       by_cases hnl:n<ks.length
       . obtain⟨k,hk⟩:∃ k,ks[n]? = some k:=⟨_,aC hnl⟩
         have hkI:ks[((n:Nat):Int).toNat]? = some k:=hk;have hkr:(ks.map bM)[((n:Nat):Int).toNat]? = some (bM k):=by rw[aN,hkI];rfl
         have hkk:=aU hk;obtain⟨h,hlk,hne,hbk⟩:∃ x:Hd,lk l k=some (some x)/\byF (dJ c.boxes.l c.boxes.l.length) k ≠ []/\fP (ah T) 3 x.n x.c ((byF (dJ c.boxes.l c.boxes.l.length) k).map ay) x.o:=by
          rcases hO.cases k with⟨_,q2⟩|q
          . exact absurd q2 ((Gu k).1 hkk)
          . exact q
         have hhn:=(vY hbk).1;have hsp:aF Tryz.prog T 61 [.i .i64 ((c.boxes.l.map Box.row).length:Nat),.lst 122 (((dS c.b).map Eg.row).take (dS c.b).length) (((dS c.b).map Eg.row).drop (dS c.b).length),.lst 3 (((byF (dJ c.boxes.l c.boxes.l.length) k).map ay).take h.n) (((byF (dJ c.boxes.l c.boxes.l.length) k).map ay).drop h.n)]
             (fun d rows=>rows=[some (3,(oU c k).map ay),some (3,(qF c k).map ay)]/\d = .tup [.own 0 (oU c k).length,.own 1 (qF c k).length,.i .i64 (eP c.boxes.l.length (dS c.b) (byF (dJ c.boxes.l c.boxes.l.length) k))]):=by
          have:=Dl (c.boxes.l.map Box.row).length (dS c.b) (byF (dJ c.boxes.l c.boxes.l.length) k) (re:=((dS c.b).map Eg.row).take (dS c.b).length) (se:=((dS c.b).map Eg.row).drop (dS c.b).length) (rd:=((byF (dJ c.boxes.l c.boxes.l.length) k).map ay).take h.n) (sd:=((byF (dJ c.boxes.l c.boxes.l.length) k).map ay).drop h.n) (tu _ _) (au oA);rw[hbl] at this ⊢;exact this
         (try (conv=>whnf));repeat' (first|(refine OkB.perm (c:=.region 8 _ _) ((TF hlk).append_right _) ?_)|(refine OkB.go (c:=.region 8 _ _) (GoH.open 500 hbk ?_);conv=>whnf)|(refine⟨_,_,_,_,_,_,_,k,qE,.head _,rfl,?_⟩;rw[hlk];conv=>whnf)|(refine Or.inl ?_;(conv=>whnf);refine Or.inr (Or.inr (Or.inr ?_));(conv=>whnf);refine bW.rF 2 500 rfl rfl rfl (Nat.le_refl _) ?_;refine bW.iK (ts:=[3,102,74]) Tryz.call61 ?_;(conv=>whnf);(repeat (refine aI ?_;conv=>whnf));refine⟨_,hsp,?_⟩;rintro _ _ ⟨rfl,rfl⟩;(refine And.intro (by simp[iy,grounds,D.ground,ay]) ?_;conv=>whnf))|(refine OkB.go (c:=.region 9 _ _) (GoH.close tok (t0:=500) (ti:=_) rfl rfl rfl (qI _) fun o' ho'=>?_);conv=>whnf)|(refine OkB.perm (c:=.region 9 _ _) ((F8 l cl k ⟨h.g,h.n,h.c,o'⟩).append_right _) ?_)|refine OkB.seq ?_|((first|refine OkB.aA (OkM.region tok ?_)|refine OkB.aA (OkM.dP (id:=8) tok follows [(5,6,[]),(1,7,[2]),(5,7,[6]),(6,7,[])] (.q 0 (.q 1 (.q 2 (.q 3 (.q 4 (.q 5 (.l 6 (.l 7 (.q 8 (.q 9 (.q 10 (.q 11 (.q 12 (.q 13 (.q 14 .nil))))))))))))))) kR ?_)|refine OkB.cond ?_);conv=>whnf)|refine OkB.block ?_|((first|refine OkB.skip ?_|refine OkB.ret ?_|refine ix _ aS ?_);conv=>whnf)|(refine bI ?_ ?_<;>intro<;>first|omega|conv=>whnf)|fail)
         case refine_1.refine_1=>
          refine⟨(eP c.boxes.l.length (dS c.b) (byF (dJ c.boxes.l c.boxes.l.length) k),hs),⟨rfl,hsl,.inr ⟨aS,fun hall=>absurd (hall k (hkF.symm ▸ hkk)) aS⟩⟩,List.nil_sublist _,List.sublist_append_right _ _,?_⟩;(conv=>whnf);(first|rfl|simp[ak, au, SI.row, Node.row, Pfx.row, Link.row, aG, Line.row, Rule.row, Box.row, Slc.row, Config.row, ay, bM, Prt.row, Eg.row, aj.row, cel])
         rename_i hgz;have hgz:eP c.boxes.l.length (dS c.b) (byF (dJ c.boxes.l c.boxes.l.length) k)=0:=Classical.not_not.1 hgz;have hO':=hO.re hlk ho';have hob:=Zl kP cl hlk o';obtain⟨l',hl'⟩:∃ l',l'=(aX l cl k (some ⟨h.g,h.n,h.c,o'⟩)).1:=⟨_,rfl⟩;obtain⟨cl',hcl'⟩:∃ cl',cl'=(aX l cl k (some ⟨h.g,h.n,h.c,o'⟩)).2:=⟨_,rfl⟩;rw[<- hl',<- hcl'] at hO' hob;rw[<- hl',<- hob];obtain⟨hd,hf,hce⟩:=ZB (ks:=[k]) (fun k' hk'=>by rw[List.mem_singleton.1 hk'];exact hgz) (List.mem_singleton.2 rfl);have adt:((oU c k).map ay).length=(oU c k).length:=sI;have acP:((qF c k).map ay).length=(qF c k).length:=sI;have adu:=hd.len;have adv:=hf.1;have hrl:∀ j n,(dw c ks n j).length<=3000000:=fun j n=>by
          have:=aa6 h1 ks j n;omega
         refine OkB.aT [1,2,5,7,10,11,12,28,29,30,51,85,90,91] [52] 5 3 (fun (x:Nat × List (Option Hd))=>[.i .i64 (x.1:Nat)]) (fun (x:Nat × List (Option Hd)) (_:List (List D))=>[c.row,c.row,bM k]) (fun (x:Nat × List (Option Hd)) (_:Vx.Rows)=>[some (55,x.2.map cel),some (122,(dS c.b).map Eg.row),none,some (3,(oU c k).map ay),some (3,(qF c k).map ay)]) (fun (x:Nat × List (Option Hd))=>[(gm,bG kP fS l' cl')]) (fun (x:Nat × List (Option Hd))=>bo l'++bt x.2) (fun (x:Nat × List (Option Hd))=>x.1<=c.boxes.l.length/\fK 57 aj.row x.2 (clF c ks n x.1)) (fun (x:Nat × List (Option Hd))=>c.boxes.l.length - x.1) ((0,hs)) (⟨Nat.zero_le _,hTI⟩) sS sS ?_;(conv=>whnf);refine⟨by ((conv=>whnf);first|rfl|(simp[ak, au, SI.row, Node.row, Pfx.row, Link.row, aG, Line.row, Rule.row, Box.row, Slc.row, Config.row, ay, bM, Prt.row, Eg.row, aj.row, cel];done)|(simp[ak, au, SI.row, Node.row, Pfx.row, Link.row, aG, Line.row, Rule.row, Box.row, Slc.row, Config.row, ay, bM, Prt.row, Eg.row, aj.row, cel];rw[IntKind.wrap_i64];omega)),?_⟩;clear hTI hsl hs;rintro⟨j,hs⟩ ⟨hj,hTI⟩;dsimp only at hj hTI ⊢;have hsl:hs.length=c.boxes.l.length:=by rw[hTI.1];simp[clF]
         have hcm:(hs.map cel).length=hs.length:=sI;(conv=>whnf);by_cases hjl:j<c.boxes.l.length
         . obtain⟨xj,hfj⟩:∃ xj,(oU c k)[j]? = some xj:=⟨_,aC oA⟩
           have LZ:(oU c k)[((j:Nat):Int).toNat]? = some xj:=hfj;by_cases hpos:0<xj
           . obtain⟨jj,ed,hpj,hed⟩:∃ (jj:Nat) (ed:Eg),(qF c k)[j]? = some (jj:Int)/\(dS c.b)[jj]? = some ed:=by
               have hfi:=hf.2 j _ (aC oA);rcases hfi with⟨_,hno⟩|⟨i',hi',_,UC,⟨e,x',y,g1,_⟩,_⟩
               . exfalso
                 rcases hd.tight j xj hfj oA with⟨q0,_⟩|⟨e,he,q2,y,q3,q4,q5⟩
                 . omega
                 . obtain⟨i',hi'⟩:=List.getElem?_of_mem he
                   exact hno i' (Nat.zero_le _) (aK.1 hi').1 ⟨e,xj,y,hi',oA,q3,q4,hfj,q5⟩
               . exact⟨i',e,by rw[aC oA,hi'],g1⟩
             have UR:(qF c k)[((j:Nat):Int).toNat]? = some (jj:Int):=hpj;have UU:(dS c.b)[((jj:Nat):Int).toNat]? = some ed:=hed;have hjj:jj<(dS c.b).length:=(aK.1 hed).1;have hcr:sF c j k=[(⟨3,k.1,k.2,ed.out⟩:aj)]:=by
              unfold sF;rw[hfj,if_pos (by simpa using hpos)];unfold UL;rw[hpj,Option.getD_some,Int.toNat_natCast,hed];rfl
             have hrs:=PI (c:=c) hk j;rw[hcr] at hrs;have hz:aj.row (⟨3,k.1,k.2,ed.out⟩:aj)=[.i .i64 3,.i .i64 k.1,.i .i64 k.2,.i .i64 ed.out]:=rfl;have hnx:fK 57 aj.row hs (clF c ks n j)->∀ x:Hd,fP (ah T) 57 x.n x.c ((dw c ks n j++[(⟨3,k.1,k.2,ed.out⟩:aj)]).map aj.row) x.o->fK 57 aj.row (hs.set j (some x)) (clF c ks n (j+1)):=fun h x hx=>by
              rw[<- hrs] at hx;have:=h.set (i:=j) hx;rwa [Sr] at this
             have hLl:(dw c ks n j).length<=3000000:=hrl j n;rcases hcell:hs[j]? with _|_|h
             . have:=List.getElem?_eq_none_iff.1 hcell
               omega
             . have hle:dw c ks n j=[]:=hTI.2 j none _ hcell (JE hjl)
               (try (conv=>whnf));repeat' (first|((first|refine rd rfl LZ ?_|refine rd rfl hcell ?_|refine rd rfl UR ?_|refine rd rfl UU ?_);conv=>whnf)|(refine⟨500,?_⟩;(conv=>whnf);refine⟨sI,_,.inl ⟨rfl,rfl⟩,?_⟩;(conv=>whnf);refine⟨sI,sI,[aj.row (⟨3,k.1,k.2,ed.out⟩:aj)],1,rfl,rfl,fun g' c' hc'=>?_⟩;(conv=>whnf))|((first|refine st (some ⟨g',1,c',obD⟩:Option Hd) hcell (by simp[cel]) rfl ?_|refine OkB.go (c:=.region 16 _ _) (GoH.close tok (t0:=500) (ti:=_) rfl rfl rfl (jw [(⟨3,k.1,k.2,ed.out⟩:aj)]) fun o'' CW=>?_));conv=>whnf)|(refine OkB.perm (c:=.region 16 _ _) (abI _ hcell ⟨g',1,c',o''⟩) ?_)|refine OkB.seq ?_|((first|refine OkB.aA (OkM.region tok ?_)|refine OkB.aA (OkM.aB (Ok.aW (id:=15) tok follows [(7,19,[18]),(9,19,[18]),(14,19,[18,17,16,15]),(17,19,[18]),(2,20,[5,4]),(3,20,[5,4]),(4,20,[5]),(5,20,[]),(6,20,[19,18,7]),(7,20,[19,18]),(8,20,[19,18,9]),(9,20,[19,18]),(10,20,[19,18,17,16,15]),(11,20,[19,18,17,16,15,14,13]),(12,20,[19,18,17,16,15,14,13]),(13,20,[19,18,17,16,15,14]),(14,20,[19,18,17,16,15]),(15,20,[19,18,17,16]),(16,20,[19,18,17]),(17,20,[19,18]),(18,20,[19]),(19,20,[]),(5,22,[]),(7,22,[]),(9,22,[]),(14,22,[]),(17,22,[]),(19,22,[]),(20,22,[])] [.q 0,.q 1,.q 2,.q 3,.q 4,.q 5,.q 6,.q 7,.q 8,.q 9,.q 10,.q 11,.q 12,.q 13,.q 14,.q 15,.q 16,.q 17,.q 18,.l 19,.l 20,.q 21,.l 22] kR ?_))|refine OkB.cond ?_);conv=>whnf)|refine OkB.block ?_|((first|refine OkB.skip ?_|refine nI ?_);conv=>whnf)|(refine bI ?_ ?_<;>intro<;>first|omega|conv=>whnf)|(refine aJ ?_;conv=>whnf)|fail)
               all_goals first
                | (exfalso;rename_i hx;exact hx hpos)
                | (refine⟨(j+1,hs.set j (some ⟨g',1,c',o''⟩)),by dsimp only;omega,⟨by dsimp only;omega,hnx hTI ⟨g',1,c',o''⟩ (by rw[hle];exact CW)⟩,.refl _,.refl _,?_⟩
                   rw[oD hs j g' 1 c' o'' obD];(conv=>whnf);(first|rfl|simp[ak, au, SI.row, Node.row, Pfx.row, Link.row, aG, Line.row, Rule.row, Box.row, Slc.row, Config.row, ay, bM, Prt.row, Eg.row, aj.row, cel]);done)
             . have hbk:=hTI.2 j (some h) _ hcell (JE hjl)
               have hnl:=(vY hbk).1;have hml':((dw c ks n j).map aj.row).length=(dw c ks n j).length:=by simp only[bV]
               (try (conv=>whnf));repeat' (first|(refine rd rfl LZ ?_;conv=>whnf)|(refine OkB.perm (c:=.region 15 _ _) (abH _ hcell) ?_)|((first|refine OkB.go (c:=.region 15 _ _) (GoH.open 500 hbk ?_)|refine rd rfl hcell ?_|refine rd rfl UR ?_|refine rd rfl UU ?_|refine⟨500,501,5,rfl,?_⟩);conv=>whnf)|(refine⟨(dw c ks n j++[(⟨3,k.1,k.2,ed.out⟩:aj)]).map aj.row,h.n+1,by rw[List.map_append,List.map_singleton];rfl,by rw[bV,List.length_append,List.length_singleton];omega,?_⟩;conv=>whnf)|(refine⟨fun _=>?_,fun _=>⟨5,by (conv=>whnf);exact True.intro,fun g' c' hc'=>?_⟩⟩<;>(conv=>whnf))|((first|refine st (some ⟨g',h.n+1,c',obD⟩:Option Hd) hcell (by simp[cel]) rfl ?_|refine st (some ⟨h.g,h.n+1,h.c,obD⟩:Option Hd) hcell (by simp[cel]) rfl ?_|refine OkB.go (c:=.region 16 _ _) (GoH.close tok (t0:=501) (ti:=_) rfl rfl rfl (jw _) fun o'' CW=>?_)|refine OkB.go (c:=.region 16 _ _) (GoH.close tok (t0:=500) (ti:=_) rfl rfl rfl (jw _) fun o'' CW=>?_));conv=>whnf)|(refine OkB.perm (c:=.region 16 _ _) (Ug _ ⟨g',h.n+1,c',o''⟩ oA) ?_)|(refine OkB.perm (c:=.region 16 _ _) (Ug _ ⟨h.g,h.n+1,h.c,o''⟩ oA) ?_)|refine OkB.seq ?_|((first|refine OkB.aA (OkM.region tok ?_)|refine OkB.aA (OkM.aB (Ok.aW (id:=15) tok follows [(7,19,[18]),(9,19,[18]),(14,19,[18,17,16,15]),(17,19,[18]),(2,20,[5,4]),(3,20,[5,4]),(4,20,[5]),(5,20,[]),(6,20,[19,18,7]),(7,20,[19,18]),(8,20,[19,18,9]),(9,20,[19,18]),(10,20,[19,18,17,16,15]),(11,20,[19,18,17,16,15,14,13]),(12,20,[19,18,17,16,15,14,13]),(13,20,[19,18,17,16,15,14]),(14,20,[19,18,17,16,15]),(15,20,[19,18,17,16]),(16,20,[19,18,17]),(17,20,[19,18]),(18,20,[19]),(19,20,[]),(5,22,[]),(7,22,[]),(9,22,[]),(14,22,[]),(17,22,[]),(19,22,[]),(20,22,[])] [.q 0,.q 1,.q 2,.q 3,.q 4,.q 5,.q 6,.q 7,.q 8,.q 9,.q 10,.q 11,.q 12,.q 13,.q 14,.q 15,.q 16,.q 17,.q 18,.l 19,.l 20,.q 21,.l 22] kR ?_))|refine OkB.cond ?_);conv=>whnf)|refine OkB.block ?_|((first|refine OkB.skip ?_|refine nI ?_|refine⟨_,.inl ⟨rfl,rfl⟩,?_⟩);conv=>whnf)|(refine bI ?_ ?_<;>intro<;>first|omega|conv=>whnf)|(refine aJ ?_;conv=>whnf)|fail)
               all_goals first
                | (exfalso;rename_i hx;exact hx hpos)
                | (refine⟨(j+1,hs.set j (some ⟨g',h.n+1,c',o''⟩)),by dsimp only;omega,⟨by dsimp only;omega,hnx hTI ⟨g',h.n+1,c',o''⟩ CW⟩,.refl _,.refl _,?_⟩
                   rw[oD hs j g' (h.n+1) c' o'' obD];(conv=>whnf);(first|rfl|simp[ak, au, SI.row, Node.row, Pfx.row, Link.row, aG, Line.row, Rule.row, Box.row, Slc.row, Config.row, ay, bM, Prt.row, Eg.row, aj.row, cel]);done)
                | (refine⟨(j+1,hs.set j (some ⟨h.g,h.n+1,h.c,o''⟩)),by dsimp only;omega,⟨by dsimp only;omega,hnx hTI ⟨h.g,h.n+1,h.c,o''⟩ CW⟩,.refl _,.refl _,?_⟩
                   rw[oD hs j h.g (h.n+1) h.c o'' obD];(conv=>whnf);(first|rfl|simp[ak, au, SI.row, Node.row, Pfx.row, Link.row, aG, Line.row, Rule.row, Box.row, Slc.row, Config.row, ay, bM, Prt.row, Eg.row, aj.row, cel]);done)
           . have hcr:sF c j k=[]:=by
               unfold sF;rw[hfj,if_neg (by simpa using hpos)]
             have hrs:=PI (c:=c) hk j;rw[hcr,List.append_nil] at hrs;(try (conv=>whnf));repeat' (first|(refine rd rfl LZ ?_;conv=>whnf)|refine OkB.seq ?_|((first|refine OkB.aA (OkM.region tok ?_)|refine OkB.cond ?_);conv=>whnf)|refine OkB.block ?_|((first|refine OkB.skip ?_|refine nI ?_);conv=>whnf)|(refine bI ?_ ?_<;>intro<;>first|omega|conv=>whnf)|(refine aJ ?_;conv=>whnf)|fail)
             all_goals first
              | (exfalso;rename_i hx;exact hpos hx)
              | (refine⟨(j+1,hs),by dsimp only;omega,⟨by dsimp only;omega,by dsimp only;rw[Zy hrs];exact hTI⟩,.refl _,.refl _,?_⟩
                 (conv=>whnf);(first|rfl|simp[ak, au, SI.row, Node.row, Pfx.row, Link.row, aG, Line.row, Rule.row, Box.row, Slc.row, Config.row, ay, bM, Prt.row, Eg.row, aj.row, cel]);done)
         . obtain rfl:j=c.boxes.l.length:=oA
           (try (conv=>whnf));repeat' (first|refine OkB.seq ?_|((first|refine OkB.aA (OkM.region tok ?_)|refine OkB.cond ?_|refine OkB.exit ?_|refine nI ?_);conv=>whnf)|(refine bI ?_ ?_<;>intro<;>first|omega|conv=>whnf)|fail)
           refine⟨(n+1,hs,l',cl'),by dsimp only;omega,⟨by dsimp only;omega,by dsimp only;rw[<- Zz];exact hTI,?_,hO'⟩,.refl _,.refl _,?_⟩
           . dsimp only
             rw[List.take_add_one,hk];intro k' hk';rcases bQ.1 hk' with hk'|hk'
             . exact hgr k' hk'
             . have:k'=k:=by simpa using hk'
               rw[this];exact hgz
           . (conv=>whnf);(first|rfl|simp[ak, au, SI.row, Node.row, Pfx.row, Link.row, aG, Line.row, Rule.row, Box.row, Slc.row, Config.row, ay, bM, Prt.row, Eg.row, aj.row, cel])
       . obtain rfl:n=ks.length:=oA
         rw[List.take_length] at hgr;(try (conv=>whnf));repeat' (first|refine OkB.seq ?_|((first|refine OkB.aA (OkM.region tok ?_)|refine OkB.cond ?_|refine OkB.exit ?_|refine OkB.ret ?_);conv=>whnf)|(refine bI ?_ ?_<;>intro<;>first|omega|conv=>whnf)|fail)
         refine⟨(0,hs),⟨rfl,hsl,.inl ⟨rfl,by rw[hkF];exact hgr,by rw[hkF];exact hTI⟩⟩,List.nil_sublist _,List.sublist_append_right _ _,?_⟩;(conv=>whnf);(first|rfl|simp[ak, au, SI.row, Node.row, Pfx.row, Link.row, aG, Line.row, Rule.row, Box.row, Slc.row, Config.row, ay, bM, Prt.row, Eg.row, aj.row, cel])
     . rintro e ⟨ce,hs⟩ ⟨he,hsl,hok⟩
       subst he;dsimp only at hsl hok ⊢;(conv=>whnf);rcases hok with⟨hce,hgr,hTI⟩|⟨hce,hng⟩
       case inr=>
        (try (conv=>whnf));repeat' (first|refine OkB.seq ?_|((first|refine OkB.aA (OkM.region tok ?_)|refine OkB.cond ?_|refine OkB.ret ?_);conv=>whnf)|(refine bI ?_ ?_<;>intro<;>first|omega|conv=>whnf)|(refine aJ ?_;conv=>whnf)|fail)
        all_goals first
         | (exact absurd aS hce)
         | (exact .inl ⟨_,rfl,ZE h0 hrt hng⟩)
       subst hce;obtain⟨ks,hkE⟩:∃ ks,ksF c=ks:=⟨_,rfl⟩;rw[hkE] at hgr hTI;have htab:=ZF hkE h0 hrt hgr;have hcm:(hs.map cel).length=hs.length:=sI;have CV:fK 57 aj.row hs (ku c ks 0):=by rw[Ye];exact hTI
       by_cases hsm:c.gB
       . have hnext:=QS c UQ ks hs 39 Tryz.call39 fb.n (fun j rl sl h=>by
           have:=EC fb.n (dw c ks ks.length j) (rows:=rl) (room:=sl) h;rw[<- f4] at this ⊢;unfold kV;rw[if_pos hsm];exact this) CV htab
         rw[show hs.length=(c.boxes.l.map Box.row).length by rw[hbl];exact hsl] at hnext;(try (conv=>whnf));repeat' (first|(refine OkB.keep (c:=lU 10 (Tryz.f8.body.getD .ret)) [1,6,7,12] 1 1 ?_;(conv=>whnf);exact hnext)|refine OkB.seq ?_|((first|refine OkB.aA (OkM.region tok ?_)|refine OkB.cond ?_);conv=>whnf)|refine OkB.block ?_|(refine OkB.skip ?_;conv=>whnf)|(refine bI ?_ ?_<;>intro<;>first|omega|conv=>whnf)|fail)
         all_goals first
          | (exfalso;first|exact (by assumption:¬ c.gB) hsm|exact hsm aS)
       . have hnext:=QS c UQ ks hs 38 Tryz.call38 fb.n (fun j rl sl h=>by
           have:=Ac fb.n (dw c ks ks.length j) (rl:=rl) (sl:=sl) h;rw[<- f4] at this ⊢;unfold kV;rw[if_neg hsm];exact this) CV htab
         rw[show hs.length=(c.boxes.l.map Box.row).length by rw[hbl];exact hsl] at hnext;(try (conv=>whnf));repeat' (first|(refine OkB.keep (c:=lU 10 (Tryz.f8.body.getD .ret)) [1,6,7,12] 1 1 ?_;(conv=>whnf);exact hnext)|refine OkB.seq ?_|((first|refine OkB.aA (OkM.region tok ?_)|refine OkB.cond ?_);conv=>whnf)|refine OkB.block ?_|(refine OkB.skip ?_;conv=>whnf)|(refine bI ?_ ?_<;>intro<;>first|omega|conv=>whnf)|fail)
         all_goals first
          | (exfalso;first|exact (by assumption:¬ c.gB) hsm|exact hsm aS)
theorem Xa(c:Config)(hc:c.Ok)(ht:c.Tx):iJ Tryz.prog T 8 [.agg c.row] (fun d M B=>M=[]/\zA c d B):=by
 refine (V3 c hc ht).nil (fun d M B h=>?_);obtain⟨h0,⟨e,rfl,h⟩|h⟩:=h
 . exact .inr ⟨_,rfl,h0,.inl ⟨e,rfl,h⟩⟩
 . exact .inl ⟨h0,h⟩
theorem ZL(c:Config)(hc:c.Ok):aF Tryz.prog T 6 [.agg c.row] (fun d rows=>rows=[]/\∃ P,d = .b P):=by
 have hbl:(c.boxes.l.map Box.row).length=c.boxes.l.length:=sI;have hbn:=hc.boxes;refine aF.aB tok Tryz.func6 rfl Tryz.call6 sI ?_;(try (conv=>whnf));repeat' (first|refine Ok.seq ?_|((first|refine Ok.region tok ?_|refine Ok.cond ?_);conv=>whnf)|refine Ok.block ?_|((first|refine Ok.skip ?_|refine Ok.ret ?_);conv=>whnf)|(refine bI ?_ ?_<;>intro<;>first|omega|conv=>whnf)|fail)
 all_goals try (refine Or.inl ?_;(conv=>whnf);exact⟨rfl,_,rfl⟩)
 all_goals
  refine Ok.aT [1] [3] 0 1 (fun (i:Nat)=>[.i .i64 (i:Nat)]) (fun (i:Nat) (_:List (List D))=>[c.row]) (fun _ r=>r) (fun (i:Nat)=>i<=c.boxes.l.length) (fun (i:Nat)=>c.boxes.l.length - i) (0) (Nat.zero_le _) ?_;(conv=>whnf);refine⟨by ((conv=>whnf);first|rfl|(simp[ak, au, SI.row, Node.row, Pfx.row, Link.row, aG, Line.row, Rule.row, Box.row, Slc.row, Config.row];done)|(simp[ak, au, SI.row, Node.row, Pfx.row, Link.row, aG, Line.row, Rule.row, Box.row, Slc.row, Config.row];rw[IntKind.wrap_i64];omega)),?_⟩;rintro i hi;(conv=>whnf);by_cases hil:i<c.boxes.l.length
  . obtain⟨b,hb⟩:∃ b,c.boxes.l[i]? = some b:=⟨_,aC hil⟩
    have hbI:c.boxes.l[((i:Nat):Int).toNat]? = some b:=hb;have hbr:(c.boxes.l.map Box.row)[((i:Nat):Int).toNat]? = some b.row:=by rw[aN,hbI];rfl
    repeat' (first|refine Ok.seq ?_|((first|refine Ok.region tok ?_|refine Ok.cond ?_);conv=>whnf)|refine Ok.block ?_|((first|refine Ok.skip ?_|refine Ok.ret ?_|refine nI ?_|refine ix _ aS ?_);conv=>whnf)|(refine bI ?_ ?_<;>intro<;>first|omega|conv=>whnf)|fail)
    all_goals first
     | (refine Or.inl ?_;(conv=>whnf)
        exact⟨rfl,_,rfl⟩)
     | (refine⟨i+1,oA,oA,?_⟩
        (conv=>whnf);(first|rfl|simp[ak, au, SI.row, Node.row, Pfx.row, Link.row, aG, Line.row, Rule.row, Box.row, Slc.row, Config.row]);done)
  . obtain rfl:i=c.boxes.l.length:=oA
    (try (conv=>whnf));repeat' (first|refine Ok.seq ?_|((first|refine Ok.region tok ?_|refine Ok.cond ?_|refine Ok.exit ?_|refine Ok.ret ?_);conv=>whnf)|(refine bI ?_ ?_<;>intro<;>first|omega|conv=>whnf)|fail)
    refine Or.inl ?_;(conv=>whnf);exact⟨rfl,_,rfl⟩
end Go.Proofs.YtnlingegeangmaaGreatDoor
