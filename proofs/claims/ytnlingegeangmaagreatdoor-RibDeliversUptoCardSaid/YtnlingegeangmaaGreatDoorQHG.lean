/- The walks and the plain laws that a law of networks needs, part 7 of 7. -/
import Derived.Test.YtnlingegeangmaaGreatDoorQHF
import Derived.Test.YtnlingegeangmaaGreatDoorRows
import Derived.ProofKit
import Derived.OpenShut
import Derived.LaidMore
import Derived.Lay
import Derived.Lib.LaidTab
set_option linter.unusedVariables false
set_option linter.unusedSimpArgs false
set_option maxRecDepth 100000
set_option maxHeartbeats 16000000
namespace Go.Proofs.YtnlingegeangmaaGreatDoor
open Go Go.Vx
theorem tables_at(c:Config)(hc:c.Ok)(ht:c.Tx):FSpec Tryz.prog T 8 [.agg c.row] (fun d rows=>rows=[]/\∃ (e:Int) (tb room:List (List D)),d = .tup [.lst 55 tb room,.i .i64 e] /\
    (e=0->(checkO c.b).1=0/\(c.routing=[]\/∃ L,TabsOk c L/\tb=L.map tbRow))):=by
 have hck:=mcheck_at word_ok itoa_ok c hc ht
 by_cases h0:(checkO c.b).1=0
 case neg=>
  refine FSpec.of_okB tok Tryz.func8 rfl Tryz.call8 (by simp) ?_
  (try (conv=>whnf));repeat' (first|refine OkB.seq ?_|((first|refine OkB.of_okM (OkM.region tok ?_)|refine OkB.cond ?_|refine OkB.ret ?_);conv=>whnf)|(refine Or.inl ?_;(conv=>whnf);refine Or.inl ?_;(conv=>whnf);(repeat (refine aI ?_;conv=>whnf));refine⟨_,hck,rfl,?_⟩;conv=>whnf)|(refine bI ?_ ?_<;>intro<;>(conv=>whnf)<;>(try (exfalso;omega)))|fail)
  all_goals first
   | (refine Or.inl ?_;(conv=>whnf)
      exact⟨rfl,_,_,_,rfl,fun h=>absurd h h0⟩)
   | (exact absurd (by assumption) h0)
 rw[h0] at hck
 obtain⟨hh,h1,h2,h3,h4,_⟩:=check_parts h0
 have hbn:=(count_ok h1).1
 have hbl:(c.boxes.l.map Box.row).length=c.boxes.l.length:=by simp
 have hfl:(c.fields.l.map SI.row).length=c.fields.l.length:=by simp
 have hfn:=hc.fields
 have hbn':c.boxes.l.length<=16:=by simpa[Config.b] using hbn
 have hown:∀ b ∈ c.boxes.l,b.owns.l.length<=70:=fun b hb=>owns_le h1 hb
 refine FSpec.of_okB tok Tryz.func8 rfl Tryz.call8 (by simp) ?_
 (try (conv=>whnf));repeat' (first|(refine OkB.of_okM (OkM.of_ok (Ok.tab (c:=.region 4 _ _) TabR szTabR ?_));refine Ok.region tokR ?_;conv=>whnf)|((first|refine OkB.go (c:=.region 6 _ _) (GoH.reNil (r:=0) (.lst 57 [] []) rfl (fun V=>ri_nil _) ?_)|refine OkB.go (c:=.region 7 _ _) (GoH.reNil (r:=0) .rnl rfl (fun V=>.rnl) ?_));conv=>whnf)|refine OkB.seq ?_|((first|refine OkB.of_okM (OkM.region tok ?_)|refine OkB.cond ?_);conv=>whnf)|refine OkB.block ?_|((first|refine OkB.skip ?_|refine OkB.ret ?_);conv=>whnf)|(refine Or.inl ?_;(conv=>whnf);refine Or.inl ?_;(conv=>whnf);(repeat (refine aI ?_;conv=>whnf));refine⟨_,hck,rfl,?_⟩;conv=>whnf)|(refine⟨_,_,rfl,rfl,?_⟩;conv=>whnf)|(refine bI ?_ ?_<;>intro<;>(conv=>whnf)<;>(try (exfalso;omega)))|((first|refine aJ ?_|refine⟨_,rfl,?_⟩);conv=>whnf)|fail)
 case refine_1=>
  refine Or.inl ?_;(conv=>whnf)
  refine⟨rfl,_,_,_,rfl,fun _=>⟨h0,.inl ?_⟩⟩
  assumption
 rename_i hro
 have hrt:c.b.routing ≠ []:=hro
 obtain⟨fk,fb,f1,f2,f3,f4,f5,f6,f7⟩:=rbits_at (head_ok hh) hrt
 have e0:(List.replicate (c.boxes.l.map Box.row).length [D.rnl])=(List.replicate c.boxes.l.length (none:Option Hd)).map cel:=by simp[cel,hdD]
 rw[e0]
 refine OkB.loopU [1,6,33,34] [7,35] 1 1 (fun (x:Nat)=>[.i .i64 (if fk<x then fb.n else 0),.i .i64 (x:Nat)]) (fun (x:Nat) (_:List (List D))=>[c.row]) (fun (x:Nat) (_:Vx.Rows)=>[some (55,(List.replicate c.boxes.l.length (none:Option Hd)).map cel)]) (fun (x:Nat)=>[]) (fun (x:Nat)=>[]) (fun (x:Nat)=>x<=c.fields.l.length) (fun (x:Nat)=>c.fields.l.length - x) (0) (Nat.zero_le _) (by first|exact .refl _|exact .cons _ (.refl _)|exact List.nil_sublist _|assumption|(dsimp only;rw[bt_none];exact .refl _)) (by first|exact .refl _|exact .cons _ (.refl _)|exact List.nil_sublist _|assumption|(dsimp only;rw[bt_none];exact .refl _)) ?_;(conv=>whnf);refine⟨by ((conv=>whnf);first|rfl|(simp[envCat, tkL0, SI.row, Node.row, Pfx.row, Link.row, srow, Line.row, Rule.row, Box.row, Slc.row, Config.row, irow, kRow, Prt.row, Eg.row, Route.row, cel];done)|(simp[envCat, tkL0, SI.row, Node.row, Pfx.row, Link.row, srow, Line.row, Rule.row, Box.row, Slc.row, Config.row, irow, kRow, Prt.row, Eg.row, Route.row, cel];rw[IntKind.wrap_i64];omega)),?_⟩
 rintro i hi
 (conv=>whnf)
 by_cases hlt:i<c.fields.l.length
 . obtain⟨f,hf⟩:∃ f,c.fields.l[i]? = some f:=⟨_,gEt0 hlt⟩
   have hfI:c.fields.l[((i:Nat):Int).toNat]? = some f:=hf
   have hfr:(c.fields.l.map SI.row)[((i:Nat):Int).toNat]? = some f.row:=by rw[gMp0,hfI];rfl
   by_cases he:f.s=c.routing
   . obtain rfl:i=fk:=fld_uniq (head_ok hh) (c:=c.b) hf f2 (he.trans f3.symm)
     have hfb:f=fb:=by
      have:=hf.symm.trans f2
      exact Option.some.inj this
     subst hfb
     (try (conv=>whnf));repeat' (first|refine OkB.seq ?_|((first|refine OkB.of_okM (OkM.region tok ?_)|refine OkB.cond ?_);conv=>whnf)|refine OkB.block ?_|((first|refine OkB.skip ?_|refine nI ?_|refine ix _ (by assumption) ?_);conv=>whnf)|(refine bI ?_ ?_<;>intro<;>(conv=>whnf)<;>(try (exfalso;omega)))|fail)
     all_goals first
      | (exfalso;rename_i hx;exact hx he)
      | (refine⟨i+1,by omega,by omega,.refl _,.refl _,?_⟩
         rw[show (if i<i+1 then f.n else 0)=f.n from if_pos (by omega)]
         (conv=>whnf);(first|rfl|simp[envCat, tkL0, SI.row, Node.row, Pfx.row, Link.row, srow, Line.row, Rule.row, Box.row, Slc.row, Config.row, irow, kRow, Prt.row, Eg.row, Route.row, cel])
         done)
   . have hne:i ≠ fk:=by
       rintro rfl
       have:=hf.symm.trans f2
       cases this
       exact he f3
     (try (conv=>whnf));repeat' (first|refine OkB.seq ?_|((first|refine OkB.of_okM (OkM.region tok ?_)|refine OkB.cond ?_);conv=>whnf)|refine OkB.block ?_|((first|refine OkB.skip ?_|refine nI ?_|refine ix _ (by assumption) ?_);conv=>whnf)|(refine bI ?_ ?_<;>intro<;>(conv=>whnf)<;>(try (exfalso;omega)))|fail)
     all_goals first
      | (exfalso;rename_i hx;exact he hx)
      | (refine⟨i+1,by omega,by omega,.refl _,.refl _,?_⟩
         have e1:(if fk<i+1 then fb.n else 0)=if fk<i then fb.n else 0:=by
          by_cases h:fk<i
          . rw[if_pos h,if_pos (by omega)]
          . rw[if_neg h,if_neg (by omega)]
         rw[e1]
         (conv=>whnf);(first|rfl|simp[envCat, tkL0, SI.row, Node.row, Pfx.row, Link.row, srow, Line.row, Rule.row, Box.row, Slc.row, Config.row, irow, kRow, Prt.row, Eg.row, Route.row, cel])
         done)
 . obtain rfl:i=c.fields.l.length:=by omega
   have hfk:fk<c.fields.l.length:=(gSm0.1 f2).1
   rw[if_pos hfk]
   (try (conv=>whnf));repeat' (first|(refine OkB.region (id:=14) tok ?_;conv=>whnf)|refine OkB.seq ?_|((first|refine OkB.of_okM (OkM.region tok ?_)|refine OkB.cond ?_|refine OkB.exit ?_);conv=>whnf)|(refine bI ?_ ?_<;>intro<;>(conv=>whnf)<;>(try (exfalso;omega)))|fail)
   refine Or.inr (Or.inr ?_);(conv=>whnf);refine⟨_,_,Tryz.func36,rfl,Tryz.call36,?_⟩;(conv=>whnf)
   refine OkB.joinU [107,112,113] [4] 1 1 (fun (hs:List (Option Hd))=>[.i .i64 0]) (fun (hs:List (Option Hd)) (_:List (List D))=>[c.row]) (fun (hs:List (Option Hd)) (_:Vx.Rows)=>[some (55,hs.map cel)]) (fun (hs:List (Option Hd))=>[]) (fun (hs:List (Option Hd))=>bt hs) (fun e (hs:List (Option Hd))=>e = .ret/\TabI 57 Route.row hs (wlF c c.boxes.l.length [])) ?_;(conv=>whnf);refine And.intro ?_ ?_
   . (try (conv=>whnf));repeat' (first|(refine⟨_,_,_,_,_,mtSI,fun _ _=>?_⟩;conv=>whnf)|(refine Or.inr (Or.inl ?_);(conv=>whnf);(repeat (refine aI ?_;conv=>whnf));refine⟨_,mports_ok c hc ht h0,?_⟩;rintro _ _ _ ⟨⟨rfl,rfl⟩,rfl⟩<;>(conv=>whnf))|refine OkB.seq ?_|((first|refine OkB.of_okM (OkM.region tok ?_)|refine OkB.cond ?_);conv=>whnf)|refine OkB.block ?_|(refine OkB.skip ?_;conv=>whnf)|(refine bI ?_ ?_<;>intro<;>(conv=>whnf)<;>(try (exfalso;omega)))|fail)
     rename_i gn hgn
     have hpn:(prtsF c.b).map Prt.name=fullsL c.b.boxes:=prtsW_names c.b _
     have hpl:(prtsF c.b).length=(fullsL c.b.boxes).length:=by rw[<- hpn,lMp0]
     have hpm:((prtsF c.b).map Prt.row).length=(prtsF c.b).length:=by simp
     have hp48:(prtsF c.b).length<=48:=by rw[hpl,fullsL_len];exact (count_ok h1).2.1
     have hnd:=fulls_nodup h2
     refine OkB.loopU [1,2,7,25,26,107,112,113] [27] 2 2 (fun (x:Nat × List (Str × Int × Nat) × Nat)=>[.i .i64 (x.1:Nat)]) (fun (x:Nat × List (Str × Int × Nat) × Nat) (_:List (List D))=>[c.row,c.row]) (fun (x:Nat × List (Str × Int × Nat) × Nat) (_:Vx.Rows)=>[some (55,(List.replicate c.boxes.l.length (none:Option Hd)).map cel),some (147,(prtsF c.b).map Prt.row)]) (fun (x:Nat × List (Str × Int × Nat) × Nat)=>[(gn,mObj D.s fI x.2.1 x.2.2)]) (fun (x:Nat × List (Str × Int × Nat) × Nat)=>[]) (fun (x:Nat × List (Str × Int × Nat) × Nat)=>x.1<=(prtsF c.b).length/\NMap x.2.1 ((fullsL c.b.boxes).take x.1)) (fun (x:Nat × List (Str × Int × Nat) × Nat)=>(prtsF c.b).length - x.1) ((0,[],0)) (⟨Nat.zero_le _,NMap.nil⟩) (by first|exact .refl _|exact .cons _ (.refl _)|exact List.nil_sublist _|assumption|(dsimp only;rw[bt_none];exact .refl _)) (by first|exact .refl _|exact .cons _ (.refl _)|exact List.nil_sublist _|assumption|(dsimp only;rw[bt_none];exact .refl _)) ?_;(conv=>whnf);refine⟨by ((conv=>whnf);first|rfl|(simp[envCat, tkL0, SI.row, Node.row, Pfx.row, Link.row, srow, Line.row, Rule.row, Box.row, Slc.row, Config.row, irow, kRow, Prt.row, Eg.row, Route.row, cel];done)|(simp[envCat, tkL0, SI.row, Node.row, Pfx.row, Link.row, srow, Line.row, Rule.row, Box.row, Slc.row, Config.row, irow, kRow, Prt.row, Eg.row, Route.row, cel];rw[IntKind.wrap_i64];omega)),?_⟩
     rintro⟨k,l,cl⟩ ⟨hk,hl⟩
     dsimp only at hk hl ⊢
     (conv=>whnf)
     by_cases hkl:k<(prtsF c.b).length
     . obtain⟨p,hp⟩:∃ p,(prtsF c.b)[k]? = some p:=⟨_,gEt0 hkl⟩
       have hpI:(prtsF c.b)[((k:Nat):Int).toNat]? = some p:=hp
       have hfk:(fullsL c.b.boxes)[k]? = some p.name:=by rw[<- hpn,gMp0,hp];rfl
       (try (conv=>whnf));repeat' (first|(refine⟨_,_,_,_,_,_,_,0,_,_,mtSI,rfl,rfl,rfl,?_⟩;conv=>whnf)|refine OkB.seq ?_|((first|refine OkB.of_okM (OkM.region tok ?_)|refine OkB.cond ?_);conv=>whnf)|refine OkB.block ?_|((first|refine OkB.skip ?_|refine nI ?_|refine rd rfl (by assumption) ?_);conv=>whnf)|(refine bI ?_ ?_<;>intro<;>(conv=>whnf)<;>(try (exfalso;omega)))|(refine aJ ?_;conv=>whnf)|fail)
       refine⟨(k+1,(mput l cl p.name (k:Int)).1,(mput l cl p.name (k:Int)).2),by dsimp only;omega,⟨by dsimp only;omega,?_⟩,.refl _,.refl _,?_⟩
       . dsimp only
         rw[List.take_add_one,hfk]
         refine hl.new (fun hm=>?_) cl k (by simp;omega)
         obtain⟨j,hj⟩:=List.getElem?_of_mem hm
         have hjk:j<k:=by have:=(gSm0.1 hj).1;simp at this;omega
         rw[List.getElem?_take_of_lt hjk] at hj
         have:=nodup_idx hnd hj hfk
         omega
       . (conv=>whnf);(first|rfl|simp[envCat, tkL0, SI.row, Node.row, Pfx.row, Link.row, srow, Line.row, Rule.row, Box.row, Slc.row, Config.row, irow, kRow, Prt.row, Eg.row, Route.row, cel])
     . obtain rfl:k=(prtsF c.b).length:=by omega
       rw[hpl,List.take_length] at hl
       have hout:∀ b ∈ c.boxes.l,∀ p,p ∈ b.owns.l\/p ∈ b.routes.l->(lk l (dot b.name p.dst)).getD 0=outN c b p:=by
        intro b hb p hp
        have hbb:Box.b b ∈ c.b.boxes:=List.mem_map.2 ⟨b,hb,rfl⟩
        have h5:=(pfx_ok h3 hbb hp).out
        have h6:dot b.name p.dst ∈ fullsL c.b.boxes:=mem_fulls.2 (.inr (List.mem_flatMap.2 ⟨Box.b b,hbb,List.mem_map.2 ⟨p.dst,h5,rfl⟩⟩))
        rw[(hl _).2 h6]
        rfl
       (try (conv=>whnf));repeat' (first|refine OkB.seq ?_|((first|refine OkB.of_okM (OkM.region tok ?_)|refine OkB.cond ?_);conv=>whnf)|refine OkB.block ?_|(refine OkB.exit ?_;conv=>whnf)|(refine bI ?_ ?_<;>intro<;>(conv=>whnf)<;>(try (exfalso;omega)))|fail)
       refine OkB.loopU [1,7,38,39,107,112,113] [40] 1 2 (fun (x:Nat × List (Option Hd))=>[.i .i64 (x.1:Nat)]) (fun (x:Nat × List (Option Hd)) (_:List (List D))=>[c.row,c.row]) (fun (x:Nat × List (Option Hd)) (_:Vx.Rows)=>[some (55,x.2.map cel)]) (fun (x:Nat × List (Option Hd))=>[(gn,mObj D.s fI l cl)]) (fun (x:Nat × List (Option Hd))=>bt x.2) (fun (x:Nat × List (Option Hd))=>x.1<=c.boxes.l.length/\TabI 57 Route.row x.2 (wlF c x.1 [])) (fun (x:Nat × List (Option Hd))=>c.boxes.l.length - x.1) ((0,List.replicate c.boxes.l.length none)) (⟨Nat.zero_le _,by rw[wlF_zero];exact TabI.start _⟩) (by first|exact .refl _|exact .cons _ (.refl _)|exact List.nil_sublist _|assumption|(dsimp only;rw[bt_none];exact .refl _)) (by first|exact .refl _|exact .cons _ (.refl _)|exact List.nil_sublist _|assumption|(dsimp only;rw[bt_none];exact .refl _)) ?_;(conv=>whnf);refine⟨by ((conv=>whnf);first|rfl|(simp[envCat, tkL0, SI.row, Node.row, Pfx.row, Link.row, srow, Line.row, Rule.row, Box.row, Slc.row, Config.row, irow, kRow, Prt.row, Eg.row, Route.row, cel];done)|(simp[envCat, tkL0, SI.row, Node.row, Pfx.row, Link.row, srow, Line.row, Rule.row, Box.row, Slc.row, Config.row, irow, kRow, Prt.row, Eg.row, Route.row, cel];rw[IntKind.wrap_i64];omega)),?_⟩
       rintro⟨i,hs⟩ ⟨hi,hTI⟩
       dsimp only at hi hTI ⊢
       (conv=>whnf)
       have hsl:hs.length=c.boxes.l.length:=by rw[hTI.1];simp[wlF]
       have hcm:(hs.map cel).length=hs.length:=by simp
       by_cases hil:i<c.boxes.l.length
       . obtain⟨b,hb⟩:∃ b,c.boxes.l[i]? = some b:=⟨_,gEt0 hil⟩
         have hbI:c.boxes.l[((i:Nat):Int).toNat]? = some b:=hb
         have hbr:(c.boxes.l.map Box.row)[((i:Nat):Int).toNat]? = some b.row:=by rw[gMp0,hbI];rfl
         have hol:(b.owns.l.map Pfx.row).length=b.owns.l.length:=by simp
         have hrl:(b.routes.l.map Pfx.row).length=b.routes.l.length:=by simp
         have hbm:=mOf0 hb
         have hbo:=hc.box b hbm
         (try (conv=>whnf));repeat' (first|refine OkB.seq ?_|((first|refine OkB.of_okM (OkM.region tok ?_)|refine OkB.cond ?_);conv=>whnf)|refine OkB.block ?_|((first|refine OkB.skip ?_|refine ix _ (by assumption) ?_);conv=>whnf)|(refine bI ?_ ?_<;>intro<;>(conv=>whnf)<;>(try (exfalso;omega)))|fail)
         refine OkB.loopU [1,7,10,11,38,39,40,46,47,107,112,113] [48] 1 3 (fun (y:Nat × List (Option Hd))=>[.i .i64 (y.1:Nat)]) (fun (y:Nat × List (Option Hd)) (_:List (List D))=>[c.row,c.row,b.row]) (fun (y:Nat × List (Option Hd)) (_:Vx.Rows)=>[some (55,y.2.map cel)]) (fun (y:Nat × List (Option Hd))=>[(gn,mObj D.s fI l cl)]) (fun (y:Nat × List (Option Hd))=>bt y.2) (fun (y:Nat × List (Option Hd))=>y.1<=b.owns.l.length/\TabI 57 Route.row y.2 (wlF c i ((b.owns.l.take y.1).map (rtO c b 1)))) (fun (y:Nat × List (Option Hd))=>b.owns.l.length - y.1) ((0,hs)) (⟨Nat.zero_le _,by simpa using hTI⟩) (by first|exact .refl _|exact .cons _ (.refl _)|exact List.nil_sublist _|assumption|(dsimp only;rw[bt_none];exact .refl _)) (by first|exact .refl _|exact .cons _ (.refl _)|exact List.nil_sublist _|assumption|(dsimp only;rw[bt_none];exact .refl _)) ?_;(conv=>whnf);refine⟨by ((conv=>whnf);first|rfl|(simp[envCat, tkL0, SI.row, Node.row, Pfx.row, Link.row, srow, Line.row, Rule.row, Box.row, Slc.row, Config.row, irow, kRow, Prt.row, Eg.row, Route.row, cel];done)|(simp[envCat, tkL0, SI.row, Node.row, Pfx.row, Link.row, srow, Line.row, Rule.row, Box.row, Slc.row, Config.row, irow, kRow, Prt.row, Eg.row, Route.row, cel];rw[IntKind.wrap_i64];omega)),?_⟩
         clear hTI hsl hcm hs
         rintro⟨m,hs⟩ ⟨hm,hTI⟩
         dsimp only at hm hTI ⊢
         have hsl:hs.length=c.boxes.l.length:=by rw[hTI.1];simp[wlF]
         have hcm:(hs.map cel).length=hs.length:=by simp
         (conv=>whnf)
         by_cases hml:m<b.owns.l.length
         . obtain⟨o,hoo⟩:∃ o,b.owns.l[m]? = some o:=⟨_,gEt0 hml⟩
           have hoI:b.owns.l[((m:Nat):Int).toNat]? = some o:=hoo
           have hor:(b.owns.l.map Pfx.row)[((m:Nat):Int).toNat]? = some o.row:=by rw[gMp0,hoI];rfl
           have hrw:(lk l (dot b.name o.dst)).getD 0=outN c b o:=hout b hbm o (.inl (mOf0 hoo))
           have hn1:b.name.length<=1048576:=(ht.boxes b hbm).name
           have ho1:o.dst.length<=1048576:=((ht.boxes b hbm).owns o (mOf0 hoo)).dst
           have hoL:=hbo.owns
           have hz:Route.row (rtO c b 1 o)=[.i .i64 1,.i .i64 o.value,.i .i64 o.len,.i .i64 ((lk l (dot b.name o.dst)).getD 0)]:=by rw[hrw];rfl
           have hnx:TabI 57 Route.row hs (wlF c i ((b.owns.l.take m).map (rtO c b 1)))->∀ x:Hd,BlkIs (szOf T) 57 x.n x.c (((b.owns.l.take m).map (rtO c b 1)++[rtO c b 1 o]).map Route.row) x.o->TabI 57 Route.row (hs.set i (some x)) (wlF c i ((b.owns.l.take (m+1)).map (rtO c b 1))):=fun h x hx=>by
            have:=h.set (i:=i) hx
            rw[wlF_set] at this
            rw[List.take_add_one,hoo,List.map_append]
            exact this
           have hLl:((b.owns.l.take m).map (rtO c b 1)).length<=3000000:=by simp;omega
           rcases hcell:hs[i]? with _|_|h
           . have:=List.getElem?_eq_none_iff.1 hcell
             omega
           . have hle:(b.owns.l.take m).map (rtO c b 1)=[]:=hTI.2 i none _ hcell (wlF_get _ hil)
             (try (conv=>whnf));repeat' (first|((first|refine rd rfl hcell ?_|refine⟨_,_,_,_,_,_,_,_,mtSI,.head _,rfl,?_⟩);conv=>whnf)|(refine⟨500,?_⟩;(conv=>whnf);refine⟨by simp,_,.inl ⟨rfl,rfl⟩,?_⟩;(conv=>whnf);refine⟨by simp,by simp,[Route.row (rtO c b 1 o)],1,by rw[hz];rfl,rfl,fun g' c' hc'=>?_⟩;(conv=>whnf))|((first|refine st (some ⟨g',1,c',obD⟩:Option Hd) hcell (by simp[cel]) rfl ?_|refine OkB.go (c:=.region 17 _ _) (GoH.close tok (t0:=500) (ti:=_) rfl rfl rfl (rt_ground [rtO c b 1 o]) fun o' ho'=>?_));conv=>whnf)|(refine OkB.perm (c:=.region 17 _ _) (bt_perm0 hcell ⟨g',1,c',o'⟩) ?_)|refine OkB.seq ?_|((first|refine OkB.of_okM (OkM.region tok ?_)|refine OkB.of_okM (OkM.region_tree (id:=16) tok follows [(12,17,[16,13]),(15,17,[16]),(7,19,[18]),(9,19,[18]),(12,19,[18,17,16,13]),(15,19,[18,17,16]),(17,19,[18]),(2,20,[5,4]),(3,20,[5,4]),(4,20,[5]),(5,20,[]),(6,20,[19,18,7]),(7,20,[19,18]),(8,20,[19,18,9]),(9,20,[19,18]),(10,20,[19,18,17]),(11,20,[19,18,17,16,13,12]),(12,20,[19,18,17,16,13]),(13,20,[19,18,17,16]),(14,20,[19,18,17,16,15]),(15,20,[19,18,17,16]),(16,20,[19,18,17]),(17,20,[19,18]),(18,20,[19]),(19,20,[]),(5,22,[]),(7,22,[]),(9,22,[]),(12,22,[]),(15,22,[]),(17,22,[]),(19,22,[]),(20,22,[])] (.q 0 (.q 1 (.q 2 (.q 3 (.q 4 (.q 5 (.q 6 (.q 7 (.q 8 (.q 9 (.q 10 (.q 11 (.q 12 (.q 13 (.q 14 (.q 15 (.q 16 (.l 17 (.q 18 (.l 19 (.l 20 (.q 21 (.l 22 .nil))))))))))))))))))))))) (by kernel_rfl) ?_)|refine OkB.cond ?_);conv=>whnf)|refine OkB.block ?_|((first|refine OkB.skip ?_|refine nI ?_|refine ix _ (by assumption) ?_);conv=>whnf)|(refine bI ?_ ?_<;>intro<;>(conv=>whnf)<;>(try (exfalso;omega)))|(refine aJ ?_;conv=>whnf)|fail)
             refine⟨(m+1,hs.set i (some ⟨g',1,c',o'⟩)),by dsimp only;omega,⟨by dsimp only;omega,hnx hTI ⟨g',1,c',o'⟩ (by rw[hle];exact ho')⟩,.refl _,.refl _,?_⟩
             rw[cel_set hs i g' 1 c' o' obD]
             (conv=>whnf);(first|rfl|simp[envCat, tkL0, SI.row, Node.row, Pfx.row, Link.row, srow, Line.row, Rule.row, Box.row, Slc.row, Config.row, irow, kRow, Prt.row, Eg.row, Route.row, cel])
           . have hbk:=hTI.2 i (some h) _ hcell (wlF_get _ hil)
             have hnl:=(blk_len hbk).1
             have hml':(((b.owns.l.take m).map (rtO c b 1)).map Route.row).length=((b.owns.l.take m).map (rtO c b 1)).length:=by simp only[lMp0]
             (try (conv=>whnf));repeat' (first|(refine OkB.perm (c:=.region 16 _ _) (bt_out hcell) ?_)|((first|refine OkB.go (c:=.region 16 _ _) (GoH.open 500 hbk ?_)|refine rd rfl hcell ?_|refine⟨_,_,_,_,_,_,_,_,mtSI,.head _,rfl,?_⟩|refine⟨500,501,1,rfl,?_⟩);conv=>whnf)|(refine⟨((b.owns.l.take m).map (rtO c b 1)++[rtO c b 1 o]).map Route.row,h.n+1,by rw[List.map_append,List.map_singleton,hz];rfl,by rw[lMp0,List.length_append,List.length_singleton];omega,?_⟩;conv=>whnf)|(refine⟨fun _=>?_,fun _=>⟨1,by (conv=>whnf);exact True.intro,fun g' c' hc'=>?_⟩⟩<;>(conv=>whnf))|((first|refine st (some ⟨g',h.n+1,c',obD⟩:Option Hd) hcell (by simp[cel]) rfl ?_|refine st (some ⟨h.g,h.n+1,h.c,obD⟩:Option Hd) hcell (by simp[cel]) rfl ?_|refine OkB.go (c:=.region 17 _ _) (GoH.close tok (t0:=501) (ti:=_) rfl rfl rfl (rt_ground _) fun o' ho'=>?_)|refine OkB.go (c:=.region 17 _ _) (GoH.close tok (t0:=500) (ti:=_) rfl rfl rfl (rt_ground _) fun o' ho'=>?_));conv=>whnf)|(refine OkB.perm (c:=.region 17 _ _) (bt_perm (h:=⟨g',h.n+1,c',o'⟩) (by omega)) ?_)|(refine OkB.perm (c:=.region 17 _ _) (bt_perm (h:=⟨h.g,h.n+1,h.c,o'⟩) (by omega)) ?_)|refine OkB.seq ?_|((first|refine OkB.of_okM (OkM.region tok ?_)|refine OkB.of_okM (OkM.region_tree (id:=16) tok follows [(12,17,[16,13]),(15,17,[16]),(7,19,[18]),(9,19,[18]),(12,19,[18,17,16,13]),(15,19,[18,17,16]),(17,19,[18]),(2,20,[5,4]),(3,20,[5,4]),(4,20,[5]),(5,20,[]),(6,20,[19,18,7]),(7,20,[19,18]),(8,20,[19,18,9]),(9,20,[19,18]),(10,20,[19,18,17]),(11,20,[19,18,17,16,13,12]),(12,20,[19,18,17,16,13]),(13,20,[19,18,17,16]),(14,20,[19,18,17,16,15]),(15,20,[19,18,17,16]),(16,20,[19,18,17]),(17,20,[19,18]),(18,20,[19]),(19,20,[]),(5,22,[]),(7,22,[]),(9,22,[]),(12,22,[]),(15,22,[]),(17,22,[]),(19,22,[]),(20,22,[])] (.q 0 (.q 1 (.q 2 (.q 3 (.q 4 (.q 5 (.q 6 (.q 7 (.q 8 (.q 9 (.q 10 (.q 11 (.q 12 (.q 13 (.q 14 (.q 15 (.q 16 (.l 17 (.q 18 (.l 19 (.l 20 (.q 21 (.l 22 .nil))))))))))))))))))))))) (by kernel_rfl) ?_)|refine OkB.cond ?_);conv=>whnf)|refine OkB.block ?_|((first|refine OkB.skip ?_|refine nI ?_|refine ix _ (by assumption) ?_|refine⟨_,.inl ⟨rfl,rfl⟩,?_⟩);conv=>whnf)|(refine bI ?_ ?_<;>intro<;>(conv=>whnf)<;>(try (exfalso;omega)))|(refine aJ ?_;conv=>whnf)|fail)
             all_goals first
              | (refine⟨(m+1,hs.set i (some ⟨g',h.n+1,c',o'⟩)),by dsimp only;omega,⟨by dsimp only;omega,hnx hTI ⟨g',h.n+1,c',o'⟩ ho'⟩,.refl _,.refl _,?_⟩
                 rw[cel_set hs i g' (h.n+1) c' o' obD]
                 (conv=>whnf);(first|rfl|simp[envCat, tkL0, SI.row, Node.row, Pfx.row, Link.row, srow, Line.row, Rule.row, Box.row, Slc.row, Config.row, irow, kRow, Prt.row, Eg.row, Route.row, cel])
                 done)
              | (refine⟨(m+1,hs.set i (some ⟨h.g,h.n+1,h.c,o'⟩)),by dsimp only;omega,⟨by dsimp only;omega,hnx hTI ⟨h.g,h.n+1,h.c,o'⟩ ho'⟩,.refl _,.refl _,?_⟩
                 rw[cel_set hs i h.g (h.n+1) h.c o' obD]
                 (conv=>whnf);(first|rfl|simp[envCat, tkL0, SI.row, Node.row, Pfx.row, Link.row, srow, Line.row, Rule.row, Box.row, Slc.row, Config.row, irow, kRow, Prt.row, Eg.row, Route.row, cel])
                 done)
         . obtain rfl:m=b.owns.l.length:=by omega
           rw[List.take_length] at hTI
           (try (conv=>whnf));repeat' (first|refine OkB.seq ?_|((first|refine OkB.of_okM (OkM.region tok ?_)|refine OkB.cond ?_);conv=>whnf)|refine OkB.block ?_|(refine OkB.exit ?_;conv=>whnf)|(refine bI ?_ ?_<;>intro<;>(conv=>whnf)<;>(try (exfalso;omega)))|fail)
           refine OkB.loopU [1,7,10,11,38,39,40,76,77,107,112,113] [78] 1 3 (fun (y:Nat × List (Option Hd))=>[.i .i64 (y.1:Nat)]) (fun (y:Nat × List (Option Hd)) (_:List (List D))=>[c.row,c.row,b.row]) (fun (y:Nat × List (Option Hd)) (_:Vx.Rows)=>[some (55,y.2.map cel)]) (fun (y:Nat × List (Option Hd))=>[(gn,mObj D.s fI l cl)]) (fun (y:Nat × List (Option Hd))=>bt y.2) (fun (y:Nat × List (Option Hd))=>y.1<=b.routes.l.length/\TabI 57 Route.row y.2 (wlF c i (b.owns.l.map (rtO c b 1)++(b.routes.l.take y.1).map (rtO c b 2)))) (fun (y:Nat × List (Option Hd))=>b.routes.l.length - y.1) ((0,hs)) (⟨Nat.zero_le _,by simpa using hTI⟩) (by first|exact .refl _|exact .cons _ (.refl _)|exact List.nil_sublist _|assumption|(dsimp only;rw[bt_none];exact .refl _)) (by first|exact .refl _|exact .cons _ (.refl _)|exact List.nil_sublist _|assumption|(dsimp only;rw[bt_none];exact .refl _)) ?_;(conv=>whnf);refine⟨by ((conv=>whnf);first|rfl|(simp[envCat, tkL0, SI.row, Node.row, Pfx.row, Link.row, srow, Line.row, Rule.row, Box.row, Slc.row, Config.row, irow, kRow, Prt.row, Eg.row, Route.row, cel];done)|(simp[envCat, tkL0, SI.row, Node.row, Pfx.row, Link.row, srow, Line.row, Rule.row, Box.row, Slc.row, Config.row, irow, kRow, Prt.row, Eg.row, Route.row, cel];rw[IntKind.wrap_i64];omega)),?_⟩
           clear hTI hsl hcm hs
           rintro⟨m,hs⟩ ⟨hm,hTI⟩
           dsimp only at hm hTI ⊢
           have hsl:hs.length=c.boxes.l.length:=by rw[hTI.1];simp[wlF]
           have hcm:(hs.map cel).length=hs.length:=by simp
           (conv=>whnf)
           by_cases hml:m<b.routes.l.length
           . obtain⟨o,hoo⟩:∃ o,b.routes.l[m]? = some o:=⟨_,gEt0 hml⟩
             have hoI:b.routes.l[((m:Nat):Int).toNat]? = some o:=hoo
             have hor:(b.routes.l.map Pfx.row)[((m:Nat):Int).toNat]? = some o.row:=by rw[gMp0,hoI];rfl
             have hrw:(lk l (dot b.name o.dst)).getD 0=outN c b o:=hout b hbm o (.inr (mOf0 hoo))
             have hn1:b.name.length<=1048576:=(ht.boxes b hbm).name
             have ho1:o.dst.length<=1048576:=((ht.boxes b hbm).routes o (mOf0 hoo)).dst
             have hoL:=hbo.owns
             have hoR:=hbo.routes
             have hz:Route.row (rtO c b 2 o)=[.i .i64 2,.i .i64 o.value,.i .i64 o.len,.i .i64 ((lk l (dot b.name o.dst)).getD 0)]:=by rw[hrw];rfl
             have hnx:TabI 57 Route.row hs (wlF c i (b.owns.l.map (rtO c b 1)++(b.routes.l.take m).map (rtO c b 2)))->∀ x:Hd,BlkIs (szOf T) 57 x.n x.c ((b.owns.l.map (rtO c b 1)++(b.routes.l.take m).map (rtO c b 2)++[rtO c b 2 o]).map Route.row) x.o->TabI 57 Route.row (hs.set i (some x)) (wlF c i (b.owns.l.map (rtO c b 1)++(b.routes.l.take (m+1)).map (rtO c b 2))):=fun h x hx=>by
              have:=h.set (i:=i) hx
              rw[wlF_set] at this
              rw[List.take_add_one,hoo,List.map_append,<- List.append_assoc]
              exact this
             have hLl:(b.owns.l.map (rtO c b 1)++(b.routes.l.take m).map (rtO c b 2)).length<=3000000:=by simp;omega
             rcases hcell:hs[i]? with _|_|h
             . have:=List.getElem?_eq_none_iff.1 hcell
               omega
             . have hle:b.owns.l.map (rtO c b 1)++(b.routes.l.take m).map (rtO c b 2)=[]:=hTI.2 i none _ hcell (wlF_get _ hil)
               (try (conv=>whnf));repeat' (first|((first|refine rd rfl hcell ?_|refine⟨_,_,_,_,_,_,_,_,mtSI,.head _,rfl,?_⟩);conv=>whnf)|(refine⟨500,?_⟩;(conv=>whnf);refine⟨by simp,_,.inl ⟨rfl,rfl⟩,?_⟩;(conv=>whnf);refine⟨by simp,by simp,[Route.row (rtO c b 2 o)],1,by rw[hz];rfl,rfl,fun g' c' hc'=>?_⟩;(conv=>whnf))|((first|refine st (some ⟨g',1,c',obD⟩:Option Hd) hcell (by simp[cel]) rfl ?_|refine OkB.go (c:=.region 22 _ _) (GoH.close tok (t0:=500) (ti:=_) rfl rfl rfl (rt_ground [rtO c b 2 o]) fun o' ho'=>?_));conv=>whnf)|(refine OkB.perm (c:=.region 22 _ _) (bt_perm0 hcell ⟨g',1,c',o'⟩) ?_)|refine OkB.seq ?_|((first|refine OkB.of_okM (OkM.region tok ?_)|refine OkB.of_okM (OkM.region_tree (id:=21) tok follows [(12,17,[16,13]),(15,17,[16]),(7,19,[18]),(9,19,[18]),(12,19,[18,17,16,13]),(15,19,[18,17,16]),(17,19,[18]),(2,20,[5,4]),(3,20,[5,4]),(4,20,[5]),(5,20,[]),(6,20,[19,18,7]),(7,20,[19,18]),(8,20,[19,18,9]),(9,20,[19,18]),(10,20,[19,18,17]),(11,20,[19,18,17,16,13,12]),(12,20,[19,18,17,16,13]),(13,20,[19,18,17,16]),(14,20,[19,18,17,16,15]),(15,20,[19,18,17,16]),(16,20,[19,18,17]),(17,20,[19,18]),(18,20,[19]),(19,20,[]),(5,22,[]),(7,22,[]),(9,22,[]),(12,22,[]),(15,22,[]),(17,22,[]),(19,22,[]),(20,22,[])] (.q 0 (.q 1 (.q 2 (.q 3 (.q 4 (.q 5 (.q 6 (.q 7 (.q 8 (.q 9 (.q 10 (.q 11 (.q 12 (.q 13 (.q 14 (.q 15 (.q 16 (.l 17 (.q 18 (.l 19 (.l 20 (.q 21 (.l 22 .nil))))))))))))))))))))))) (by kernel_rfl) ?_)|refine OkB.cond ?_);conv=>whnf)|refine OkB.block ?_|((first|refine OkB.skip ?_|refine nI ?_|refine ix _ (by assumption) ?_);conv=>whnf)|(refine bI ?_ ?_<;>intro<;>(conv=>whnf)<;>(try (exfalso;omega)))|(refine aJ ?_;conv=>whnf)|fail)
               refine⟨(m+1,hs.set i (some ⟨g',1,c',o'⟩)),by dsimp only;omega,⟨by dsimp only;omega,hnx hTI ⟨g',1,c',o'⟩ (by rw[hle];exact ho')⟩,.refl _,.refl _,?_⟩
               rw[cel_set hs i g' 1 c' o' obD]
               (conv=>whnf);(first|rfl|simp[envCat, tkL0, SI.row, Node.row, Pfx.row, Link.row, srow, Line.row, Rule.row, Box.row, Slc.row, Config.row, irow, kRow, Prt.row, Eg.row, Route.row, cel])
             . have hbk:=hTI.2 i (some h) _ hcell (wlF_get _ hil)
               have hnl:=(blk_len hbk).1
               have hml':((b.owns.l.map (rtO c b 1)++(b.routes.l.take m).map (rtO c b 2)).map Route.row).length=(b.owns.l.map (rtO c b 1)++(b.routes.l.take m).map (rtO c b 2)).length:=by simp only[lMp0]
               (try (conv=>whnf));repeat' (first|(refine OkB.perm (c:=.region 21 _ _) (bt_out hcell) ?_)|((first|refine OkB.go (c:=.region 21 _ _) (GoH.open 500 hbk ?_)|refine rd rfl hcell ?_|refine⟨_,_,_,_,_,_,_,_,mtSI,.head _,rfl,?_⟩|refine⟨500,501,1,rfl,?_⟩);conv=>whnf)|(refine⟨(b.owns.l.map (rtO c b 1)++(b.routes.l.take m).map (rtO c b 2)++[rtO c b 2 o]).map Route.row,h.n+1,by rw[List.map_append,List.map_singleton,hz];rfl,by rw[lMp0,List.length_append,List.length_singleton];omega,?_⟩;conv=>whnf)|(refine⟨fun _=>?_,fun _=>⟨1,by (conv=>whnf);exact True.intro,fun g' c' hc'=>?_⟩⟩<;>(conv=>whnf))|((first|refine st (some ⟨g',h.n+1,c',obD⟩:Option Hd) hcell (by simp[cel]) rfl ?_|refine st (some ⟨h.g,h.n+1,h.c,obD⟩:Option Hd) hcell (by simp[cel]) rfl ?_|refine OkB.go (c:=.region 22 _ _) (GoH.close tok (t0:=501) (ti:=_) rfl rfl rfl (rt_ground _) fun o' ho'=>?_)|refine OkB.go (c:=.region 22 _ _) (GoH.close tok (t0:=500) (ti:=_) rfl rfl rfl (rt_ground _) fun o' ho'=>?_));conv=>whnf)|(refine OkB.perm (c:=.region 22 _ _) (bt_perm (h:=⟨g',h.n+1,c',o'⟩) (by omega)) ?_)|(refine OkB.perm (c:=.region 22 _ _) (bt_perm (h:=⟨h.g,h.n+1,h.c,o'⟩) (by omega)) ?_)|refine OkB.seq ?_|((first|refine OkB.of_okM (OkM.region tok ?_)|refine OkB.of_okM (OkM.region_tree (id:=21) tok follows [(12,17,[16,13]),(15,17,[16]),(7,19,[18]),(9,19,[18]),(12,19,[18,17,16,13]),(15,19,[18,17,16]),(17,19,[18]),(2,20,[5,4]),(3,20,[5,4]),(4,20,[5]),(5,20,[]),(6,20,[19,18,7]),(7,20,[19,18]),(8,20,[19,18,9]),(9,20,[19,18]),(10,20,[19,18,17]),(11,20,[19,18,17,16,13,12]),(12,20,[19,18,17,16,13]),(13,20,[19,18,17,16]),(14,20,[19,18,17,16,15]),(15,20,[19,18,17,16]),(16,20,[19,18,17]),(17,20,[19,18]),(18,20,[19]),(19,20,[]),(5,22,[]),(7,22,[]),(9,22,[]),(12,22,[]),(15,22,[]),(17,22,[]),(19,22,[]),(20,22,[])] (.q 0 (.q 1 (.q 2 (.q 3 (.q 4 (.q 5 (.q 6 (.q 7 (.q 8 (.q 9 (.q 10 (.q 11 (.q 12 (.q 13 (.q 14 (.q 15 (.q 16 (.l 17 (.q 18 (.l 19 (.l 20 (.q 21 (.l 22 .nil))))))))))))))))))))))) (by kernel_rfl) ?_)|refine OkB.cond ?_);conv=>whnf)|refine OkB.block ?_|((first|refine OkB.skip ?_|refine nI ?_|refine ix _ (by assumption) ?_|refine⟨_,.inl ⟨rfl,rfl⟩,?_⟩);conv=>whnf)|(refine bI ?_ ?_<;>intro<;>(conv=>whnf)<;>(try (exfalso;omega)))|(refine aJ ?_;conv=>whnf)|fail)
               all_goals first
                | (refine⟨(m+1,hs.set i (some ⟨g',h.n+1,c',o'⟩)),by dsimp only;omega,⟨by dsimp only;omega,hnx hTI ⟨g',h.n+1,c',o'⟩ ho'⟩,.refl _,.refl _,?_⟩
                   rw[cel_set hs i g' (h.n+1) c' o' obD]
                   (conv=>whnf);(first|rfl|simp[envCat, tkL0, SI.row, Node.row, Pfx.row, Link.row, srow, Line.row, Rule.row, Box.row, Slc.row, Config.row, irow, kRow, Prt.row, Eg.row, Route.row, cel])
                   done)
                | (refine⟨(m+1,hs.set i (some ⟨h.g,h.n+1,h.c,o'⟩)),by dsimp only;omega,⟨by dsimp only;omega,hnx hTI ⟨h.g,h.n+1,h.c,o'⟩ ho'⟩,.refl _,.refl _,?_⟩
                   rw[cel_set hs i h.g (h.n+1) h.c o' obD]
                   (conv=>whnf);(first|rfl|simp[envCat, tkL0, SI.row, Node.row, Pfx.row, Link.row, srow, Line.row, Rule.row, Box.row, Slc.row, Config.row, irow, kRow, Prt.row, Eg.row, Route.row, cel])
                   done)
           . obtain rfl:m=b.routes.l.length:=by omega
             rw[List.take_length] at hTI
             (try (conv=>whnf));repeat' (first|refine OkB.seq ?_|((first|refine OkB.of_okM (OkM.region tok ?_)|refine OkB.cond ?_|refine OkB.exit ?_|refine nI ?_);conv=>whnf)|(refine bI ?_ ?_<;>intro<;>(conv=>whnf)<;>(try (exfalso;omega)))|fail)
             refine⟨(i+1,hs),by dsimp only;omega,⟨by dsimp only;omega,by dsimp only;rw[<- wlF_next hb];exact hTI⟩,.refl _,.refl _,?_⟩
             (conv=>whnf);(first|rfl|simp[envCat, tkL0, SI.row, Node.row, Pfx.row, Link.row, srow, Line.row, Rule.row, Box.row, Slc.row, Config.row, irow, kRow, Prt.row, Eg.row, Route.row, cel])
       . obtain rfl:i=c.boxes.l.length:=by omega
         (try (conv=>whnf));repeat' (first|refine OkB.seq ?_|((first|refine OkB.of_okM (OkM.region tok ?_)|refine OkB.cond ?_|refine OkB.exit ?_|refine OkB.ret ?_);conv=>whnf)|(refine bI ?_ ?_<;>intro<;>(conv=>whnf)<;>(try (exfalso;omega)))|fail)
         refine⟨hs,⟨rfl,hTI⟩,List.nil_sublist _,.refl _,?_⟩
         (conv=>whnf);(first|rfl|simp[envCat, tkL0, SI.row, Node.row, Pfx.row, Link.row, srow, Line.row, Rule.row, Box.row, Slc.row, Config.row, irow, kRow, Prt.row, Eg.row, Route.row, cel])
   . rintro e hs ⟨he,hTI⟩
     subst he
     (conv=>whnf)
     (try (conv=>whnf));repeat' (first|(refine OkB.region (id:=17) tok ?_;conv=>whnf)|refine OkB.seq ?_|((first|refine OkB.of_okM (OkM.region tok ?_)|refine OkB.cond ?_|refine OkB.skip ?_);conv=>whnf)|(refine bI ?_ ?_<;>intro<;>(conv=>whnf)<;>(try (exfalso;omega)))|fail)
     refine Or.inr (Or.inr ?_);(conv=>whnf);refine⟨_,_,Tryz.func37,rfl,Tryz.call37,?_⟩;(conv=>whnf)
     refine OkB.joinU [85,90,91] [4] 1 1 (fun (x:Int × List (Option Hd))=>[.i .i64 x.1]) (fun (x:Int × List (Option Hd)) (_:List (List D))=>[c.row]) (fun (x:Int × List (Option Hd)) (_:Vx.Rows)=>[some (55,x.2.map cel)]) (fun (x:Int × List (Option Hd))=>[]) (fun (x:Int × List (Option Hd))=>bt x.2) (fun e (x:Int × List (Option Hd))=>e = .ret/\x.2.length=c.boxes.l.length/\(x.1=0->∃ ks:List Key,(∀ k,k ∈ ks ↔ byF (ownN c.boxes.l c.boxes.l.length) k ≠ [])/\(∀ k ∈ ks,graphE c.boxes.l.length (egsF c.b) (byF (ownN c.boxes.l c.boxes.l.length) k)=0)/\TabI 57 Route.row x.2 (clF c ks ks.length 0))) ?_;(conv=>whnf);refine And.intro ?_ ?_
     . have hel:=egsF_len h4
       have hll:=(count_ok h1).2.2.1
       have hem:((egsF c.b).map Eg.row).length=(egsF c.b).length:=by simp
       (try (conv=>whnf));repeat' (first|(refine OkB.region (id:=4) tok ?_;conv=>whnf)|(refine Or.inr (Or.inl ?_);(conv=>whnf);(repeat (refine aI ?_;conv=>whnf));refine⟨_,medges_ok c hc ht h0,?_⟩;rintro _ _ _ ⟨⟨rfl,rfl⟩,rfl⟩<;>(conv=>whnf))|(refine Or.inr (Or.inl ?_);(conv=>whnf);(repeat (refine aI ?_;conv=>whnf));refine⟨_,owners_at c hc (by omega) hown , ?_⟩;rintro _ _ _ ⟨gm,l,cl,ks,rfl,rfl,rfl,hO,hks,hkn⟩<;>(conv=>whnf))|refine OkB.seq ?_|((first|refine OkB.of_okM (OkM.region tok ?_)|refine OkB.cond ?_);conv=>whnf)|refine OkB.block ?_|(refine OkB.skip ?_;conv=>whnf)|(refine bI ?_ ?_<;>intro<;>(conv=>whnf)<;>(try (exfalso;omega)))|fail)
       have hkm:(ks.map kRow).length=ks.length:=by simp
       refine OkB.loopU [1,2,5,7,28,29,85,90,91] [30] 2 2 (fun (x:Nat × List (Option Hd) × Ents × Nat)=>[.i .i64 (x.1:Nat)]) (fun (x:Nat × List (Option Hd) × Ents × Nat) (_:List (List D))=>[c.row,c.row]) (fun (x:Nat × List (Option Hd) × Ents × Nat) (_:Vx.Rows)=>[some (55,x.2.1.map cel),some (122,(egsF c.b).map Eg.row)]) (fun (x:Nat × List (Option Hd) × Ents × Nat)=>[(gm,mObj kP fS x.2.2.1 x.2.2.2)]) (fun (x:Nat × List (Option Hd) × Ents × Nat)=>bo x.2.2.1++bt x.2.1) (fun (x:Nat × List (Option Hd) × Ents × Nat)=>x.1<=ks.length/\TabI 57 Route.row x.2.1 (clF c ks x.1 0)/\(∀ k ∈ ks.take x.1,graphE c.boxes.l.length (egsF c.b) (byF (ownN c.boxes.l c.boxes.l.length) k)=0)/\OI (ownN c.boxes.l c.boxes.l.length) x.2.2.1 x.2.2.2) (fun (x:Nat × List (Option Hd) × Ents × Nat)=>ks.length - x.1) ((0,hs,l,cl)) (⟨Nat.zero_le _,by rw[clF_zero];exact hTI,by simp,hO⟩) (by first|exact .refl _|exact .cons _ (.refl _)|exact List.nil_sublist _|assumption|(dsimp only;rw[bt_none];exact .refl _)) (by first|exact .refl _|exact .cons _ (.refl _)|exact List.nil_sublist _|assumption|(dsimp only;rw[bt_none];exact .refl _)) ?_;(conv=>whnf);refine⟨by ((conv=>whnf);first|rfl|(simp[envCat, tkL0, SI.row, Node.row, Pfx.row, Link.row, srow, Line.row, Rule.row, Box.row, Slc.row, Config.row, irow, kRow, Prt.row, Eg.row, Route.row, cel];done)|(simp[envCat, tkL0, SI.row, Node.row, Pfx.row, Link.row, srow, Line.row, Rule.row, Box.row, Slc.row, Config.row, irow, kRow, Prt.row, Eg.row, Route.row, cel];rw[IntKind.wrap_i64];omega)),?_⟩
       have hks':∀ k,k ∈ ks ↔ byF (ownN c.boxes.l c.boxes.l.length) k ≠ []:=by
        intro k
        rw[hks k]
        rcases hO.cases k with⟨q1,q2⟩|⟨x,q1,q2,_⟩
        . rw[q1,q2];simp
        . rw[q1];simp[q2]
       clear hO hks hTI hs l cl
       rintro⟨n,hs,l,cl⟩ ⟨hn,hTI,hgr,hO⟩
       dsimp only at hn hTI hgr hO ⊢
       (conv=>whnf)
       have hsl:hs.length=c.boxes.l.length:=by rw[hTI.1];simp[clF]
       by_cases hnl:n<ks.length
       . obtain⟨k,hk⟩:∃ k,ks[n]? = some k:=⟨_,gEt0 hnl⟩
         have hkI:ks[((n:Nat):Int).toNat]? = some k:=hk
         have hkr:(ks.map kRow)[((n:Nat):Int).toNat]? = some (kRow k):=by rw[gMp0,hkI];rfl
         have hkk:=mOf0 hk
         obtain⟨h,hlk,hne,hbk⟩:∃ x:Hd,lk l k=some (some x)/\byF (ownN c.boxes.l c.boxes.l.length) k ≠ []/\BlkIs (szOf T) 3 x.n x.c ((byF (ownN c.boxes.l c.boxes.l.length) k).map irow) x.o:=by
          rcases hO.cases k with⟨_,q2⟩|q
          . exact absurd q2 ((hks' k).1 hkk)
          . exact q
         have hhn:=(blk_len hbk).1
         have hsp:FSpec Tryz.prog T 61 [.i .i64 ((c.boxes.l.map Box.row).length:Nat),.lst 122 (((egsF c.b).map Eg.row).take (egsF c.b).length) (((egsF c.b).map Eg.row).drop (egsF c.b).length),.lst 3 (((byF (ownN c.boxes.l c.boxes.l.length) k).map irow).take h.n) (((byF (ownN c.boxes.l c.boxes.l.length) k).map irow).drop h.n)]
             (fun d rows=>rows=[some (3,(farK c k).map irow),some (3,(fstK c k).map irow)]/\d = .tup [.own 0 (farK c k).length,.own 1 (fstK c k).length,.i .i64 (graphE c.boxes.l.length (egsF c.b) (byF (ownN c.boxes.l c.boxes.l.length) k))]):=by
          have:=Shortest_at (c.boxes.l.map Box.row).length (egsF c.b) (byF (ownN c.boxes.l c.boxes.l.length) k) (re:=((egsF c.b).map Eg.row).take (egsF c.b).length) (se:=((egsF c.b).map Eg.row).drop (egsF c.b).length) (rd:=((byF (ownN c.boxes.l c.boxes.l.length) k).map irow).take h.n) (sd:=((byF (ownN c.boxes.l c.boxes.l.length) k).map irow).drop h.n) (take_all _ _) (tkL0 (by omega))
          rw[hbl] at this ⊢
          exact this
         (try (conv=>whnf));repeat' (first|(refine OkB.perm (c:=.region 8 _ _) ((bo_out hlk).append_right _) ?_)|(refine OkB.go (c:=.region 8 _ _) (GoH.open 500 hbk ?_);conv=>whnf)|(refine⟨_,_,_,_,_,_,_,k,mtBy,.head _,rfl,?_⟩;rw[hlk];conv=>whnf)|(refine Or.inl ?_;(conv=>whnf);refine Or.inr (Or.inr (Or.inr ?_));(conv=>whnf);refine effK.untieN 2 500 rfl rfl rfl (Nat.le_refl _) ?_;refine effK.expo (ts:=[3,102,74]) Tryz.call61 ?_;(conv=>whnf);(repeat (refine aI ?_;conv=>whnf));refine⟨_,hsp,?_⟩;rintro _ _ ⟨rfl,rfl⟩;(refine And.intro (by simp[gRowsP,grounds,D.ground,irow]) ?_;conv=>whnf))|(refine OkB.go (c:=.region 9 _ _) (GoH.close tok (t0:=500) (ti:=_) rfl rfl rfl (irow_ground _) fun o' ho'=>?_);conv=>whnf)|(refine OkB.perm (c:=.region 9 _ _) ((bo_in l cl k ⟨h.g,h.n,h.c,o'⟩).append_right _) ?_)|refine OkB.seq ?_|((first|refine OkB.of_okM (OkM.region tok ?_)|refine OkB.of_okM (OkM.region_tree (id:=8) tok follows [(5,6,[]),(1,7,[2]),(5,7,[6]),(6,7,[])] (.q 0 (.q 1 (.q 2 (.q 3 (.q 4 (.q 5 (.l 6 (.l 7 (.q 8 (.q 9 (.q 10 (.q 11 (.q 12 (.q 13 (.q 14 .nil))))))))))))))) (by kernel_rfl) ?_)|refine OkB.cond ?_);conv=>whnf)|refine OkB.block ?_|((first|refine OkB.skip ?_|refine OkB.ret ?_|refine ix _ (by assumption) ?_);conv=>whnf)|(refine bI ?_ ?_<;>intro<;>(conv=>whnf)<;>(try (exfalso;omega)))|fail)
         case refine_1.refine_1=>
          refine⟨(graphE c.boxes.l.length (egsF c.b) (byF (ownN c.boxes.l c.boxes.l.length) k),hs),⟨rfl,hsl,fun e=>absurd e (by assumption)⟩,List.nil_sublist _,List.sublist_append_right _ _,?_⟩
          (conv=>whnf);(first|rfl|simp[envCat, tkL0, SI.row, Node.row, Pfx.row, Link.row, srow, Line.row, Rule.row, Box.row, Slc.row, Config.row, irow, kRow, Prt.row, Eg.row, Route.row, cel])
         rename_i hgz
         have hgz:graphE c.boxes.l.length (egsF c.b) (byF (ownN c.boxes.l c.boxes.l.length) k)=0:=Classical.not_not.1 hgz
         have hO':=hO.re hlk ho'
         have hob:=obj_same kP cl hlk o'
         obtain⟨l',hl'⟩:∃ l',l'=(mput l cl k (some ⟨h.g,h.n,h.c,o'⟩)).1:=⟨_,rfl⟩
         obtain⟨cl',hcl'⟩:∃ cl',cl'=(mput l cl k (some ⟨h.g,h.n,h.c,o'⟩)).2:=⟨_,rfl⟩
         rw[<- hl',<- hcl'] at hO' hob
         rw[<- hl',<- hob]
         obtain⟨hd,hf,hce⟩:=key_dist (ks:=[k]) (fun k' hk'=>by rw[List.mem_singleton.1 hk'];exact hgz) (List.mem_singleton.2 rfl)
         have hfl1:((farK c k).map irow).length=(farK c k).length:=by simp
         have hfl2:((fstK c k).map irow).length=(fstK c k).length:=by simp
         have hfl3:=hd.len
         have hfl4:=hf.1
         have hrl:∀ j n,(rawF c ks n j).length<=3000000:=fun j n=>by
          have:=raws_le h1 ks j n
          omega
         refine OkB.loopU [1,2,5,7,10,11,12,28,29,30,51,85,90,91] [52] 5 3 (fun (x:Nat × List (Option Hd))=>[.i .i64 (x.1:Nat)]) (fun (x:Nat × List (Option Hd)) (_:List (List D))=>[c.row,c.row,kRow k]) (fun (x:Nat × List (Option Hd)) (_:Vx.Rows)=>[some (55,x.2.map cel),some (122,(egsF c.b).map Eg.row),none,some (3,(farK c k).map irow),some (3,(fstK c k).map irow)]) (fun (x:Nat × List (Option Hd))=>[(gm,mObj kP fS l' cl')]) (fun (x:Nat × List (Option Hd))=>bo l'++bt x.2) (fun (x:Nat × List (Option Hd))=>x.1<=c.boxes.l.length/\TabI 57 Route.row x.2 (clF c ks n x.1)) (fun (x:Nat × List (Option Hd))=>c.boxes.l.length - x.1) ((0,hs)) (⟨Nat.zero_le _,hTI⟩) (by first|exact .refl _|exact .cons _ (.refl _)|exact List.nil_sublist _|assumption|(dsimp only;rw[bt_none];exact .refl _)) (by first|exact .refl _|exact .cons _ (.refl _)|exact List.nil_sublist _|assumption|(dsimp only;rw[bt_none];exact .refl _)) ?_;(conv=>whnf);refine⟨by ((conv=>whnf);first|rfl|(simp[envCat, tkL0, SI.row, Node.row, Pfx.row, Link.row, srow, Line.row, Rule.row, Box.row, Slc.row, Config.row, irow, kRow, Prt.row, Eg.row, Route.row, cel];done)|(simp[envCat, tkL0, SI.row, Node.row, Pfx.row, Link.row, srow, Line.row, Rule.row, Box.row, Slc.row, Config.row, irow, kRow, Prt.row, Eg.row, Route.row, cel];rw[IntKind.wrap_i64];omega)),?_⟩
         clear hTI hsl hs
         rintro⟨j,hs⟩ ⟨hj,hTI⟩
         dsimp only at hj hTI ⊢
         have hsl:hs.length=c.boxes.l.length:=by rw[hTI.1];simp[clF]
         have hcm:(hs.map cel).length=hs.length:=by simp
         (conv=>whnf)
         by_cases hjl:j<c.boxes.l.length
         . obtain⟨xj,hfj⟩:∃ xj,(farK c k)[j]? = some xj:=⟨_,gEt0 (by omega)⟩
           have hfjI:(farK c k)[((j:Nat):Int).toNat]? = some xj:=hfj
           by_cases hpos:0<xj
           . obtain⟨jj,ed,hpj,hed⟩:∃ (jj:Nat) (ed:Eg),(fstK c k)[j]? = some (jj:Int)/\(egsF c.b)[jj]? = some ed:=by
               have hfi:=hf.2 j _ (gEt0 (by omega))
               rcases hfi with⟨_,hno⟩|⟨i',hi',_,hil',⟨e,x',y,g1,_⟩,_⟩
               . exfalso
                 rcases hd.tight j xj hfj (by omega) with⟨q0,_⟩|⟨e,he,q2,y,q3,q4,q5⟩
                 . omega
                 . obtain⟨i',hi'⟩:=List.getElem?_of_mem he
                   exact hno i' (Nat.zero_le _) (gSm0.1 hi').1 ⟨e,xj,y,hi',by omega,q3,q4,hfj,q5⟩
               . exact⟨i',e,by rw[gEt0 (by omega),hi'],g1⟩
             have hpjI:(fstK c k)[((j:Nat):Int).toNat]? = some (jj:Int):=hpj
             have hedI:(egsF c.b)[((jj:Nat):Int).toNat]? = some ed:=hed
             have hjj:jj<(egsF c.b).length:=(gSm0.1 hed).1
             have hcr:cmpR c j k=[(⟨3,k.1,k.2,ed.out⟩:Route)]:=by
              unfold cmpR
              rw[hfj,if_pos (by simpa using hpos)]
              unfold outE
              rw[hpj,Option.getD_some,Int.toNat_natCast,hed]
              rfl
             have hrs:=rawF_succ (c:=c) hk j
             rw[hcr] at hrs
             have hz:Route.row (⟨3,k.1,k.2,ed.out⟩:Route)=[.i .i64 3,.i .i64 k.1,.i .i64 k.2,.i .i64 ed.out]:=rfl
             have hnx:TabI 57 Route.row hs (clF c ks n j)->∀ x:Hd,BlkIs (szOf T) 57 x.n x.c ((rawF c ks n j++[(⟨3,k.1,k.2,ed.out⟩:Route)]).map Route.row) x.o->TabI 57 Route.row (hs.set j (some x)) (clF c ks n (j+1)):=fun h x hx=>by
              rw[<- hrs] at hx
              have:=h.set (i:=j) hx
              rwa [clF_set] at this
             have hLl:(rawF c ks n j).length<=3000000:=hrl j n
             rcases hcell:hs[j]? with _|_|h
             . have:=List.getElem?_eq_none_iff.1 hcell
               omega
             . have hle:rawF c ks n j=[]:=hTI.2 j none _ hcell (clF_get hjl)
               (try (conv=>whnf));repeat' (first|((first|refine rd rfl hfjI ?_|refine rd rfl hcell ?_|refine rd rfl hpjI ?_|refine rd rfl hedI ?_);conv=>whnf)|(refine⟨500,?_⟩;(conv=>whnf);refine⟨by simp,_,.inl ⟨rfl,rfl⟩,?_⟩;(conv=>whnf);refine⟨by simp,by simp,[Route.row (⟨3,k.1,k.2,ed.out⟩:Route)],1,rfl,rfl,fun g' c' hc'=>?_⟩;(conv=>whnf))|((first|refine st (some ⟨g',1,c',obD⟩:Option Hd) hcell (by simp[cel]) rfl ?_|refine OkB.go (c:=.region 16 _ _) (GoH.close tok (t0:=500) (ti:=_) rfl rfl rfl (rt_ground [(⟨3,k.1,k.2,ed.out⟩:Route)]) fun o'' ho''=>?_));conv=>whnf)|(refine OkB.perm (c:=.region 16 _ _) (bb_in0 _ hcell ⟨g',1,c',o''⟩) ?_)|refine OkB.seq ?_|((first|refine OkB.of_okM (OkM.region tok ?_)|refine OkB.of_okM (OkM.of_ok (Ok.region_plan (id:=15) tok follows [(7,19,[18]),(9,19,[18]),(14,19,[18,17,16,15]),(17,19,[18]),(2,20,[5,4]),(3,20,[5,4]),(4,20,[5]),(5,20,[]),(6,20,[19,18,7]),(7,20,[19,18]),(8,20,[19,18,9]),(9,20,[19,18]),(10,20,[19,18,17,16,15]),(11,20,[19,18,17,16,15,14,13]),(12,20,[19,18,17,16,15,14,13]),(13,20,[19,18,17,16,15,14]),(14,20,[19,18,17,16,15]),(15,20,[19,18,17,16]),(16,20,[19,18,17]),(17,20,[19,18]),(18,20,[19]),(19,20,[]),(5,22,[]),(7,22,[]),(9,22,[]),(14,22,[]),(17,22,[]),(19,22,[]),(20,22,[])] [.q 0,.q 1,.q 2,.q 3,.q 4,.q 5,.q 6,.q 7,.q 8,.q 9,.q 10,.q 11,.q 12,.q 13,.q 14,.q 15,.q 16,.q 17,.q 18,.l 19,.l 20,.q 21,.l 22] (by kernel_rfl) ?_))|refine OkB.cond ?_);conv=>whnf)|refine OkB.block ?_|((first|refine OkB.skip ?_|refine nI ?_);conv=>whnf)|(refine bI ?_ ?_<;>intro<;>(conv=>whnf)<;>(try (exfalso;omega)))|(refine aJ ?_;conv=>whnf)|fail)
               all_goals first
                | (exfalso;rename_i hx;exact hx hpos)
                | (refine⟨(j+1,hs.set j (some ⟨g',1,c',o''⟩)),by dsimp only;omega,⟨by dsimp only;omega,hnx hTI ⟨g',1,c',o''⟩ (by rw[hle];exact ho'')⟩,.refl _,.refl _,?_⟩
                   rw[cel_set hs j g' 1 c' o'' obD]
                   (conv=>whnf);(first|rfl|simp[envCat, tkL0, SI.row, Node.row, Pfx.row, Link.row, srow, Line.row, Rule.row, Box.row, Slc.row, Config.row, irow, kRow, Prt.row, Eg.row, Route.row, cel])
                   done)
             . have hbk:=hTI.2 j (some h) _ hcell (clF_get hjl)
               have hnl:=(blk_len hbk).1
               have hml':((rawF c ks n j).map Route.row).length=(rawF c ks n j).length:=by simp only[lMp0]
               (try (conv=>whnf));repeat' (first|(refine rd rfl hfjI ?_;conv=>whnf)|(refine OkB.perm (c:=.region 15 _ _) (bb_out _ hcell) ?_)|((first|refine OkB.go (c:=.region 15 _ _) (GoH.open 500 hbk ?_)|refine rd rfl hcell ?_|refine rd rfl hpjI ?_|refine rd rfl hedI ?_|refine⟨500,501,5,rfl,?_⟩);conv=>whnf)|(refine⟨(rawF c ks n j++[(⟨3,k.1,k.2,ed.out⟩:Route)]).map Route.row,h.n+1,by rw[List.map_append,List.map_singleton];rfl,by rw[lMp0,List.length_append,List.length_singleton];omega,?_⟩;conv=>whnf)|(refine⟨fun _=>?_,fun _=>⟨5,by (conv=>whnf);exact True.intro,fun g' c' hc'=>?_⟩⟩<;>(conv=>whnf))|((first|refine st (some ⟨g',h.n+1,c',obD⟩:Option Hd) hcell (by simp[cel]) rfl ?_|refine st (some ⟨h.g,h.n+1,h.c,obD⟩:Option Hd) hcell (by simp[cel]) rfl ?_|refine OkB.go (c:=.region 16 _ _) (GoH.close tok (t0:=501) (ti:=_) rfl rfl rfl (rt_ground _) fun o'' ho''=>?_)|refine OkB.go (c:=.region 16 _ _) (GoH.close tok (t0:=500) (ti:=_) rfl rfl rfl (rt_ground _) fun o'' ho''=>?_));conv=>whnf)|(refine OkB.perm (c:=.region 16 _ _) (bb_in _ ⟨g',h.n+1,c',o''⟩ (by omega)) ?_)|(refine OkB.perm (c:=.region 16 _ _) (bb_in _ ⟨h.g,h.n+1,h.c,o''⟩ (by omega)) ?_)|refine OkB.seq ?_|((first|refine OkB.of_okM (OkM.region tok ?_)|refine OkB.of_okM (OkM.of_ok (Ok.region_plan (id:=15) tok follows [(7,19,[18]),(9,19,[18]),(14,19,[18,17,16,15]),(17,19,[18]),(2,20,[5,4]),(3,20,[5,4]),(4,20,[5]),(5,20,[]),(6,20,[19,18,7]),(7,20,[19,18]),(8,20,[19,18,9]),(9,20,[19,18]),(10,20,[19,18,17,16,15]),(11,20,[19,18,17,16,15,14,13]),(12,20,[19,18,17,16,15,14,13]),(13,20,[19,18,17,16,15,14]),(14,20,[19,18,17,16,15]),(15,20,[19,18,17,16]),(16,20,[19,18,17]),(17,20,[19,18]),(18,20,[19]),(19,20,[]),(5,22,[]),(7,22,[]),(9,22,[]),(14,22,[]),(17,22,[]),(19,22,[]),(20,22,[])] [.q 0,.q 1,.q 2,.q 3,.q 4,.q 5,.q 6,.q 7,.q 8,.q 9,.q 10,.q 11,.q 12,.q 13,.q 14,.q 15,.q 16,.q 17,.q 18,.l 19,.l 20,.q 21,.l 22] (by kernel_rfl) ?_))|refine OkB.cond ?_);conv=>whnf)|refine OkB.block ?_|((first|refine OkB.skip ?_|refine nI ?_|refine⟨_,.inl ⟨rfl,rfl⟩,?_⟩);conv=>whnf)|(refine bI ?_ ?_<;>intro<;>(conv=>whnf)<;>(try (exfalso;omega)))|(refine aJ ?_;conv=>whnf)|fail)
               all_goals first
                | (exfalso;rename_i hx;exact hx hpos)
                | (refine⟨(j+1,hs.set j (some ⟨g',h.n+1,c',o''⟩)),by dsimp only;omega,⟨by dsimp only;omega,hnx hTI ⟨g',h.n+1,c',o''⟩ ho''⟩,.refl _,.refl _,?_⟩
                   rw[cel_set hs j g' (h.n+1) c' o'' obD]
                   (conv=>whnf);(first|rfl|simp[envCat, tkL0, SI.row, Node.row, Pfx.row, Link.row, srow, Line.row, Rule.row, Box.row, Slc.row, Config.row, irow, kRow, Prt.row, Eg.row, Route.row, cel])
                   done)
                | (refine⟨(j+1,hs.set j (some ⟨h.g,h.n+1,h.c,o''⟩)),by dsimp only;omega,⟨by dsimp only;omega,hnx hTI ⟨h.g,h.n+1,h.c,o''⟩ ho''⟩,.refl _,.refl _,?_⟩
                   rw[cel_set hs j h.g (h.n+1) h.c o'' obD]
                   (conv=>whnf);(first|rfl|simp[envCat, tkL0, SI.row, Node.row, Pfx.row, Link.row, srow, Line.row, Rule.row, Box.row, Slc.row, Config.row, irow, kRow, Prt.row, Eg.row, Route.row, cel])
                   done)
           . have hcr:cmpR c j k=[]:=by
               unfold cmpR
               rw[hfj,if_neg (by simpa using hpos)]
             have hrs:=rawF_succ (c:=c) hk j
             rw[hcr,List.append_nil] at hrs
             (try (conv=>whnf));repeat' (first|(refine rd rfl hfjI ?_;conv=>whnf)|refine OkB.seq ?_|((first|refine OkB.of_okM (OkM.region tok ?_)|refine OkB.cond ?_);conv=>whnf)|refine OkB.block ?_|((first|refine OkB.skip ?_|refine nI ?_);conv=>whnf)|(refine bI ?_ ?_<;>intro<;>(conv=>whnf)<;>(try (exfalso;omega)))|(refine aJ ?_;conv=>whnf)|fail)
             all_goals first
              | (exfalso;rename_i hx;exact hpos hx)
              | (refine⟨(j+1,hs),by dsimp only;omega,⟨by dsimp only;omega,by dsimp only;rw[clF_same hrs];exact hTI⟩,.refl _,.refl _,?_⟩
                 (conv=>whnf);(first|rfl|simp[envCat, tkL0, SI.row, Node.row, Pfx.row, Link.row, srow, Line.row, Rule.row, Box.row, Slc.row, Config.row, irow, kRow, Prt.row, Eg.row, Route.row, cel])
                 done)
         . obtain rfl:j=c.boxes.l.length:=by omega
           (try (conv=>whnf));repeat' (first|refine OkB.seq ?_|((first|refine OkB.of_okM (OkM.region tok ?_)|refine OkB.cond ?_|refine OkB.exit ?_|refine nI ?_);conv=>whnf)|(refine bI ?_ ?_<;>intro<;>(conv=>whnf)<;>(try (exfalso;omega)))|fail)
           refine⟨(n+1,hs,l',cl'),by dsimp only;omega,⟨by dsimp only;omega,by dsimp only;rw[<- clF_next];exact hTI,?_,hO'⟩,.refl _,.refl _,?_⟩
           . dsimp only
             rw[List.take_add_one,hk]
             intro k' hk'
             rcases mAp0.1 hk' with hk'|hk'
             . exact hgr k' hk'
             . have:k'=k:=by simpa using hk'
               rw[this]
               exact hgz
           . (conv=>whnf);(first|rfl|simp[envCat, tkL0, SI.row, Node.row, Pfx.row, Link.row, srow, Line.row, Rule.row, Box.row, Slc.row, Config.row, irow, kRow, Prt.row, Eg.row, Route.row, cel])
       . obtain rfl:n=ks.length:=by omega
         rw[List.take_length] at hgr
         (try (conv=>whnf));repeat' (first|refine OkB.seq ?_|((first|refine OkB.of_okM (OkM.region tok ?_)|refine OkB.cond ?_|refine OkB.exit ?_|refine OkB.ret ?_);conv=>whnf)|(refine bI ?_ ?_<;>intro<;>(conv=>whnf)<;>(try (exfalso;omega)))|fail)
         refine⟨(0,hs),⟨rfl,hsl,fun _=>⟨ks,hks',hgr,hTI⟩⟩,List.nil_sublist _,List.sublist_append_right _ _,?_⟩
         (conv=>whnf);(first|rfl|simp[envCat, tkL0, SI.row, Node.row, Pfx.row, Link.row, srow, Line.row, Rule.row, Box.row, Slc.row, Config.row, irow, kRow, Prt.row, Eg.row, Route.row, cel])
     . rintro e ⟨ce,hs⟩ ⟨he,hsl,hok⟩
       subst he
       dsimp only at hsl hok ⊢
       (conv=>whnf)
       by_cases hce:ce=0
       case neg=>
        (try (conv=>whnf));repeat' (first|refine OkB.seq ?_|((first|refine OkB.of_okM (OkM.region tok ?_)|refine OkB.cond ?_|refine OkB.ret ?_);conv=>whnf)|(refine bI ?_ ?_<;>intro<;>(conv=>whnf)<;>(try (exfalso;omega)))|fail)
        all_goals first
         | (exact absurd (by assumption) hce)
         | (refine Or.inl ?_;(conv=>whnf)
            exact⟨rfl,_,_,_,rfl,fun h=>absurd h hce⟩)
       subst hce
       obtain⟨ks,hks,hgr,hTI⟩:=hok rfl
       clear hok
       have hcm:(hs.map cel).length=hs.length:=by simp
       by_cases hsm:c.slim
       . (try (conv=>whnf));repeat' (first|refine OkB.seq ?_|((first|refine OkB.of_okM (OkM.region tok ?_)|refine OkB.cond ?_);conv=>whnf)|refine OkB.block ?_|(refine OkB.skip ?_;conv=>whnf)|(refine bI ?_ ?_<;>intro<;>(conv=>whnf)<;>(try (exfalso;omega)))|fail)
         all_goals try (exfalso;first|exact (by assumption:¬ c.slim) hsm|exact hsm (by assumption))
         have hsp:∀ (j:Nat) (rl sl:List (List D)),rl=(rawF c ks ks.length j).map Route.row->FSpec Tryz.prog T 39 [.i .i64 fb.n,.lst 57 rl sl] (fun d rows=>rows=[some (57,(layF c.slim (rbits c.b) (rawF c ks ks.length j)).map Route.row)]/\d = .tup [.own 0 (layF c.slim (rbits c.b) (rawF c ks ks.length j)).length,.i .i64 (checkE (rbits c.b) (rawF c ks ks.length j))]):=by
          intro j rl sl h
          have:=Slim_at fb.n (rawF c ks ks.length j) (rows:=rl) (room:=sl) h
          rw[<- f4] at this ⊢
          unfold layF
          rw[if_pos hsm]
          exact this
         obtain⟨L,hL⟩:∃ L,L=(List.range c.boxes.l.length).map fun j=>layF c.slim (rbits c.b) (rawF c ks ks.length j):=⟨_,rfl⟩
         have hLl:L.length=c.boxes.l.length:=by rw[hL];simp
         have hLg:∀ j,j<c.boxes.l.length->L[j]? = some (layF c.slim (rbits c.b) (rawF c ks ks.length j)):=fun j hj=>by rw[hL,gMp0,List.getElem?_range hj];rfl
         have e2:hs.map cel=tblR L hs 0:=by simp[tblR]
         rw[e2]
         refine OkB.loopU [6,7,12,62] [63] 1 1 (fun (j:Nat)=>[.i .i64 (j:Nat)]) (fun (j:Nat) (_:List (List D))=>[c.row]) (fun (j:Nat) (_:Vx.Rows)=>[some (55,tblR L hs j)]) (fun (j:Nat)=>[]) (fun (j:Nat)=>bt (hs.drop j)) (fun (j:Nat)=>j<=c.boxes.l.length/\∀ a,a<j->checkE (rbits c.b) (rawF c ks ks.length a)=0) (fun (j:Nat)=>c.boxes.l.length - j) (0) (⟨Nat.zero_le _,fun a h=>absurd h (Nat.not_lt_zero a)⟩) (by first|exact .refl _|exact .cons _ (.refl _)|exact List.nil_sublist _|assumption|(dsimp only;rw[bt_none];exact .refl _)) (by first|exact .refl _|exact .cons _ (.refl _)|exact List.nil_sublist _|assumption|(dsimp only;rw[bt_none];exact .refl _)) ?_;(conv=>whnf);refine⟨by ((conv=>whnf);first|rfl|(simp[envCat, tkL0, SI.row, Node.row, Pfx.row, Link.row, srow, Line.row, Rule.row, Box.row, Slc.row, Config.row, irow, kRow, Prt.row, Eg.row, Route.row, cel];done)|(simp[envCat, tkL0, SI.row, Node.row, Pfx.row, Link.row, srow, Line.row, Rule.row, Box.row, Slc.row, Config.row, irow, kRow, Prt.row, Eg.row, Route.row, cel];rw[IntKind.wrap_i64];omega)),?_⟩
         rintro j ⟨hj,hcz⟩
         have htl:(tblR L hs j).length=c.boxes.l.length:=by simp[tblR];omega
         (conv=>whnf)
         by_cases hjl:j<c.boxes.l.length
         . have hLj:=hLg j hjl
           rcases hcell:hs[j]? with _|_|h
           . have:=List.getElem?_eq_none_iff.1 hcell
             omega
           . have hget:=tblR_get (L:=L) hcell (by omega)
             have hgetI:(tblR L hs j)[((j:Nat):Int).toNat]? = some (cel none):=hget
             have hle:rawF c ks ks.length j=[]:=hTI.2 j none _ hcell (by rw[clF_get0 hjl])
             have hset:=tblR_set (hs:=hs) hLj (by omega) none
             (try (conv=>whnf));repeat' (first|((first|refine OkB.region (id:=26) tok ?_|refine⟨rfl,cel none,hgetI,?_⟩);conv=>whnf)|(refine Or.inr ?_;(conv=>whnf);refine effK.unnil 1 57 rfl rfl ?_;refine effK.expo (ts:=[3,55]) Tryz.call39 ?_;(conv=>whnf);(repeat (refine aI ?_;conv=>whnf));refine⟨_,hsp j _ _ (by rw[hle];rfl),?_⟩;rintro _ _ ⟨rfl,rfl⟩;(refine And.intro (by simp[gRowsP,grounds,D.ground,Route.row]) ?_;conv=>whnf))|(refine⟨cel none,hgetI,by simp[cel],tblR L hs (j+1),by rw[take_all,drop_all];exact hset.symm,?_⟩;conv=>whnf)|refine OkB.seq ?_|((first|refine OkB.of_okM (OkM.region tok ?_)|refine OkB.cond ?_);conv=>whnf)|refine OkB.block ?_|((first|refine OkB.skip ?_|refine OkB.ret ?_|refine nI ?_);conv=>whnf)|(refine bI ?_ ?_<;>intro<;>(conv=>whnf)<;>(try (exfalso;omega)))|(refine aJ ?_;conv=>whnf)|fail)
             all_goals first
              | (refine Or.inl ?_;(conv=>whnf)
                 exact⟨rfl,_,_,_,rfl,fun h=>absurd h (by assumption)⟩)
              | (refine⟨j+1,by omega,⟨by omega,fun a ha=>?_⟩,.refl _,by rw[bt_drop0 hcell];exact .refl _,?_⟩
                 . rcases Nat.lt_or_ge a j with h|h
                   . exact hcz a h
                   . obtain rfl:a=j:=by omega
                     exact Classical.not_not.1 (by assumption)
                 . (conv=>whnf);(first|rfl|simp[envCat, tkL0, SI.row, Node.row, Pfx.row, Link.row, srow, Line.row, Rule.row, Box.row, Slc.row, Config.row, irow, kRow, Prt.row, Eg.row, Route.row, cel])
                   done)
           . have hget:=tblR_get (L:=L) hcell (by omega)
             have hgetI:(tblR L hs j)[((j:Nat):Int).toNat]? = some (cel (some h)):=hget
             have hbk:=hTI.2 j (some h) _ hcell (by rw[clF_get0 hjl])
             have hnl:=(blk_len hbk).1
             have hset:=tblR_set (hs:=hs) hLj (by omega) (some h)
             (try (conv=>whnf));repeat' (first|(refine OkB.perm (c:=.region 26 _ _) (bt_drop hcell) ?_)|((first|refine OkB.go (c:=.region 26 _ _) (GoH.open 500 hbk ?_)|refine OkB.region (id:=26) tok ?_|refine⟨rfl,cel (some h),hgetI,?_⟩);conv=>whnf)|(refine Or.inr ?_;(conv=>whnf);refine effK.untieN 1 500 rfl rfl rfl (Nat.le_refl _) ?_;refine effK.expo (ts:=[3,55]) Tryz.call39 ?_;(conv=>whnf);(repeat (refine aI ?_;conv=>whnf));refine⟨_,hsp j _ _ (by exact tkL0 (by omega)),?_⟩;rintro _ _ ⟨rfl,rfl⟩;(refine And.intro (by simp[gRowsP,grounds,D.ground,Route.row]) ?_;conv=>whnf))|(refine⟨cel (some h),hgetI,by simp[cel],tblR L hs (j+1),by rw[take_all,drop_all];exact hset.symm,?_⟩;conv=>whnf)|refine OkB.seq ?_|((first|refine OkB.of_okM (OkM.region tok ?_)|refine OkB.cond ?_);conv=>whnf)|refine OkB.block ?_|((first|refine OkB.skip ?_|refine OkB.ret ?_|refine nI ?_);conv=>whnf)|(refine bI ?_ ?_<;>intro<;>(conv=>whnf)<;>(try (exfalso;omega)))|(refine aJ ?_;conv=>whnf)|fail)
             all_goals first
              | (refine Or.inl ?_;(conv=>whnf)
                 exact⟨rfl,_,_,_,rfl,fun h=>absurd h (by assumption)⟩)
              | (refine⟨j+1,by omega,⟨by omega,fun a ha=>?_⟩,.refl _,.refl _,?_⟩
                 . rcases Nat.lt_or_ge a j with h|h
                   . exact hcz a h
                   . obtain rfl:a=j:=by omega
                     exact Classical.not_not.1 (by assumption)
                 . (conv=>whnf);(first|rfl|simp[envCat, tkL0, SI.row, Node.row, Pfx.row, Link.row, srow, Line.row, Rule.row, Box.row, Slc.row, Config.row, irow, kRow, Prt.row, Eg.row, Route.row, cel])
                   done)
         . obtain rfl:j=c.boxes.l.length:=by omega
           have hend:tblR L hs c.boxes.l.length=L.map tbRow:=by
            unfold tblR
            rw[tkL0 (by omega),List.drop_of_length_le (by omega)]
            simp
           (try (conv=>whnf));repeat' (first|refine OkB.seq ?_|((first|refine OkB.of_okM (OkM.region tok ?_)|refine OkB.cond ?_|refine OkB.exit ?_|refine OkB.ret ?_);conv=>whnf)|(refine bI ?_ ?_<;>intro<;>(conv=>whnf)<;>(try (exfalso;omega)))|fail)
           refine Or.inl ?_;(conv=>whnf)
           refine⟨rfl,_,_,_,rfl,fun _=>⟨h0,.inr ⟨L,⟨hLl,ks,hks,hgr,fun i hi=>⟨hcz i hi,hLg i hi⟩⟩,?_⟩⟩⟩
           rw[hend]
           exact tkL0 (by simp;omega)
       . (try (conv=>whnf));repeat' (first|refine OkB.seq ?_|((first|refine OkB.of_okM (OkM.region tok ?_)|refine OkB.cond ?_);conv=>whnf)|refine OkB.block ?_|(refine OkB.skip ?_;conv=>whnf)|(refine bI ?_ ?_<;>intro<;>(conv=>whnf)<;>(try (exfalso;omega)))|fail)
         all_goals try (exfalso;first|exact (by assumption:¬ c.slim) hsm|exact hsm (by assumption))
         have hsp:∀ (j:Nat) (rl sl:List (List D)),rl=(rawF c ks ks.length j).map Route.row->FSpec Tryz.prog T 38 [.i .i64 fb.n,.lst 57 rl sl] (fun d rows=>rows=[some (57,(layF c.slim (rbits c.b) (rawF c ks ks.length j)).map Route.row)]/\d = .tup [.own 0 (layF c.slim (rbits c.b) (rawF c ks ks.length j)).length,.i .i64 (checkE (rbits c.b) (rawF c ks ks.length j))]):=by
          intro j rl sl h
          have:=Order_at fb.n (rawF c ks ks.length j) (rl:=rl) (sl:=sl) h
          rw[<- f4] at this ⊢
          unfold layF
          rw[if_neg hsm]
          exact this
         obtain⟨L,hL⟩:∃ L,L=(List.range c.boxes.l.length).map fun j=>layF c.slim (rbits c.b) (rawF c ks ks.length j):=⟨_,rfl⟩
         have hLl:L.length=c.boxes.l.length:=by rw[hL];simp
         have hLg:∀ j,j<c.boxes.l.length->L[j]? = some (layF c.slim (rbits c.b) (rawF c ks ks.length j)):=fun j hj=>by rw[hL,gMp0,List.getElem?_range hj];rfl
         have e2:hs.map cel=tblR L hs 0:=by simp[tblR]
         rw[e2]
         refine OkB.loopU [6,7,12,62] [63] 1 1 (fun (j:Nat)=>[.i .i64 (j:Nat)]) (fun (j:Nat) (_:List (List D))=>[c.row]) (fun (j:Nat) (_:Vx.Rows)=>[some (55,tblR L hs j)]) (fun (j:Nat)=>[]) (fun (j:Nat)=>bt (hs.drop j)) (fun (j:Nat)=>j<=c.boxes.l.length/\∀ a,a<j->checkE (rbits c.b) (rawF c ks ks.length a)=0) (fun (j:Nat)=>c.boxes.l.length - j) (0) (⟨Nat.zero_le _,fun a h=>absurd h (Nat.not_lt_zero a)⟩) (by first|exact .refl _|exact .cons _ (.refl _)|exact List.nil_sublist _|assumption|(dsimp only;rw[bt_none];exact .refl _)) (by first|exact .refl _|exact .cons _ (.refl _)|exact List.nil_sublist _|assumption|(dsimp only;rw[bt_none];exact .refl _)) ?_;(conv=>whnf);refine⟨by ((conv=>whnf);first|rfl|(simp[envCat, tkL0, SI.row, Node.row, Pfx.row, Link.row, srow, Line.row, Rule.row, Box.row, Slc.row, Config.row, irow, kRow, Prt.row, Eg.row, Route.row, cel];done)|(simp[envCat, tkL0, SI.row, Node.row, Pfx.row, Link.row, srow, Line.row, Rule.row, Box.row, Slc.row, Config.row, irow, kRow, Prt.row, Eg.row, Route.row, cel];rw[IntKind.wrap_i64];omega)),?_⟩
         rintro j ⟨hj,hcz⟩
         have htl:(tblR L hs j).length=c.boxes.l.length:=by simp[tblR];omega
         (conv=>whnf)
         by_cases hjl:j<c.boxes.l.length
         . have hLj:=hLg j hjl
           rcases hcell:hs[j]? with _|_|h
           . have:=List.getElem?_eq_none_iff.1 hcell
             omega
           . have hget:=tblR_get (L:=L) hcell (by omega)
             have hgetI:(tblR L hs j)[((j:Nat):Int).toNat]? = some (cel none):=hget
             have hle:rawF c ks ks.length j=[]:=hTI.2 j none _ hcell (by rw[clF_get0 hjl])
             have hset:=tblR_set (hs:=hs) hLj (by omega) none
             (try (conv=>whnf));repeat' (first|((first|refine OkB.region (id:=26) tok ?_|refine⟨rfl,cel none,hgetI,?_⟩);conv=>whnf)|(refine Or.inr ?_;(conv=>whnf);refine effK.unnil 1 57 rfl rfl ?_;refine effK.expo (ts:=[3,55]) Tryz.call38 ?_;(conv=>whnf);(repeat (refine aI ?_;conv=>whnf));refine⟨_,hsp j _ _ (by rw[hle];rfl),?_⟩;rintro _ _ ⟨rfl,rfl⟩;(refine And.intro (by simp[gRowsP,grounds,D.ground,Route.row]) ?_;conv=>whnf))|(refine⟨cel none,hgetI,by simp[cel],tblR L hs (j+1),by rw[take_all,drop_all];exact hset.symm,?_⟩;conv=>whnf)|refine OkB.seq ?_|((first|refine OkB.of_okM (OkM.region tok ?_)|refine OkB.cond ?_);conv=>whnf)|refine OkB.block ?_|((first|refine OkB.skip ?_|refine OkB.ret ?_|refine nI ?_);conv=>whnf)|(refine bI ?_ ?_<;>intro<;>(conv=>whnf)<;>(try (exfalso;omega)))|(refine aJ ?_;conv=>whnf)|fail)
             all_goals first
              | (refine Or.inl ?_;(conv=>whnf)
                 exact⟨rfl,_,_,_,rfl,fun h=>absurd h (by assumption)⟩)
              | (refine⟨j+1,by omega,⟨by omega,fun a ha=>?_⟩,.refl _,by rw[bt_drop0 hcell];exact .refl _,?_⟩
                 . rcases Nat.lt_or_ge a j with h|h
                   . exact hcz a h
                   . obtain rfl:a=j:=by omega
                     exact Classical.not_not.1 (by assumption)
                 . (conv=>whnf);(first|rfl|simp[envCat, tkL0, SI.row, Node.row, Pfx.row, Link.row, srow, Line.row, Rule.row, Box.row, Slc.row, Config.row, irow, kRow, Prt.row, Eg.row, Route.row, cel])
                   done)
           . have hget:=tblR_get (L:=L) hcell (by omega)
             have hgetI:(tblR L hs j)[((j:Nat):Int).toNat]? = some (cel (some h)):=hget
             have hbk:=hTI.2 j (some h) _ hcell (by rw[clF_get0 hjl])
             have hnl:=(blk_len hbk).1
             have hset:=tblR_set (hs:=hs) hLj (by omega) (some h)
             (try (conv=>whnf));repeat' (first|(refine OkB.perm (c:=.region 26 _ _) (bt_drop hcell) ?_)|((first|refine OkB.go (c:=.region 26 _ _) (GoH.open 500 hbk ?_)|refine OkB.region (id:=26) tok ?_|refine⟨rfl,cel (some h),hgetI,?_⟩);conv=>whnf)|(refine Or.inr ?_;(conv=>whnf);refine effK.untieN 1 500 rfl rfl rfl (Nat.le_refl _) ?_;refine effK.expo (ts:=[3,55]) Tryz.call38 ?_;(conv=>whnf);(repeat (refine aI ?_;conv=>whnf));refine⟨_,hsp j _ _ (by exact tkL0 (by omega)),?_⟩;rintro _ _ ⟨rfl,rfl⟩;(refine And.intro (by simp[gRowsP,grounds,D.ground,Route.row]) ?_;conv=>whnf))|(refine⟨cel (some h),hgetI,by simp[cel],tblR L hs (j+1),by rw[take_all,drop_all];exact hset.symm,?_⟩;conv=>whnf)|refine OkB.seq ?_|((first|refine OkB.of_okM (OkM.region tok ?_)|refine OkB.cond ?_);conv=>whnf)|refine OkB.block ?_|((first|refine OkB.skip ?_|refine OkB.ret ?_|refine nI ?_);conv=>whnf)|(refine bI ?_ ?_<;>intro<;>(conv=>whnf)<;>(try (exfalso;omega)))|(refine aJ ?_;conv=>whnf)|fail)
             all_goals first
              | (refine Or.inl ?_;(conv=>whnf)
                 exact⟨rfl,_,_,_,rfl,fun h=>absurd h (by assumption)⟩)
              | (refine⟨j+1,by omega,⟨by omega,fun a ha=>?_⟩,.refl _,.refl _,?_⟩
                 . rcases Nat.lt_or_ge a j with h|h
                   . exact hcz a h
                   . obtain rfl:a=j:=by omega
                     exact Classical.not_not.1 (by assumption)
                 . (conv=>whnf);(first|rfl|simp[envCat, tkL0, SI.row, Node.row, Pfx.row, Link.row, srow, Line.row, Rule.row, Box.row, Slc.row, Config.row, irow, kRow, Prt.row, Eg.row, Route.row, cel])
                   done)
         . obtain rfl:j=c.boxes.l.length:=by omega
           have hend:tblR L hs c.boxes.l.length=L.map tbRow:=by
            unfold tblR
            rw[tkL0 (by omega),List.drop_of_length_le (by omega)]
            simp
           (try (conv=>whnf));repeat' (first|refine OkB.seq ?_|((first|refine OkB.of_okM (OkM.region tok ?_)|refine OkB.cond ?_|refine OkB.exit ?_|refine OkB.ret ?_);conv=>whnf)|(refine bI ?_ ?_<;>intro<;>(conv=>whnf)<;>(try (exfalso;omega)))|fail)
           refine Or.inl ?_;(conv=>whnf)
           refine⟨rfl,_,_,_,rfl,fun _=>⟨h0,.inr ⟨L,⟨hLl,ks,hks,hgr,fun i hi=>⟨hcz i hi,hLg i hi⟩⟩,?_⟩⟩⟩
           rw[hend]
           exact tkL0 (by simp;omega)
end Go.Proofs.YtnlingegeangmaaGreatDoor
namespace Go.Proofs.YtnlingegeangmaaGreatDoor
open Go Go.Vx
theorem plain_at(c:Config)(hc:c.Ok)(ht:c.Tx):FSpec Tryz.prog T 15 [.agg c.row] (fun d rows=>rows=[]/\∃ P,d = .b P/\(P->(∀ b ∈ c.boxes.l,b.routes.l=[])/\∀ b ∈ c.boxes.l,∀ p ∈ b.owns.l,∀ x ∈ c.links.l,x.frm ≠ dot b.name p.dst)):=by
 have hbl:(c.boxes.l.map Box.row).length=c.boxes.l.length:=by simp
 have hll:(c.links.l.map Link.row).length=c.links.l.length:=by simp
 have hbn:=hc.boxes
 have hln:=hc.links
 refine FSpec.of_ok tok Tryz.func15 rfl Tryz.call15 (by simp) ?_
 (try (conv=>whnf));repeat' (first|refine Ok.seq ?_|(refine Ok.region tok ?_;conv=>whnf)|refine Ok.block ?_|fail)
 refine Ok.loopU [1] [3] 0 1 (fun (i:Nat)=>[.i .i64 (i:Nat)]) (fun (i:Nat) (_:List (List D))=>[c.row]) (fun _ r=>r) (fun (i:Nat)=>i<=c.boxes.l.length/\∀ b ∈ c.boxes.l.take i,b.routes.l=[]/\∀ p ∈ b.owns.l,∀ x ∈ c.links.l,x.frm ≠ dot b.name p.dst) (fun (i:Nat)=>c.boxes.l.length - i) (0) (⟨Nat.zero_le _,by simp⟩) ?_;(conv=>whnf);refine⟨by ((conv=>whnf);first|rfl|(simp[envCat, tkL0, SI.row, Node.row, Pfx.row, Link.row, srow, Line.row, Rule.row, Box.row, Slc.row, Config.row, tbRow, Route.row];done)|(simp[envCat, tkL0, SI.row, Node.row, Pfx.row, Link.row, srow, Line.row, Rule.row, Box.row, Slc.row, Config.row, tbRow, Route.row];rw[IntKind.wrap_i64];omega)),?_⟩
 rintro i ⟨hi,hok⟩
 (conv=>whnf)
 by_cases hil:i<c.boxes.l.length
 . obtain⟨b,hb⟩:∃ b,c.boxes.l[i]? = some b:=⟨_,gEt0 hil⟩
   have hbI:c.boxes.l[((i:Nat):Int).toNat]? = some b:=hb
   have hbr:(c.boxes.l.map Box.row)[((i:Nat):Int).toNat]? = some b.row:=by rw[gMp0,hbI];rfl
   have hol:(b.owns.l.map Pfx.row).length=b.owns.l.length:=by simp
   have hrl:(b.routes.l.map Pfx.row).length=b.routes.l.length:=by simp
   have hbm:=mOf0 hb
   have hom:=(hc.box b hbm).owns
   have hbt:=ht.boxes b hbm
   have hn1:b.name.length<=1048576:=hbt.name
   (try (conv=>whnf));repeat' (first|refine Ok.seq ?_|((first|refine Ok.region tok ?_|refine Ok.cond ?_);conv=>whnf)|refine Ok.block ?_|((first|refine Ok.skip ?_|refine Ok.ret ?_|refine ix _ (by assumption) ?_);conv=>whnf)|(refine bI ?_ ?_<;>intro<;>(conv=>whnf)<;>(try (exfalso;omega)))|fail)
   case refine_1=>
    refine Or.inl ?_;(conv=>whnf)
    exact⟨rfl,False,rfl,False.elim⟩
   rename_i hrz
   have hrn:b.routes.l=[]:=List.eq_nil_of_length_eq_zero (by omega)
   refine Ok.loopU [1,3,4] [5] 0 2 (fun (k:Nat)=>[.i .i64 (k:Nat)]) (fun (k:Nat) (_:List (List D))=>[c.row,b.row]) (fun _ r=>r) (fun (k:Nat)=>k<=b.owns.l.length/\∀ p ∈ b.owns.l.take k,∀ x ∈ c.links.l,x.frm ≠ dot b.name p.dst) (fun (k:Nat)=>b.owns.l.length - k) (0) (⟨Nat.zero_le _,by simp⟩) ?_;(conv=>whnf);refine⟨by ((conv=>whnf);first|rfl|(simp[envCat, tkL0, SI.row, Node.row, Pfx.row, Link.row, srow, Line.row, Rule.row, Box.row, Slc.row, Config.row, tbRow, Route.row];done)|(simp[envCat, tkL0, SI.row, Node.row, Pfx.row, Link.row, srow, Line.row, Rule.row, Box.row, Slc.row, Config.row, tbRow, Route.row];rw[IntKind.wrap_i64];omega)),?_⟩
   rintro k ⟨hk,hok2⟩
   (conv=>whnf)
   by_cases hkl:k<b.owns.l.length
   . obtain⟨p,hp⟩:∃ p,b.owns.l[k]? = some p:=⟨_,gEt0 hkl⟩
     have hpI:b.owns.l[((k:Nat):Int).toNat]? = some p:=hp
     have hpr:(b.owns.l.map Pfx.row)[((k:Nat):Int).toNat]? = some p.row:=by rw[gMp0,hpI];rfl
     have hp1:p.dst.length<=1048576:=(hbt.owns p (mOf0 hp)).dst
     (try (conv=>whnf));repeat' (first|refine Ok.seq ?_|((first|refine Ok.region tok ?_|refine Ok.cond ?_);conv=>whnf)|refine Ok.block ?_|(refine Ok.skip ?_;conv=>whnf)|(refine bI ?_ ?_<;>intro<;>(conv=>whnf)<;>(try (exfalso;omega)))|fail)
     refine Ok.loopU [1,3,4,5] [6] 0 2 (fun (j:Nat)=>[.i .i64 (j:Nat)]) (fun (j:Nat) (_:List (List D))=>[c.row,b.row]) (fun _ r=>r) (fun (j:Nat)=>j<=c.links.l.length/\∀ x ∈ c.links.l.take j,x.frm ≠ dot b.name p.dst) (fun (j:Nat)=>c.links.l.length - j) (0) (⟨Nat.zero_le _,by simp⟩) ?_;(conv=>whnf);refine⟨by ((conv=>whnf);first|rfl|(simp[envCat, tkL0, SI.row, Node.row, Pfx.row, Link.row, srow, Line.row, Rule.row, Box.row, Slc.row, Config.row, tbRow, Route.row];done)|(simp[envCat, tkL0, SI.row, Node.row, Pfx.row, Link.row, srow, Line.row, Rule.row, Box.row, Slc.row, Config.row, tbRow, Route.row];rw[IntKind.wrap_i64];omega)),?_⟩
     rintro j ⟨hj,hok3⟩
     (conv=>whnf)
     by_cases hjl:j<c.links.l.length
     . obtain⟨x,hx⟩:∃ x,c.links.l[j]? = some x:=⟨_,gEt0 hjl⟩
       have hxI:c.links.l[((j:Nat):Int).toNat]? = some x:=hx
       have hxr:(c.links.l.map Link.row)[((j:Nat):Int).toNat]? = some x.row:=by rw[gMp0,hxI];rfl
       (try (conv=>whnf));repeat' (first|refine Ok.seq ?_|((first|refine Ok.region tok ?_|refine Ok.region_draw tok follows (by kernel_rfl) ?_|refine Ok.cond ?_);conv=>whnf)|refine Ok.block ?_|((first|refine Ok.skip ?_|refine Ok.ret ?_|refine nI ?_|refine ix _ (by assumption) ?_);conv=>whnf)|(refine bI ?_ ?_<;>intro<;>(conv=>whnf)<;>(try (exfalso;omega)))|(refine aJ ?_;conv=>whnf)|fail)
       all_goals first
        | (refine Or.inl ?_;(conv=>whnf)
           exact⟨rfl,False,rfl,False.elim⟩)
        | (refine⟨j+1,by omega,⟨by omega,fun y hy=>?_⟩,?_⟩
           . rw[List.take_add_one,hx] at hy
             rcases mAp0.1 hy with hy|hy
             . exact hok3 y hy
             . have:y=x:=by simpa using hy
               rw[this]
               assumption
           . (conv=>whnf);(first|rfl|simp[envCat, tkL0, SI.row, Node.row, Pfx.row, Link.row, srow, Line.row, Rule.row, Box.row, Slc.row, Config.row, tbRow, Route.row])
           done)
     . obtain rfl:j=c.links.l.length:=by omega
       rw[List.take_length] at hok3
       (try (conv=>whnf));repeat' (first|refine Ok.seq ?_|((first|refine Ok.region tok ?_|refine Ok.cond ?_|refine Ok.exit ?_|refine nI ?_);conv=>whnf)|(refine bI ?_ ?_<;>intro<;>(conv=>whnf)<;>(try (exfalso;omega)))|fail)
       refine⟨k+1,by omega,⟨by omega,fun y hy=>?_⟩,?_⟩
       . rw[List.take_add_one,hp] at hy
         rcases mAp0.1 hy with hy|hy
         . exact hok2 y hy
         . have:y=p:=by simpa using hy
           rw[this]
           exact hok3
       . (conv=>whnf);(first|rfl|simp[envCat, tkL0, SI.row, Node.row, Pfx.row, Link.row, srow, Line.row, Rule.row, Box.row, Slc.row, Config.row, tbRow, Route.row])
   . obtain rfl:k=b.owns.l.length:=by omega
     rw[List.take_length] at hok2
     (try (conv=>whnf));repeat' (first|refine Ok.seq ?_|((first|refine Ok.region tok ?_|refine Ok.cond ?_|refine Ok.exit ?_|refine nI ?_);conv=>whnf)|(refine bI ?_ ?_<;>intro<;>(conv=>whnf)<;>(try (exfalso;omega)))|fail)
     refine⟨i+1,by omega,⟨by omega,fun y hy=>?_⟩,?_⟩
     . rw[List.take_add_one,hb] at hy
       rcases mAp0.1 hy with hy|hy
       . exact hok y hy
       . have:y=b:=by simpa using hy
         rw[this]
         exact⟨hrn,hok2⟩
     . (conv=>whnf);(first|rfl|simp[envCat, tkL0, SI.row, Node.row, Pfx.row, Link.row, srow, Line.row, Rule.row, Box.row, Slc.row, Config.row, tbRow, Route.row])
 . obtain rfl:i=c.boxes.l.length:=by omega
   rw[List.take_length] at hok
   (try (conv=>whnf));repeat' (first|refine Ok.seq ?_|((first|refine Ok.region tok ?_|refine Ok.cond ?_|refine Ok.exit ?_|refine Ok.ret ?_);conv=>whnf)|(refine bI ?_ ?_<;>intro<;>(conv=>whnf)<;>(try (exfalso;omega)))|fail)
   refine Or.inl ?_;(conv=>whnf)
   exact⟨rfl,True,rfl,fun _=>⟨fun b hb=>(hok b hb).1,fun b hb=>(hok b hb).2⟩⟩
theorem ribDelivers_law(c:Config)(hc:c.Ok)(ht:c.Tx)(box v:Int):FSpec Tryz.prog T 4 [.agg c.row,.i .i64 box,.i .i64 v] (fun d _=>d = .b True):=by
 have hbl:(c.boxes.l.map Box.row).length=c.boxes.l.length:=by simp
 have hbn:=hc.boxes
 refine FSpec.of_ok tok Tryz.func4 rfl Tryz.call4 (by simp) ?_
 (try (conv=>whnf));repeat' (first|refine Ok.seq ?_|((first|refine Ok.region tok ?_|refine Ok.cond ?_|refine Ok.skip ?_|refine Ok.ret ?_);conv=>whnf)|(refine Or.inl ?_;(conv=>whnf);(repeat (refine aI ?_;conv=>whnf));refine⟨_,awake_spec,rfl,?_⟩;conv=>whnf)|(refine Or.inr (Or.inl ?_);(conv=>whnf);(repeat (refine aI ?_;conv=>whnf));refine⟨_,small_at c hc , ?_⟩;rintro _ _ ⟨rfl,P1,rfl⟩<;>(conv=>whnf))|(refine Or.inr (Or.inl ?_);(conv=>whnf);(repeat (refine aI ?_;conv=>whnf));refine⟨_,plain_at c hc ht , ?_⟩;rintro _ _ ⟨rfl,P2,rfl,hP2⟩<;>(conv=>whnf))|(refine Or.inr (Or.inl ?_);(conv=>whnf);(repeat (refine aI ?_;conv=>whnf));refine⟨_,tables_at c hc ht , ?_⟩;rintro _ _ ⟨rfl,e,tb,room,rfl,hok⟩<;>(conv=>whnf))|(refine Or.inr (Or.inl ?_);(conv=>whnf);(repeat (refine aI ?_;conv=>whnf));refine⟨_,bits_at c hc , ?_⟩;rintro _ _ ⟨rfl,bb,rfl,hbb⟩<;>(conv=>whnf))|(refine bI ?_ ?_<;>intro<;>(conv=>whnf)<;>(try (exfalso;omega)))|((first|refine aJ ?_|refine num_any ?_);conv=>whnf)|fail)
 all_goals try (refine Or.inl ?_;(conv=>whnf);rfl;done)
 rename_i q1 q2 q3 q4 q5 q6 q7 q8 q9
 obtain⟨h0,hro⟩:=hok (Classical.not_not.1 q5)
 obtain⟨hh,_,hnm,_,hl4,_⟩:=check_parts h0
 have hm:min bb.toNat IntKind.i64.bits=bb.toNat:=by show min bb.toNat 64=_;omega
 have hpw:=pow_bd bb.toNat (by omega)
 rw[hm,Int.one_mul,IntKind.wrap_i64] at q9
 have hv1:v<2 ^ bb.toNat:=by omega
 by_cases hrt:c.routing=[]
 . exfalso
   rcases hbb with⟨k,f,g1,g2,_⟩|⟨_,g⟩
   . rw[hrt] at g2
     exact fld_name (head_ok hh) (c:=c.b) (mOf0 g1) g2
   . omega
 obtain⟨L,hT,rfl⟩:=hro.resolve_left hrt
 obtain⟨fk,fb,_,f2,f3,f4,_⟩:=rbits_at (c:=c.b) (head_ok hh) hrt
 have hbr:bb=rbits c.b:=by
  rcases hbb with⟨k,f,g1,g2,g3⟩|⟨g1,_⟩
  . have:=fld_uniq (c:=c.b) (head_ok hh) g1 f2 (g2.trans f3.symm)
    subst this
    have:=g1.symm.trans f2
    cases this
    rw[g3,f4]
  . exact absurd f3 (g1 fk fb f2)
 subst hbr
 obtain⟨hw,hp⟩:=hP2 (Classical.not_not.1 q4)
 obtain⟨bN,rfl⟩:∃ bN:Nat,box=(bN:Int):=⟨box.toNat,by omega⟩
 have hbN:bN<c.boxes.l.length:=by omega
 have hLl:=hT.len
 have hLm:(L.map tbRow).length=L.length:=by simp
 (try (conv=>whnf));repeat' (first|refine Ok.seq ?_|((first|refine Ok.region tok ?_|refine Ok.cond ?_);conv=>whnf)|refine Ok.block ?_|(refine Ok.skip ?_;conv=>whnf)|(refine Or.inr (Or.inl ?_);(conv=>whnf);(repeat (refine aI ?_;conv=>whnf));refine⟨_,owned_at c hc ht h0 hrt bN hbN v , ?_⟩;rintro _ _ ⟨rfl,len,rfl,hown⟩<;>(conv=>whnf))|(refine bI ?_ ?_<;>intro<;>(conv=>whnf)<;>(try (exfalso;omega)))|fail)
 all_goals try (exfalso;omega)
 refine Ok.loopU [2,3,7,9,10] [11,12] 0 1 (fun (x:Nat × Nat)=>[.i .i64 (x.1:Nat),.i .i64 (x.2:Nat)]) (fun (x:Nat × Nat) (_:List (List D))=>[c.row]) (fun _ r=>r) (fun (x:Nat × Nat)=>x.2<=c.boxes.l.length/\Inv c v len x.1 x.2) (fun (x:Nat × Nat)=>c.boxes.l.length - x.2) ((bN,0)) (⟨Nat.zero_le _,inv_start hT hnm hl4 hbN hown⟩) ?_;(conv=>whnf);refine⟨by ((conv=>whnf);first|rfl|(simp[envCat, tkL0, SI.row, Node.row, Pfx.row, Link.row, srow, Line.row, Rule.row, Box.row, Slc.row, Config.row, tbRow, Route.row];done)|(simp[envCat, tkL0, SI.row, Node.row, Pfx.row, Link.row, srow, Line.row, Rule.row, Box.row, Slc.row, Config.row, tbRow, Route.row];rw[IntKind.wrap_i64];omega)),?_⟩
 rintro⟨i,hops⟩ ⟨hh1,hI⟩
 dsimp only at hh1 hI ⊢
 (conv=>whnf)
 by_cases hlt:hops<c.boxes.l.length
 . obtain⟨l,hLi,hlE,hcase⟩:=law_step hT h0 hw hp (by omega) hv1 hI
   have hil:=hI.lt
   have hLI:L[((i:Nat):Int).toNat]? = some l:=hLi
   have hLr:(L.map tbRow)[((i:Nat):Int).toNat]? = some (tbRow l):=by rw[gMp0,hLI];rfl
   have hlm:(l.map Route.row).length=l.length:=by simp
   have hls:=Lookup_spec (rbits c.b) v l []
   rw[hlE] at hls
   rcases hcase with⟨hk,rfl⟩|⟨m,r,hk,hr,q,s,hq,hs,hql,hcase⟩
   . rw[hk] at hls
     (try (conv=>whnf));repeat' (first|refine Ok.seq ?_|((first|refine Ok.region tok ?_|refine Ok.cond ?_);conv=>whnf)|refine Ok.block ?_|((first|refine Ok.skip ?_|refine Ok.ret ?_|refine ix _ (by assumption) ?_);conv=>whnf)|(refine Or.inl ?_;(conv=>whnf);(repeat (refine aI ?_;conv=>whnf));refine⟨_,hls,rfl,?_⟩;conv=>whnf)|(refine bI ?_ ?_<;>intro<;>(conv=>whnf)<;>(try (exfalso;omega)))|fail)
     all_goals first
      | (refine Or.inl ?_;(conv=>whnf)
         show D.b _=_
         simp
         done)
      | (exfalso;omega)
   . rw[hk] at hls
     have hml:m<l.length:=(gSm0.1 hr).1
     have hrI:l[((m:Nat):Int).toNat]? = some r:=hr
     have hrr:(l.map Route.row)[((m:Nat):Int).toNat]? = some r.row:=by rw[gMp0,hrI];rfl
     have hnx:=next_at c hc ht hs hql
     have hfl:=lfull_at c hc ht hs hql
     rw[<- hq] at hnx hfl
     rcases hcase with⟨hA,hlen,bx,hbx,hown2⟩|⟨t,⟨x0,hx0,hx1⟩,hB,hI'⟩
     . have hnA:FSpec Tryz.prog T 19 [.agg c.row,.i .i64 r.out] (fun d _=>d = .i .i64 (-1)):=hnx.mono fun d rows h=>by
         obtain⟨_,z,rfl,⟨x,g1,g2,_⟩|⟨_,rfl⟩⟩:=h
         . exact absurd g2 (hA x g1)
         . rfl
       have hen:=ends_at c hc ht h0 hrt hbx len v s hown2
       (try (conv=>whnf));repeat' (first|refine Ok.seq ?_|((first|refine Ok.region tok ?_|refine Ok.region_draw tok follows (by kernel_rfl) ?_|refine Ok.cond ?_);conv=>whnf)|refine Ok.block ?_|((first|refine Ok.skip ?_|refine Ok.ret ?_|refine ix _ (by assumption) ?_|refine⟨_,by assumption,?_⟩);conv=>whnf)|(refine Or.inl ?_;(conv=>whnf);(repeat (refine aI ?_;conv=>whnf));refine⟨_,hls,rfl,?_⟩;conv=>whnf)|(refine Or.inl ?_;(conv=>whnf);(repeat (refine aI ?_;conv=>whnf));refine⟨_,hnA,rfl,?_⟩;conv=>whnf)|(refine bI ?_ ?_<;>intro<;>(conv=>whnf)<;>(try (exfalso;omega)))|(refine aJ ?_;conv=>whnf)|fail)
       all_goals first
        | (refine Or.inl ?_;(conv=>whnf)
           show D.b _=_
           simp[hlen]
           done)
        | (exfalso;omega)
     . have hnB:FSpec Tryz.prog T 19 [.agg c.row,.i .i64 r.out] (fun d _=>d = .i .i64 (t:Nat)):=hnx.mono fun d rows h=>by
         obtain⟨_,z,rfl,⟨x,g1,g2,rfl⟩|⟨g1,_⟩⟩:=h
         . rw[hB x g1 g2]
         . exact absurd hx1 (g1 x0 hx0)
       (try (conv=>whnf));repeat' (first|refine Ok.seq ?_|((first|refine Ok.region tok ?_|refine Ok.cond ?_);conv=>whnf)|refine Ok.block ?_|((first|refine Ok.skip ?_|refine nI ?_|refine ix _ (by assumption) ?_);conv=>whnf)|(refine Or.inl ?_;(conv=>whnf);(repeat (refine aI ?_;conv=>whnf));refine⟨_,hls,rfl,?_⟩;conv=>whnf)|(refine Or.inl ?_;(conv=>whnf);(repeat (refine aI ?_;conv=>whnf));refine⟨_,hnB,rfl,?_⟩;conv=>whnf)|(refine bI ?_ ?_<;>intro<;>(conv=>whnf)<;>(try (exfalso;omega)))|fail)
       all_goals first
        | (refine⟨(t,hops+1),by dsimp only;omega,⟨by dsimp only;omega,hI'⟩,?_⟩
           (conv=>whnf);(first|rfl|simp[envCat, tkL0, SI.row, Node.row, Pfx.row, Link.row, srow, Line.row, Rule.row, Box.row, Slc.row, Config.row, tbRow, Route.row])
           done)
        | (exfalso;omega)
 . exfalso
   obtain rfl:hops=c.boxes.l.length:=by omega
   have h1:=hI.lt
   rcases hI.at_ with⟨_,h2,_⟩|⟨k,y,_,_,_,_,h2⟩<;>omega
end Go.Proofs.YtnlingegeangmaaGreatDoor
namespace Go.Proofs.YtnlingegeangmaaGreatDoor
open Go Go.Vx
theorem ribDelivers_ats:∃ ls,shapes T 9 [27,3,3]=some ls/\∀ xs,TyAs T 1048576 [27,3,3] ls xs->FSpec Tryz.prog T 4 xs (fun d _=>d = .b True):=by
 refine⟨_,rfl,fun xs h=>?_⟩
 obtain⟨_,_,rfl,h0,h⟩:=as_cons h
 obtain⟨_,_,rfl,h1,h⟩:=as_cons h
 obtain⟨_,_,rfl,h2,h⟩:=as_cons h
 obtain rfl:=as_nil h
 obtain⟨r0,rfl,g0⟩:=agg_of h0 rfl
 obtain⟨c,rfl,hc,ht⟩:=config_of g0
 obtain⟨x1,rfl,b1⟩:=int_of (leaf h1 rfl)
 obtain⟨x2,rfl,b2⟩:=int_of (leaf h2 rfl)
 exact ribDelivers_law c hc ht x1 x2
end Go.Proofs.YtnlingegeangmaaGreatDoor
namespace Go.Proofs.YtnlingegeangmaaGreatDoor
open Go Go.Vx
theorem len4{α:Type}{l:List α}(h:l.length=4):∃ a b c d,l=[a,b,c,d]:=match l,h with|[a,b,c,d],_=>⟨a,b,c,d,rfl⟩
theorem len5{α:Type}{l:List α}(h:l.length=5):∃ a b c d e,l=[a,b,c,d,e]:=match l,h with|[a,b,c,d,e],_=>⟨a,b,c,d,e,rfl⟩
theorem len20{α:Type}{l:List α}(h:l.length=20):∃ v0 v1 v2 v3 v4 v5 v6 v7 v8 v9 v10 v11 v12 v13 v14 v15 v16 v17 v18 v19,l=[v0,v1,v2,v3,v4,v5,v6,v7,v8,v9,v10,v11,v12,v13,v14,v15,v16,v17,v18,v19]:=match l,h with|[v0,v1,v2,v3,v4,v5,v6,v7,v8,v9,v10,v11,v12,v13,v14,v15,v16,v17,v18,v19],_=>⟨v0,v1,v2,v3,v4,v5,v6,v7,v8,v9,v10,v11,v12,v13,v14,v15,v16,v17,v18,v19,rfl⟩
theorem st4{W:World}{fuel:Nat}{cs:List Value}{y:DataW Unit × List MemPlace}{a b c d:Bool}(h:DataW.trod (fun _=>()) Tryz.prog W 0 (fun _=>true) false fuel 351 cs=some y)
    (hy:y.1 = .agg [.lit (.bool a),.lit (.bool b),.lit (.bool c),.lit (.bool d)]):cs=[.bool a,.bool b,.bool c,.bool d]:=by
 obtain⟨xs,n,_,rfl,hl,hlen,hf⟩:=DataW.trod_struct Tryz.underlying351 h
 have hc4:Tryz.prog.cellsOf 351=4:=by kernel_rfl
 have hcb:Tryz.prog.cellsOf 4=1:=by kernel_rfl
 rw[hc4] at hl
 have hx4:xs.length=4:=hlen
 obtain⟨z0,z1,z2,z3,rfl⟩:=len4 hx4
 obtain⟨v0,v1,v2,v3,rfl⟩:=len4 hl
 ·
  simp only[List.map_cons,List.map_nil,DataW.agg.injEq,List.cons.injEq,and_true] at hy
  obtain⟨e0,e1,e2,e3⟩:=hy
  have f0:DataW.trod (fun _=>()) Tryz.prog W 0 (fun _=>true) false n 4 (List.take (Tryz.prog.cellsOf 4) (List.drop 0 [v0,v1,v2,v3]))=some z0:=hf 0 _ rfl
  rw[hcb,show List.take 1 (List.drop 0 [v0,v1,v2,v3])=[v0] from rfl] at f0
  have f1:DataW.trod (fun _=>()) Tryz.prog W 0 (fun _=>true) false n 4 (List.take (Tryz.prog.cellsOf 4) (List.drop 1 [v0,v1,v2,v3]))=some z1:=hf 1 _ rfl
  rw[hcb,show List.take 1 (List.drop 1 [v0,v1,v2,v3])=[v1] from rfl] at f1
  have f2:DataW.trod (fun _=>()) Tryz.prog W 0 (fun _=>true) false n 4 (List.take (Tryz.prog.cellsOf 4) (List.drop 2 [v0,v1,v2,v3]))=some z2:=hf 2 _ rfl
  rw[hcb,show List.take 1 (List.drop 2 [v0,v1,v2,v3])=[v2] from rfl] at f2
  have f3:DataW.trod (fun _=>()) Tryz.prog W 0 (fun _=>true) false n 4 (List.take (Tryz.prog.cellsOf 4) (List.drop 3 [v0,v1,v2,v3]))=some z3:=hf 3 _ rfl
  rw[hcb,show List.take 1 (List.drop 3 [v0,v1,v2,v3])=[v3] from rfl] at f3
  obtain⟨b0,h0,rfl⟩:=DataW.trod_bool Tryz.underlying4 f0
  obtain⟨b1,h1,rfl⟩:=DataW.trod_bool Tryz.underlying4 f1
  obtain⟨b2,h2,rfl⟩:=DataW.trod_bool Tryz.underlying4 f2
  obtain⟨b3,h3,rfl⟩:=DataW.trod_bool Tryz.underlying4 f3
  clear hf h
  simp only[List.cons.injEq,and_true] at h0 h1 h2 h3
  simp only[DataW.lit.injEq,Lit.bool.injEq] at e0 e1 e2 e3
  rw[h0,h1,h2,h3,e0,e1,e2,e3]
theorem used_of{W:World}{fuel:Nat}{cs:List Value}{p:List MemPlace}(h:DataW.trod (fun _=>()) Tryz.prog W 0 (fun _=>true) false fuel 352 cs=some (Rows.laid_reach_field_used,p)) :
    cs=[.bool false,.bool false,.bool false,.bool false,.bool true,.bool false,.bool false,.bool false,.bool true,.bool false,.bool true,.bool false,.bool true,.bool true,.bool false,.bool false,.bool false,.bool false,.bool false,.bool true]:=by
 obtain⟨xs,m,_,hx,hl,hxl,hf⟩:=DataW.trod_array Tryz.underlying352 h
 have hc:Tryz.prog.cellsOf 352=20:=by kernel_rfl
 have hc4:Tryz.prog.cellsOf 351=4:=by kernel_rfl
 rw[hc] at hl
 rw[hc4] at hf
 have hx1:=(Prod.mk.inj hx).1
 unfold Rows.laid_reach_field_used at hx1
 obtain⟨y0,y1,y2,y3,y4,rfl⟩:=len5 hxl
 obtain⟨v0,v1,v2,v3,v4,v5,v6,v7,v8,v9,v10,v11,v12,v13,v14,v15,v16,v17,v18,v19,rfl⟩:=len20 hl
 ·
  simp only[List.map_cons,List.map_nil,DataW.agg.injEq,List.cons.injEq,and_true] at hx1
  obtain⟨e0,e1,e2,e3,e4⟩:=hx1
  have g0:=st4 (hf 0 (by decide)) e0.symm
  have g1:=st4 (hf 1 (by decide)) e1.symm
  have g2:=st4 (hf 2 (by decide)) e2.symm
  have g3:=st4 (hf 3 (by decide)) e3.symm
  have g4:=st4 (hf 4 (by decide)) e4.symm
  simp at g0 g1 g2 g3 g4
  simp[g0,g1,g2,g3,g4]
theorem gl_of_gt{W:World}(h:GT W):GlOk W:=by
 refine⟨fun pp v hp=>?_,h⟩
 unfold glV at hp
 obtain⟨b,o,sp⟩:=pp
 cases sp with
 | some _=>cases hp
 | none=>
  dsimp only at hp
  cases hg:glD b with
  | none=>rw[hg] at hp;cases hp
  | some cs=>
   rw[hg] at hp
   dsimp only at hp
   obtain⟨_,a,c,hw⟩:=h b cs hg
   show W.cell? ⟨b,o,none⟩=some v
   simp only[World.cell?,hw]
   simpa using hp
theorem heap_of{W:World}{name:String}{g:Nat}{cs:Array Value}(hg:Tryz.prog.globalNamed name=some g)(h:W.var? Tryz.prog name=some cs):∃ a b,W.heap[g]? = some (.cells cs a b):=by
 simp only[World.var?,hg,Option.bind_some] at h
 split at h
 . rename_i cs' a b hh
   cases h
   exact⟨a,b,hh⟩
 . cases h
def VarIs(W:World)(name:String)(g:Nat):Prop:=∃ cs:Array Value,W.var? Tryz.prog name=some cs/\∃ ds,glD g=some ds/\cs.toList=ds.map valD
theorem gt_of{W:World}(h1:VarIs W "reach/field.used" 1)(h5:VarIs W "internal/strconv.uint64pow10" 2):GT W:=by
 have one:∀ name g,Tryz.prog.globalNamed name=some g → VarIs W name g → ∀ cs,glD g=some cs → ∃ a b,W.heap[g]? = some (.cells (cs.map valD).toArray a b):=by
  rintro name g hn ⟨cs,hv,ds,hd,he⟩ cs' hc
  rw[hd] at hc
  cases hc
  obtain⟨a,b,hh⟩:=heap_of hn hv
  exact⟨a,b,by rw[hh,← he]⟩
 intro g cs hg
 match g,hg with
 | 1,hg=>exact⟨by cases hg;simp,one _ 1 (by kernel_rfl) h1 cs hg⟩
 | 2,hg=>exact⟨by cases hg;simp,one _ 2 (by kernel_rfl) h5 cs hg⟩
 | 0,hg=>cases hg
 | n+3,hg=>cases hg
theorem type_of{name:String}{g:Nat}{t t':TypeId}(hg0:Tryz.prog.globalNamed name=some g)(ht0:(Tryz.prog.globals[g]?).map (·.type)=some t){g':Nat}(hg:Tryz.prog.globalNamed name=some g')(ht:(Tryz.prog.globals[g']?).map (·.type)=some t'):g'=g/\t'=t:=by
 obtain rfl:=Option.some.inj (hg0.symm.trans hg)
 exact⟨rfl,(Option.some.inj (ht0.symm.trans ht)).symm⟩
theorem glM{W:World}(h:laidMetH Tryz.prog Rows.ribDeliversUptoRow.laid W):GlOk W:=by
 rw[MakeChecks.laidMetH_plain _ _ _ (by kernel_rfl)] at h
 obtain⟨ps,⟨_,_,_,_,_,_,_,_,_,_,⟨_,_,_,_,_,_,_,_,_,_,⟨g5,t5,c5,f5,p5,q5,hg5,ht5,hv5,hd5,⟨_,_,_,_,_,_,_,_,_,_,⟨g1,t1,c1,f1,p1,q1,hg1,ht1,hv1,hd1,_,_⟩,_⟩,_⟩,_⟩,_⟩,_⟩:=h
 obtain⟨rfl,rfl⟩:=type_of (g:=2) (t:=364) (by kernel_rfl) (by kernel_rfl) hg5 ht5
 obtain⟨rfl,rfl⟩:=type_of (g:=1) (t:=352) (by kernel_rfl) (by kernel_rfl) hg1 ht1
 refine gl_of_gt (gt_of ⟨c1,hv1,_,rfl,?_⟩ ⟨c5,hv5,_,rfl,?_⟩)
 . exact used_of hd1
 . exact Lib.cells_of_tab (zs:=Lib.pow10Tab) Tryz.underlying364 Tryz.underlying285 (by kernel_rfl) (by kernel_rfl) hd5
end Go.Proofs.YtnlingegeangmaaGreatDoor
