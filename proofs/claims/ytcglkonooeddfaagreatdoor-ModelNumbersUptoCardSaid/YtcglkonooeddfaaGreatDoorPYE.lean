/- The walks and the plain laws that a law of networks needs, part 5 of 5. -/
import Derived.Test.YtcglkonooeddfaaGreatDoorPYD
import Derived.Test.YtcglkonooeddfaaGreatDoorRows
import Derived.ProofKit
import Derived.OpenShut
import Derived.LaidMore
import Derived.Lay
import Derived.Lib.LaidTab
set_option linter.unusedVariables false
set_option linter.unusedSimpArgs false
namespace Go.Proofs.YtcglkonooeddfaaGreatDoor
open Go Go.Vx
theorem side_facts{c:Config}(hc:c.Ok)(ht:c.Tx)(h0:(checkO c.b).1=0){i s:Nat}{b:Box}(hb:c.boxes.l[i]? = some b)(hs:s<2):∃ nm:Ls Str,
    FSpec Tryz.prog T 39 [.agg b.row,.b ((s:Int)=0)] (fun d rows=>d=nm.d 9 srow/\rows=[]) /\
    nm.l.length<=48/\baseN c.b.boxes i b.b s+nm.l.length=baseN c.b.boxes i b.b (s+1)/\baseN c.b.boxes i b.b (s+1)<=(prtsF c.b).length /\
    ∀ (k:Nat) t,nm.l[k]? = some t->t.length<=1048576/\plc (fullsL c.b.boxes) (dot b.name t)=(baseN c.b.boxes i b.b s+k:Nat) /\
     (prtsF c.b)[baseN c.b.boxes i b.b s+k]? = some ⟨dot b.name t,i,((s:Int)=0),dstOf c.b c.b.links (baseN c.b.boxes i b.b s+k:Nat)⟩:=by
 obtain⟨_,h1,h2,_,h4,_⟩:=check_parts h0
 have hnd:=fulls_nodup h2
 have hpn:(fullsL c.b.boxes).length<=48:=by rw[fullsL_len];exact (count_ok h1).2.1
 have hbb:c.b.boxes[i]? = some b.b:=by simp[Config.b,hb]
 have hle:=fullsL_le c.b.boxes hbb
 obtain⟨_,hti,hto⟩:=tx_names ht b (List.mem_of_getElem? hb)
 have hfl:(prtsF c.b).length=(fullsL c.b.boxes).length:=prtsW_len _ _
 have hname:∀ {n:Nat} {t:Str} {q:Prop} {d:Int},(prtsN 0 c.b.boxes)[n]? = some ⟨t,i,q,d⟩->plc (fullsL c.b.boxes) t=(n:Nat):=fun h=>
  plc_idx hnd (by rw[<- prtsN_names 0,List.getElem?_map,h];rfl)
 have hbi:b.b.ins=b.ins.l:=rfl
 have hbo:b.b.outs=b.outs.l:=rfl
 rw[hbi,hbo] at hle
 rcases (show s=0\/s=1 by omega) with rfl|rfl
 . refine⟨b.ins,mside_in b rfl,by omega,by simp[baseN,hbi],by simp[baseN,hbi];omega,fun k t hk=>?_⟩
   have hp:=prtsN_in hbb (k:=k) (s:=t) hk
   refine⟨hti t (List.mem_of_getElem? hk),hname hp,?_⟩
   rw[prtsF_get h4,hp]
   show some (Prt.mk _ _ True _)=some (Prt.mk _ _ (((0:Nat):Int)=0) _)
   rw[show (((0:Nat):Int)=0)=True from propext ⟨fun _=>trivial,fun _=>rfl⟩]
   rfl
 . refine⟨b.outs,mside_out b (by decide),by omega,by simp[baseN,hbi,hbo];omega,by simp[baseN,hbi,hbo];omega,fun k t hk=>?_⟩
   have hp:=prtsN_out hbb (k:=k) (s:=t) hk
   refine⟨hto t (List.mem_of_getElem? hk),hname hp,?_⟩
   rw[prtsF_get h4,hp]
   show some (Prt.mk _ _ False _)=some (Prt.mk _ _ (((1:Nat):Int)=0) _)
   rw[show (((1:Nat):Int)=0)=False from propext ⟨fun h=>by omega,fun h=>h.elim⟩]
   rfl
set_option maxRecDepth 100000 in
set_option maxHeartbeats 16000000 in
theorem mnumbers_ok(c:Config)(hc:c.Ok)(ht:c.Tx)(h0:(checkO c.b).1=0):FSpec Tryz.prog T 8 [.agg c.row] (fun d _=>d = .b True):=by
 have r1:=FSpecH.nil ((mports_ok c hc ht h0).mono fun _ _ _ h=>h.1)
 have r2:=mright_tt c hc ht h0
 have r3:=mfind_p c hc ht h0
 obtain⟨_,h1,h2,_,h4,_⟩:=check_parts h0
 have hlk2:c.links.l.length<=48:=(count_ok h1).2.2.1
 have hll:(c.links.l.map Link.row).length=c.links.l.length:=by simp
 have hbl:(c.boxes.l.map Box.row).length=c.boxes.l.length:=by simp
 have hcb:=hc.boxes
 have hfl:(prtsF c.b).length=(fullsL c.b.boxes).length:=prtsW_len _ _
 have hpn:(fullsL c.b.boxes).length<=48:=by rw[fullsL_len];exact (count_ok h1).2.1
 have hml:((prtsF c.b).map Prt.row).length=(prtsF c.b).length:=by simp
 have hside:=fun {i s:Nat} {b:Box} (hb:c.boxes.l[i]? = some b) (hs:s<2)=>side_facts hc ht h0 hb hs
 obtain⟨P,hP⟩:∃ P,P=prtsF c.b:=⟨_,rfl⟩
 rw[<- hP] at r1 hml hfl
 simp only[<- hP] at hside
 refine FSpec.of_ok tok Tryz.func8 rfl Tryz.call8 (by simp) ?_
 (try (conv=>whnf));repeat' (first|refine Ok.seq ?_|((first|refine Ok.region tok ?_|refine Ok.cond ?_);conv=>whnf)|refine Ok.block ?_|(refine Ok.skip ?_;conv=>whnf)|(refine Or.inl ?_;(conv=>whnf);(repeat (refine aI ?_;conv=>whnf));refine⟨_,r2,rfl,?_⟩;conv=>whnf)|(refine Or.inl ?_;(conv=>whnf);(repeat (refine aI ?_;conv=>whnf));refine⟨_,munum_at 0,rfl,?_⟩;conv=>whnf)|(refine Or.inr (Or.inr (Or.inr (Or.inl ?_)));(conv=>whnf);(repeat (refine aI ?_;conv=>whnf));refine⟨_,r1,?_⟩;rintro _ _ ⟨rfl,rfl⟩<;>(refine And.intro (by simp[gRowsP,grounds,D.ground,SI.row,Node.row,Pfx.row,Link.row,srow,Line.row,Rule.row,Box.row,Slc.row,Config.row,Ls.d,Prt.row]) ?_;conv=>whnf))|(refine bI ?_ ?_<;>intro<;>(conv=>whnf)<;>(try (exfalso;omega)))|fail)
 refine Ok.loopU [1,3] [5,6] 1 1 (fun (i:Nat)=>[.i .i64 ((fullsL (c.b.boxes.take i)).length:Nat),.i .i64 (i:Nat)]) (fun (i:Nat) (_:List (List D))=>[c.row]) (fun (i:Nat) (_:Vx.Rows)=>[some (89,P.map Prt.row)]) (fun (i:Nat)=>i<=c.boxes.l.length) (fun (i:Nat)=>c.boxes.l.length - i) (0) (Nat.zero_le _) ?_;(conv=>whnf);refine⟨by ((conv=>whnf);first|rfl|(simp[envCat,List.take_of_length_le,SI.row,Node.row,Pfx.row,Link.row,srow,Line.row,Rule.row,Box.row,Slc.row,Config.row,Ls.d,Prt.row];done)|(simp[envCat,List.take_of_length_le,SI.row,Node.row,Pfx.row,Link.row,srow,Line.row,Rule.row,Box.row,Slc.row,Config.row,Ls.d,Prt.row];rw[IntKind.wrap_i64];omega)),?_⟩
 rintro i hi
 (conv=>whnf)
 by_cases hil:i<c.boxes.l.length
 . obtain⟨b,hb⟩:∃ b,c.boxes.l[i]? = some b:=⟨_,List.getElem?_eq_getElem hil⟩
   have hbI:c.boxes.l[((i:Nat):Int).toNat]? = some b:=hb
   have hbr:(c.boxes.l.map Box.row)[((i:Nat):Int).toNat]? = some b.row:=by rw[List.getElem?_map,hbI];rfl
   have hbb:c.b.boxes[i]? = some b.b:=by simp[Config.b,hb]
   obtain⟨hbn,_,_⟩:=tx_names ht b (List.mem_of_getElem? hb)
   have hle:=fullsL_le c.b.boxes hbb
   (try (conv=>whnf));repeat' (first|refine Ok.seq ?_|((first|refine Ok.region tok ?_|refine Ok.cond ?_);conv=>whnf)|refine Ok.block ?_|(refine Ok.skip ?_;conv=>whnf)|(refine bI ?_ ?_<;>intro<;>(conv=>whnf)<;>(try (exfalso;omega)))|fail)
   refine Ok.loopU [1,3,6] [5,7] 1 1 (fun (s:Nat)=>[.i .i64 (baseN c.b.boxes i b.b s:Nat),.i .i64 (s:Nat)]) (fun (s:Nat) (_:List (List D))=>[c.row]) (fun (s:Nat) (_:Vx.Rows)=>[some (89,P.map Prt.row)]) (fun (s:Nat)=>s<=2) (fun (s:Nat)=>2 - s) (0) (Nat.zero_le _) ?_;(conv=>whnf);refine⟨by ((conv=>whnf);first|rfl|(simp[envCat,List.take_of_length_le,SI.row,Node.row,Pfx.row,Link.row,srow,Line.row,Rule.row,Box.row,Slc.row,Config.row,Ls.d,Prt.row];done)|(simp[envCat,List.take_of_length_le,SI.row,Node.row,Pfx.row,Link.row,srow,Line.row,Rule.row,Box.row,Slc.row,Config.row,Ls.d,Prt.row];rw[IntKind.wrap_i64];omega)),?_⟩
   rintro s hs
   (conv=>whnf)
   by_cases hsl:s<2
   . obtain⟨nm,hsd,hnl,hbn1,hbn2,hget⟩:=hside hb hsl
     have hnm:(nm.l.map srow).length=nm.l.length:=by simp
     (try (conv=>whnf));repeat' (first|refine Ok.seq ?_|((first|refine Ok.region tok ?_|refine Ok.cond ?_);conv=>whnf)|refine Ok.block ?_|((first|refine Ok.skip ?_|refine ix _ (by assumption) ?_);conv=>whnf)|(refine Or.inr (Or.inl ?_);(conv=>whnf);(repeat (refine aI ?_;conv=>whnf));refine⟨_,hsd,?_⟩;rintro _ _ ⟨rfl,rfl⟩<;>(conv=>whnf))|(refine bI ?_ ?_<;>intro<;>(conv=>whnf)<;>(try (exfalso;omega)))|fail)
     refine Ok.loopU [1,3,6,7,8] [5,9] 1 1 (fun (k:Nat)=>[.i .i64 (baseN c.b.boxes i b.b s+k:Nat),.i .i64 (k:Nat)]) (fun (k:Nat) (_:List (List D))=>[c.row]) (fun (k:Nat) (_:Vx.Rows)=>[some (89,P.map Prt.row)]) (fun (k:Nat)=>k<=nm.l.length) (fun (k:Nat)=>nm.l.length - k) (0) (Nat.zero_le _) ?_;(conv=>whnf);refine⟨by ((conv=>whnf);first|rfl|(simp[envCat,List.take_of_length_le,SI.row,Node.row,Pfx.row,Link.row,srow,Line.row,Rule.row,Box.row,Slc.row,Config.row,Ls.d,Prt.row];done)|(simp[envCat,List.take_of_length_le,SI.row,Node.row,Pfx.row,Link.row,srow,Line.row,Rule.row,Box.row,Slc.row,Config.row,Ls.d,Prt.row];rw[IntKind.wrap_i64];omega)),?_⟩
     rintro k hk
     (conv=>whnf)
     by_cases hkl:k<nm.l.length
     . obtain⟨t,hkt⟩:∃ t,nm.l[k]? = some t:=⟨_,List.getElem?_eq_getElem hkl⟩
       have hkI:nm.l[((k:Nat):Int).toNat]? = some t:=hkt
       have hkr:(nm.l.map srow)[((k:Nat):Int).toNat]? = some [.s t]:=by rw[List.getElem?_map,hkI];rfl
       obtain⟨htl,hpl,hPk⟩:=hget k t hkt
       obtain⟨n,hn⟩:∃ n,n=baseN c.b.boxes i b.b s+k:=⟨_,rfl⟩
       rw[<- hn] at hpl hPk ⊢
       have hnP:n<P.length:=by omega
       have hPr:(P.map Prt.row)[((n:Nat):Int).toNat]? = some (Prt.row ⟨dot b.name t,i,((s:Int)=0),dstOf c.b c.b.links (n:Nat)⟩):=by show (P.map Prt.row)[n]? = _;rw[List.getElem?_map,hPk];rfl
       have r3n:=r3 (dot b.name t)
       rw[hpl] at r3n
       (try (conv=>whnf));repeat' (first|refine Ok.seq ?_|((first|refine Ok.region tok ?_|refine Ok.region_draw tok follows (by kernel_rfl) ?_|refine Ok.cond ?_);conv=>whnf)|refine Ok.block ?_|((first|refine Ok.skip ?_|refine Ok.ret ?_|refine ix _ (by assumption) ?_);conv=>whnf)|(refine Or.inl ?_;(conv=>whnf);(repeat (refine aI ?_;conv=>whnf));refine⟨_,r3n,rfl,?_⟩;conv=>whnf)|(refine rd rfl (by assumption) ?_;conv=>whnf)|(refine bI ?_ ?_<;>intro<;>(conv=>whnf)<;>(try (exfalso;omega)))|(refine aJ ?_;conv=>whnf)|fail)
       all_goals first
        | exact absurd rfl (by assumption)
        | exact absurd Iff.rfl (by assumption)
        | skip
       refine Ok.loopU [1,3,5,6,7,8,9,10] [12,13] 1 1 (fun (j:Nat)=>[.i .i64 (dstOf c.b (c.b.links.take j) (n:Nat)),.i .i64 (j:Nat)]) (fun (j:Nat) (_:List (List D))=>[c.row]) (fun (j:Nat) (_:Vx.Rows)=>[some (89,P.map Prt.row)]) (fun (j:Nat)=>j<=c.links.l.length) (fun (j:Nat)=>c.links.l.length - j) (0) (Nat.zero_le _) ?_;(conv=>whnf);refine⟨by ((conv=>whnf);first|rfl|(simp[envCat,List.take_of_length_le,SI.row,Node.row,Pfx.row,Link.row,srow,Line.row,Rule.row,Box.row,Slc.row,Config.row,Ls.d,Prt.row];done)|(simp[envCat,List.take_of_length_le,SI.row,Node.row,Pfx.row,Link.row,srow,Line.row,Rule.row,Box.row,Slc.row,Config.row,Ls.d,Prt.row];rw[IntKind.wrap_i64];omega)),?_⟩
       rintro j hj
       (conv=>whnf)
       by_cases hjl:j<c.links.l.length
       . obtain⟨x,hx⟩:∃ x,c.links.l[j]? = some x:=⟨_,List.getElem?_eq_getElem hjl⟩
         have hxI:c.links.l[((j:Nat):Int).toNat]? = some x:=hx
         have hxr:(c.links.l.map Link.row)[((j:Nat):Int).toNat]? = some x.row:=by rw[List.getElem?_map,hxI];rfl
         obtain⟨hxf,hxt⟩:=link_known h4 (List.mem_of_getElem? hx)
         have r3x:=r3 x.dst
         have hsu:=dstOf_succ (c:=c.b) (l:=c.b.links) (x:=x) hx (n:Nat)
         have hiff:x.frm=dot b.name t ↔ plc (fullsL c.b.boxes) x.frm=(n:Nat):=by
          constructor
          . intro e
            rw[e,hpl]
          . intro e
            obtain⟨_,g1⟩:=plc_at hxf
            have hm:dot b.name t ∈ fullsL c.b.boxes:=Classical.byContradiction fun hn=>by
             have:=(plc_neg _ _).2 hn
             omega
            obtain⟨_,g2⟩:=plc_at hm
            rw[e] at g1
            rw[hpl,g1] at g2
            exact Option.some.inj g2
         by_cases he:x.frm=dot b.name t
         . rw[if_pos (hiff.1 he)] at hsu
           (try (conv=>whnf));repeat' (first|refine Ok.seq ?_|((first|refine Ok.region tok ?_|refine Ok.region_draw tok follows (by kernel_rfl) ?_|refine Ok.cond ?_);conv=>whnf)|refine Ok.block ?_|((first|refine Ok.skip ?_|refine nI ?_|refine ix _ (by assumption) ?_|refine⟨_,by assumption,?_⟩);conv=>whnf)|(refine bI ?_ ?_<;>intro<;>(conv=>whnf)<;>(try (exfalso;omega)))|(refine aJ ?_;conv=>whnf)|fail)
           all_goals first
            | exact absurd he (by assumption)
            | (refine⟨j+1,by omega,by omega,?_⟩
               rw[hsu]
               (conv=>whnf)
               rfl)
         . rw[if_neg (fun h=>he (hiff.2 h))] at hsu
           (try (conv=>whnf));repeat' (first|refine Ok.seq ?_|((first|refine Ok.region tok ?_|refine Ok.region_draw tok follows (by kernel_rfl) ?_|refine Ok.cond ?_);conv=>whnf)|refine Ok.block ?_|((first|refine Ok.skip ?_|refine nI ?_|refine ix _ (by assumption) ?_|refine⟨_,by assumption,?_⟩);conv=>whnf)|(refine bI ?_ ?_<;>intro<;>(conv=>whnf)<;>(try (exfalso;omega)))|(refine aJ ?_;conv=>whnf)|fail)
           all_goals first
            | exact absurd (by assumption) he
            | (refine⟨j+1,by omega,by omega,?_⟩
               rw[hsu]
               (conv=>whnf)
               rfl)
       . obtain rfl:j=c.links.l.length:=by omega
         have htl2:c.b.links.take c.links.l.length=c.b.links:=List.take_of_length_le (Nat.le_refl _)
         rw[htl2]
         (conv=>whnf)
         (try (conv=>whnf));repeat' (first|refine Ok.seq ?_|((first|refine Ok.region tok ?_|refine Ok.cond ?_|refine Ok.skip ?_|refine Ok.exit ?_|refine Ok.ret ?_|refine nI ?_|refine rd rfl (by assumption) ?_);conv=>whnf)|(refine bI ?_ ?_<;>intro<;>(conv=>whnf)<;>(try (exfalso;omega)))|(refine aJ ?_;conv=>whnf)|fail)
         all_goals first
          | exact absurd rfl (by assumption)
          | (refine⟨k+1,by omega,by omega,?_⟩
             rw[<- Nat.add_assoc,<- hn]
             (conv=>whnf)
             rfl)
     . obtain rfl:k=nm.l.length:=by omega
       rw[hbn1]
       (conv=>whnf)
       (try (conv=>whnf));repeat' (first|refine Ok.seq ?_|((first|refine Ok.region tok ?_|refine Ok.cond ?_|refine Ok.exit ?_|refine nI ?_);conv=>whnf)|(refine bI ?_ ?_<;>intro<;>(conv=>whnf)<;>(try (exfalso;omega)))|fail)
       refine⟨s+1,by omega,by omega,?_⟩
       (conv=>whnf)
       rfl
   . obtain rfl:s=2:=by omega
     (try (conv=>whnf));repeat' (first|refine Ok.seq ?_|((first|refine Ok.region tok ?_|refine Ok.cond ?_|refine Ok.exit ?_|refine nI ?_);conv=>whnf)|(refine bI ?_ ?_<;>intro<;>(conv=>whnf)<;>(try (exfalso;omega)))|fail)
     refine⟨i+1,by omega,by omega,?_⟩
     rw[<- baseN_next hbb]
     (conv=>whnf)
     rfl
 . obtain rfl:i=c.boxes.l.length:=by omega
   have htl:c.b.boxes.take c.boxes.l.length=c.b.boxes:=List.take_of_length_le (by simp[Config.b])
   rw[htl,<- hfl]
   (conv=>whnf)
   (try (conv=>whnf));repeat' (first|refine Ok.seq ?_|((first|refine Ok.region tok ?_|refine Ok.cond ?_|refine Ok.exit ?_|refine Ok.ret ?_);conv=>whnf)|(refine Or.inl ?_;(conv=>whnf);(repeat (refine aI ?_;conv=>whnf));refine⟨_,mknown_at,rfl,?_⟩;conv=>whnf)|(refine bI ?_ ?_<;>intro<;>(conv=>whnf)<;>(try (exfalso;omega)))|fail)
   all_goals first
    | exact absurd rfl (by assumption)
    | (refine Or.inl ?_;(conv=>whnf)
       rfl)
theorem mnumbers_law(c:Config)(hc:c.Ok)(ht:c.Tx):FSpec Tryz.prog T 8 [.agg c.row] (fun d _=>d = .b True):=by
 by_cases h0:(checkO c.b).1=0
 . exact mnumbers_ok c hc ht h0
 have r1:=mports_bad c hc ht h0
 have r2:=mright_ff c hc ht h0
 refine FSpec.of_ok tok Tryz.func8 rfl Tryz.call8 (by simp) ?_
 (try (conv=>whnf));repeat' (first|refine Ok.seq ?_|((first|refine Ok.region tok ?_|refine Ok.cond ?_|refine Ok.ret ?_);conv=>whnf)|(refine Or.inl ?_;(conv=>whnf);(repeat (refine aI ?_;conv=>whnf));refine⟨_,r2,rfl,?_⟩;conv=>whnf)|(refine Or.inl ?_;(conv=>whnf);(repeat (refine aI ?_;conv=>whnf));refine⟨_,munum_at (checkO c.b).1,rfl,?_⟩;conv=>whnf)|(refine Or.inl ?_;(conv=>whnf);(repeat (refine aI ?_;conv=>whnf));refine⟨_,mknown_at,rfl,?_⟩;conv=>whnf)|(refine Or.inr (Or.inl ?_);(conv=>whnf);(repeat (refine aI ?_;conv=>whnf));refine⟨_,r1,?_⟩;rintro _ _ ⟨rfl,rfl⟩<;>(conv=>whnf))|(refine bI ?_ ?_<;>intro<;>(conv=>whnf)<;>(try (exfalso;omega)))|fail)
 all_goals first
  | exact absurd (by assumption) h0
  | exact absurd h0 (by assumption)
  | exact absurd rfl (by assumption)
  | (refine Or.inl ?_;(conv=>whnf)
     rfl)
theorem modelNumbers_ats:∃ ls,shapes T 9 [27]=some ls/\∀ xs,TyAs T 1048576 [27] ls xs->FSpec Tryz.prog T 8 xs (fun d _=>d = .b True):=by
 refine⟨_,rfl,fun xs h=>?_⟩
 obtain⟨_,_,rfl,h0,h⟩:=as_cons h
 obtain rfl:=as_nil h
 obtain⟨r0,rfl,g0⟩:=agg_of h0 rfl
 obtain⟨c,rfl,hc,ht⟩:=config_of g0
 exact mnumbers_law c hc ht
end Go.Proofs.YtcglkonooeddfaaGreatDoor
namespace Go.Proofs.YtcglkonooeddfaaGreatDoor
open Go Go.Vx
theorem len4{α:Type}{l:List α}(h:l.length=4):∃ a b c d,l=[a,b,c,d]:=match l,h with|[a,b,c,d],_=>⟨a,b,c,d,rfl⟩
theorem len5{α:Type}{l:List α}(h:l.length=5):∃ a b c d e,l=[a,b,c,d,e]:=match l,h with|[a,b,c,d,e],_=>⟨a,b,c,d,e,rfl⟩
theorem len20{α:Type}{l:List α}(h:l.length=20):∃ v0 v1 v2 v3 v4 v5 v6 v7 v8 v9 v10 v11 v12 v13 v14 v15 v16 v17 v18 v19,l=[v0,v1,v2,v3,v4,v5,v6,v7,v8,v9,v10,v11,v12,v13,v14,v15,v16,v17,v18,v19]:=match l,h with|[v0,v1,v2,v3,v4,v5,v6,v7,v8,v9,v10,v11,v12,v13,v14,v15,v16,v17,v18,v19],_=>⟨v0,v1,v2,v3,v4,v5,v6,v7,v8,v9,v10,v11,v12,v13,v14,v15,v16,v17,v18,v19,rfl⟩
theorem st4{W:World}{fuel:Nat}{cs:List Value}{y:DataW Unit × List MemPlace}{a b c d:Bool}(h:DataW.trod (fun _=>()) Tryz.prog W 0 (fun _=>true) false fuel 347 cs=some y)
    (hy:y.1 = .agg [.lit (.bool a),.lit (.bool b),.lit (.bool c),.lit (.bool d)]):cs=[.bool a,.bool b,.bool c,.bool d]:=by
 obtain⟨xs,n,_,rfl,hl,hlen,hf⟩:=DataW.trod_struct Tryz.underlying347 h
 have hc4:Tryz.prog.cellsOf 347=4:=by kernel_rfl
 have hcb:Tryz.prog.cellsOf 4=1:=by kernel_rfl
 rw[hc4] at hl
 have hx4:xs.length=4:=hlen
 obtain⟨z0,z1,z2,z3,rfl⟩:=len4 hx4
 obtain⟨v0,v1,v2,v3,rfl⟩:=len4 hl
 ·
  simp only[List.map_cons,List.map_nil,DataW.agg.injEq,List.cons.injEq,and_true] at hy
  obtain⟨e0,e1,e2,e3⟩:=hy
  have f0:DataW.trod (fun _=>()) Tryz.prog W 0 (fun _=>true) false n 4 (List.take (Tryz.prog.cellsOf 4) (List.drop 0 [v0,v1,v2,v3]))=some z0:=hf 0 _ rfl
  rw[hcb,show List.take 1 (List.drop 0 [v0,v1,v2,v3])=[v0] from rfl] at f0
  have f1:DataW.trod (fun _=>()) Tryz.prog W 0 (fun _=>true) false n 4 (List.take (Tryz.prog.cellsOf 4) (List.drop 1 [v0,v1,v2,v3]))=some z1:=hf 1 _ rfl
  rw[hcb,show List.take 1 (List.drop 1 [v0,v1,v2,v3])=[v1] from rfl] at f1
  have f2:DataW.trod (fun _=>()) Tryz.prog W 0 (fun _=>true) false n 4 (List.take (Tryz.prog.cellsOf 4) (List.drop 2 [v0,v1,v2,v3]))=some z2:=hf 2 _ rfl
  rw[hcb,show List.take 1 (List.drop 2 [v0,v1,v2,v3])=[v2] from rfl] at f2
  have f3:DataW.trod (fun _=>()) Tryz.prog W 0 (fun _=>true) false n 4 (List.take (Tryz.prog.cellsOf 4) (List.drop 3 [v0,v1,v2,v3]))=some z3:=hf 3 _ rfl
  rw[hcb,show List.take 1 (List.drop 3 [v0,v1,v2,v3])=[v3] from rfl] at f3
  obtain⟨b0,h0,rfl⟩:=DataW.trod_bool Tryz.underlying4 f0
  obtain⟨b1,h1,rfl⟩:=DataW.trod_bool Tryz.underlying4 f1
  obtain⟨b2,h2,rfl⟩:=DataW.trod_bool Tryz.underlying4 f2
  obtain⟨b3,h3,rfl⟩:=DataW.trod_bool Tryz.underlying4 f3
  clear hf h
  simp only[List.cons.injEq,and_true] at h0 h1 h2 h3
  simp only[DataW.lit.injEq,Lit.bool.injEq] at e0 e1 e2 e3
  rw[h0,h1,h2,h3,e0,e1,e2,e3]
theorem used_of{W:World}{fuel:Nat}{cs:List Value}{p:List MemPlace}(h:DataW.trod (fun _=>()) Tryz.prog W 0 (fun _=>true) false fuel 348 cs=some (Rows.laid_reach_field_used,p)) :
    cs=[.bool false,.bool false,.bool false,.bool false,.bool true,.bool false,.bool false,.bool false,.bool true,.bool false,.bool true,.bool false,.bool true,.bool true,.bool false,.bool false,.bool false,.bool false,.bool false,.bool true]:=by
 obtain⟨xs,m,_,hx,hl,hxl,hf⟩:=DataW.trod_array Tryz.underlying348 h
 have hc:Tryz.prog.cellsOf 348=20:=by kernel_rfl
 have hc4:Tryz.prog.cellsOf 347=4:=by kernel_rfl
 rw[hc] at hl
 rw[hc4] at hf
 have hx1:=(Prod.mk.inj hx).1
 unfold Rows.laid_reach_field_used at hx1
 obtain⟨y0,y1,y2,y3,y4,rfl⟩:=len5 hxl
 obtain⟨v0,v1,v2,v3,v4,v5,v6,v7,v8,v9,v10,v11,v12,v13,v14,v15,v16,v17,v18,v19,rfl⟩:=len20 hl
 ·
  simp only[List.map_cons,List.map_nil,DataW.agg.injEq,List.cons.injEq,and_true] at hx1
  obtain⟨e0,e1,e2,e3,e4⟩:=hx1
  have g0:=st4 (hf 0 (by decide)) e0.symm
  have g1:=st4 (hf 1 (by decide)) e1.symm
  have g2:=st4 (hf 2 (by decide)) e2.symm
  have g3:=st4 (hf 3 (by decide)) e3.symm
  have g4:=st4 (hf 4 (by decide)) e4.symm
  simp at g0 g1 g2 g3 g4
  simp[g0,g1,g2,g3,g4]
theorem gl_of_gt{W:World}(h:GT W):GlOk W:=by
 refine⟨fun pp v hp=>?_,h⟩
 unfold glV at hp
 obtain⟨b,o,sp⟩:=pp
 cases sp with
 | some _=>cases hp
 | none=>
  dsimp only at hp
  cases hg:glD b with
  | none=>rw[hg] at hp;cases hp
  | some cs=>
   rw[hg] at hp
   dsimp only at hp
   obtain⟨_,a,c,hw⟩:=h b cs hg
   show W.cell? ⟨b,o,none⟩=some v
   simp only[World.cell?,hw]
   simpa using hp
theorem heap_of{W:World}{name:String}{g:Nat}{cs:Array Value}(hg:Tryz.prog.globalNamed name=some g)(h:W.var? Tryz.prog name=some cs):∃ a b,W.heap[g]? = some (.cells cs a b):=by
 simp only[World.var?,hg,Option.bind_some] at h
 split at h
 . rename_i cs' a b hh
   cases h
   exact⟨a,b,hh⟩
 . cases h
def VarIs(W:World)(name:String)(g:Nat):Prop:=∃ cs:Array Value,W.var? Tryz.prog name=some cs/\∃ ds,glD g=some ds/\cs.toList=ds.map valD
theorem gt_of{W:World}(h1:VarIs W "reach/field.used" 1)(h5:VarIs W "internal/strconv.uint64pow10" 5):GT W:=by
 have one:∀ name g,Tryz.prog.globalNamed name=some g → VarIs W name g → ∀ cs,glD g=some cs → ∃ a b,W.heap[g]? = some (.cells (cs.map valD).toArray a b):=by
  rintro name g hn ⟨cs,hv,ds,hd,he⟩ cs' hc
  rw[hd] at hc
  cases hc
  obtain⟨a,b,hh⟩:=heap_of hn hv
  exact⟨a,b,by rw[hh,← he]⟩
 intro g cs hg
 match g,hg with
 | 1,hg=>exact⟨by cases hg;simp,one _ 1 (by kernel_rfl) h1 cs hg⟩
 | 5,hg=>exact⟨by cases hg;simp,one _ 5 (by kernel_rfl) h5 cs hg⟩
 | 0,hg=>cases hg
 | 2,hg=>cases hg
 | 3,hg=>cases hg
 | 4,hg=>cases hg
 | n+6,hg=>cases hg
theorem type_of{name:String}{g:Nat}{t t':TypeId}(hg0:Tryz.prog.globalNamed name=some g)(ht0:(Tryz.prog.globals[g]?).map (·.type)=some t){g':Nat}(hg:Tryz.prog.globalNamed name=some g')(ht:(Tryz.prog.globals[g']?).map (·.type)=some t'):g'=g/\t'=t:=by
 obtain rfl:=Option.some.inj (hg0.symm.trans hg)
 exact⟨rfl,(Option.some.inj (ht0.symm.trans ht)).symm⟩
theorem glM{W:World}(h:laidMetH Tryz.prog Rows.modelNumbersUptoRow.laid W):GlOk W:=by
 rw[MakeChecks.laidMetH_plain _ _ _ (by kernel_rfl)] at h
 obtain⟨ps,⟨_,_,_,_,_,_,_,_,_,_,⟨_,_,_,_,_,_,_,_,_,_,⟨g5,t5,c5,f5,p5,q5,hg5,ht5,hv5,hd5,⟨_,_,_,_,_,_,_,_,_,_,⟨g1,t1,c1,f1,p1,q1,hg1,ht1,hv1,hd1,_,_⟩,_⟩,_⟩,_⟩,_⟩,_⟩:=h
 obtain⟨rfl,rfl⟩:=type_of (g:=5) (t:=410) (by kernel_rfl) (by kernel_rfl) hg5 ht5
 obtain⟨rfl,rfl⟩:=type_of (g:=1) (t:=348) (by kernel_rfl) (by kernel_rfl) hg1 ht1
 refine gl_of_gt (gt_of ⟨c1,hv1,_,rfl,?_⟩ ⟨c5,hv5,_,rfl,?_⟩)
 . exact used_of hd1
 . exact Lib.cells_of_tab (zs:=Lib.pow10Tab) Tryz.underlying410 Tryz.underlying134 (by kernel_rfl) (by kernel_rfl) hd5
end Go.Proofs.YtcglkonooeddfaaGreatDoor
