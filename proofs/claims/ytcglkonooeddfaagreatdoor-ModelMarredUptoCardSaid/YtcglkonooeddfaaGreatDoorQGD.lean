/- The walks and the plain laws that a law of networks needs, part 4 of 6. -/
import Derived.Test.YtcglkonooeddfaaGreatDoorQGC
import Derived.Lib.ItoaNum
import Derived.Lib.ItoaLen
set_option linter.unusedVariables false
set_option linter.unusedSimpArgs false
namespace Go.Proofs.YtcglkonooeddfaaGreatDoor
open Go Go.Vx Go.Shelf
theorem xs_ct{n:Nat}(h:n<=256):CT (xsT n):=⟨by simp[xsT];omega,fun b hb=>by rw[(List.mem_replicate.1 hb).2];simp⟩
theorem xs_cn{n:Nat}(h:n<=256)(h0:1<=n):CN (xsT n):=⟨xs_ct h,fun e=>by have:=congrArg List.length e;rw[xsT_len] at this;simp at this;omega⟩
theorem xall_at(n:Nat)(h:n<=256)(h0:1<=n):FSpec Tryz.prog T 283 [.i .i64 (n:Nat)] (fun d rows=>d = .agg (crow (xsT n))/\rows=[]):=by
 refine FSpec.of_ok tok Tryz.func283 rfl Tryz.call283 (by simp) ?_
 rw[crow_xs]
 (try (conv=>whnf));repeat' (first|refine Ok.seq ?_|((first|refine Ok.region tok ?_|refine Ok.cond ?_|refine Ok.skip ?_|refine Ok.ret ?_);conv=>whnf)|(refine bI ?_ ?_<;>intro<;>(conv=>whnf)<;>(try (exfalso;omega)))|fail)
 all_goals first
  | (exfalso;omega)
  | (refine Or.inl ?_;(conv=>whnf)
     exact⟨rfl,rfl⟩)
end Go.Proofs.YtcglkonooeddfaaGreatDoor
namespace Go.Proofs.YtcglkonooeddfaaGreatDoor
open Go Go.Vx Go.Shelf
def oneTT(t:Tst)(b:Nat):Str:=if t.form=4 then t.pat else if t.form=2 then pfxT t.lo.toNat b t.len.toNat else pfxT t.lo.toNat b b
set_option maxHeartbeats 4000000 in
theorem one_at(f:Str)(op form hi:Int)(vl vn:Nat)(pat:Str)(b:Nat)(hb:b<=32)(hvl:vl<9223372036854775808)(hvn:vn<=b):FSpec Tryz.prog T 282 [.agg (tcl f op form vl hi vn pat),.i .i64 (b:Nat)] (fun d _=>d = .s (oneTT ⟨f,op,form,vl,hi,vn,pat⟩ b)):=by
 have hp1:=prefix_at vl b vn hvl (by omega) hvn vl b vn rfl rfl rfl
 have hp2:=prefix_at vl b b hvl (by omega) (Nat.le_refl _) vl b b rfl rfl rfl
 refine FSpec.of_ok tok Tryz.func282 rfl Tryz.call282 (by simp) ?_
 unfold oneTT
 dsimp only
 (try (conv=>whnf));repeat' (first|refine Ok.seq ?_|((first|refine Ok.region tok ?_|refine Ok.cond ?_);conv=>whnf)|refine Ok.block ?_|((first|refine Ok.skip ?_|refine Ok.ret ?_);conv=>whnf)|(refine Or.inl ?_;(conv=>whnf);(repeat (refine aI ?_;conv=>whnf));refine⟨_,hp1,rfl,?_⟩;conv=>whnf)|(refine Or.inl ?_;(conv=>whnf);(repeat (refine aI ?_;conv=>whnf));refine⟨_,hp2,rfl,?_⟩;conv=>whnf)|(refine bI ?_ ?_<;>intro<;>(conv=>whnf)<;>(try (exfalso;omega)))|fail)
 all_goals first
  | (exfalso;omega)
  | (refine Or.inl ?_;(conv=>whnf)
     first
      | (rw[if_pos (by omega)];rfl)
      | (rw[if_neg (by omega),if_pos (by omega)];rfl)
      | (rw[if_neg (by omega),if_neg (by omega)];rfl))
theorem one_len{t:Tst}{b:Nat}(h1:t.form=4->t.pat.length=b)(h2:t.len.toNat<=b):(oneTT t b).length=b:=by
 unfold oneTT
 split
 . rename_i h;exact h1 h
 split
 . exact pfxT_len h2
 . exact pfxT_len (Nat.le_refl _)
theorem pfx_cub(v b n:Nat):cubOk (pfxT v b n):=by
 intro x hx
 unfold pfxT at hx
 rcases List.mem_append.1 hx with h|h
 . unfold binT at h
   obtain⟨i,_,rfl⟩:=List.mem_map.1 h
   unfold bitC
   split<;>simp
 . rw[(List.mem_replicate.1 h).2];simp
theorem one_cub{t:Tst}{b:Nat}(h1:t.form=4->cubOk t.pat):cubOk (oneTT t b):=by
 unfold oneTT
 split
 . rename_i h;exact h1 h
 split
 . exact pfx_cub _ _ _
 . exact pfx_cub _ _ _
end Go.Proofs.YtcglkonooeddfaaGreatDoor
namespace Go.Proofs.YtcglkonooeddfaaGreatDoor
open Go Go.Vx Go.Shelf
def eitT(t:Tst)(b:Nat):List Str:=
 if t.form=3 then (if t.op=1 then coverC b (t.hi.toNat+1) t.lo.toNat else coverC b t.lo.toNat 0++coverC b (tw b) (t.hi.toNat+1))
 else if t.op=1 then [oneTT t b] else splitT (xsT b) (oneTT t b)
def valT(t:Tst)(b:Nat):List Str:=
 if t.op<=2 then eitT t b else if t.op=3 then coverC b t.lo.toNat 0 else if t.op=4 then coverC b (t.lo.toNat+1) 0
 else if t.op=5 then coverC b (tw b) (t.lo.toNat+1) else coverC b (tw b) t.lo.toNat
set_option maxHeartbeats 8000000 in
theorem either_at(f:Str)(op form:Int)(vl vh vn:Nat)(pat:Str)(b:Nat)(h0:1<=b)(hb:b<=32)(hvl:vl<tw b)(hvh:vh<tw b)(hvn:vn<=b)(hpl:form=4->pat.length=b)(hpc:form=4->cubOk pat) :
    FSpec Tryz.prog T 241 [.agg (tcl f op form vl vh vn pat),.i .i64 (b:Nat)] (fun d rows=>d = .own 0 (eitT ⟨f,op,form,vl,vh,vn,pat⟩ b).length/\rows=[some (9,(eitT ⟨f,op,form,vl,vh,vn,pat⟩ b).map srow)]):=by
 have htb:=tw62 (show b<=62 by omega)
 have htop:=top_at b (by omega)
 refine FSpec.of_ok tok Tryz.func241 rfl Tryz.call241 (by simp) ?_
 unfold eitT
 dsimp only
 simp only[Int.toNat_natCast]
 by_cases h3:form=3
 . rw[if_pos h3]
   by_cases h1:op=1
   . rw[if_pos h1]
     have hc:=cover_at b vl (vh+1) hb (by omega) (by omega) b vl vh rfl rfl (by omega)
     generalize coverC b (vh+1) vl=C at *
     have hlm:(C.map srow).length=C.length:=by simp
     (try (conv=>whnf));repeat' (first|refine Ok.seq ?_|((first|refine Ok.region tok ?_|refine Ok.cond ?_|refine Ok.ret ?_);conv=>whnf)|(refine Or.inr (Or.inl ?_);(conv=>whnf);(repeat (refine aI ?_;conv=>whnf));refine⟨_,hc,?_⟩;rintro _ _ ⟨rfl,rfl⟩;conv=>whnf)|(refine bI ?_ ?_<;>intro<;>(conv=>whnf)<;>(try (exfalso;omega)))|fail)
     all_goals first
      | (exfalso;omega)
      | (refine Or.inr (Or.inl ?_);(conv=>whnf)
         exact⟨rfl,rfl⟩)
   . rw[if_neg h1]
     have hc1:=cover_at b 0 vl hb (by omega) (by omega) b 0 ((vl:Int) - 1) rfl rfl rfl
     have hc2:=cover_at b (vh+1) (tw b) hb (by omega) (by omega) b ((vh:Int)+1) ((tw b:Int) - 1) rfl rfl rfl
     have hl1:=coverC_len (bits:=b) (lo:=0) (H:=vl) (by show vl<=tw b;omega)
     have hl2:=coverC_len (bits:=b) (lo:=vh+1) (H:=tw b) (Nat.le_refl _)
     generalize coverC b vl 0=A at *
     generalize coverC b (tw b) (vh+1)=B at *
     have hlA:(A.map srow).length=A.length:=by simp
     have hlB:(B.map srow).length=B.length:=by simp
     (try (conv=>whnf));repeat' (first|(refine⟨B.map srow,.inl ⟨hlB.symm,rfl⟩,?_⟩;conv=>whnf)|refine Ok.seq ?_|((first|refine Ok.region tok ?_|refine Ok.region_plan (id:=4) tok follows [(2,4,[3]),(2,10,[4,3]),(4,10,[]),(2,11,[10,4,3]),(7,11,[8]),(4,11,[10]),(10,11,[]),(2,12,[4,3]),(7,12,[11,8]),(4,12,[]),(10,12,[11]),(11,12,[])] [.q 0,.q 1,.q 2,.q 3,.q 5,.q 6,.q 7,.q 8,.q 9,.l 4,.l 10,.l 11,.l 12,.q 13] (by kernel_rfl) ?_|refine Ok.cond ?_|refine Ok.skip ?_|refine Ok.ret ?_|refine nI ?_);conv=>whnf)|(refine Or.inl ?_;(conv=>whnf);(repeat (refine aI ?_;conv=>whnf));refine⟨_,htop,rfl,?_⟩;conv=>whnf)|(refine Or.inr (Or.inl ?_);(conv=>whnf);(repeat (refine aI ?_;conv=>whnf));refine⟨_,hc1,?_⟩;rintro _ _ ⟨rfl,rfl⟩;conv=>whnf)|(refine Or.inr (Or.inl ?_);(conv=>whnf);(repeat (refine aI ?_;conv=>whnf));refine⟨_,hc2,?_⟩;rintro _ _ ⟨rfl,rfl⟩;conv=>whnf)|((first|refine Alt2.l (aI ?_)|refine⟨_,_,rfl,rfl,?_⟩);conv=>whnf)|(refine bI ?_ ?_<;>intro<;>(conv=>whnf)<;>(try (exfalso;omega)))|(refine aJ ?_;conv=>whnf)|fail)
     all_goals first
      | (exfalso;omega)
      | (refine Or.inr (Or.inl ?_);(conv=>whnf)
         exact⟨by simp;rfl,by simp⟩)
 . rw[if_neg h3]
   have ho:=one_at f op form vh vl vn pat b hb (by omega) hvn
   have hcl:(oneTT ⟨f,op,form,vl,vh,vn,pat⟩ b).length=b:=one_len hpl (by simp;omega)
   have hcc:cubOk (oneTT ⟨f,op,form,vl,vh,vn,pat⟩ b):=one_cub hpc
   generalize oneTT ⟨f,op,form,vl,vh,vn,pat⟩ b=c at *
   have hct:CT c:=⟨by omega,hcc⟩
   by_cases h1:op=1
   . rw[if_pos h1]
     (try (conv=>whnf));repeat' (first|refine Ok.seq ?_|((first|refine Ok.region tok ?_|refine Ok.cond ?_|refine Ok.skip ?_|refine Ok.ret ?_);conv=>whnf)|(refine Or.inl ?_;(conv=>whnf);(repeat (refine aI ?_;conv=>whnf));refine⟨_,ho,rfl,?_⟩;conv=>whnf)|(refine bI ?_ ?_<;>intro<;>(conv=>whnf)<;>(try (exfalso;omega)))|fail)
     all_goals first
      | (exfalso;omega)
      | (refine Or.inr (Or.inl ?_);(conv=>whnf)
         exact⟨rfl,rfl⟩)
   . rw[if_neg h1]
     have hne:c ≠ []:=fun e=>by rw[e] at hcl;simp at hcl;omega
     have hpz:perr c=0:=by unfold perr;rw[if_neg (by omega),if_pos ⟨hct,hne⟩]
     have hpa:=parse_at c
     rw[zer_of ⟨hct,hne⟩,hpz] at hpa
     have hsp:=split_at (xsT b) c (xs_cn (by omega) h0) hct
     have hPc:=splitT_cn (xs_cn (show b<=256 by omega) h0) hct
     have hPl:=splitT_len (c:=xsT b) (d:=c) (by rw[xsT_len];omega)
     generalize splitT (xsT b) c=P at *
     have hlP:(P.map crow).length=P.length:=by simp
     (try (conv=>whnf));repeat' (first|refine Ok.seq ?_|((first|refine Ok.region tok ?_|refine Ok.region_plan (id:=10) tok follows [(2,3,[]),(1,3,[])] [.q 0,.q 2,.q 5,.l 1,.l 3,.q 4] (by kernel_rfl) ?_|refine Ok.cond ?_);conv=>whnf)|refine Ok.block ?_|(refine Ok.skip ?_;conv=>whnf)|(refine Or.inl ?_;(conv=>whnf);(repeat (refine aI ?_;conv=>whnf));refine⟨_,ho,rfl,?_⟩;conv=>whnf)|(refine Or.inr (Or.inl ?_);(conv=>whnf);(repeat (refine aI ?_;conv=>whnf));refine⟨_,hpa,?_⟩;rintro _ _ ⟨rfl,rfl⟩;conv=>whnf)|(refine Or.inr (Or.inl ?_);(conv=>whnf);(repeat (refine aI ?_;conv=>whnf));refine⟨_,xall_at b (by omega) h0,?_⟩;rintro _ _ ⟨rfl,rfl⟩;conv=>whnf)|(refine Or.inr (Or.inl ?_);(conv=>whnf);(repeat (refine aI ?_;conv=>whnf));refine⟨_,hsp , ?_⟩;rintro _ _ ⟨rm,rfl,rfl⟩<;>(conv=>whnf))|(refine bI ?_ ?_<;>intro<;>(conv=>whnf)<;>(try (exfalso;omega)))|fail)
     all_goals first
      | (exfalso;omega)
      | skip
     refine Ok.ghost 8 9 rfl ?_
     (conv=>whnf)
     refine Ok.loopU [52,53] [8,54] 1 2 (fun (i:Nat)=>[.own 0 i,.i .i64 (i:Nat)]) (fun _ b=>b) (fun (i:Nat) (_:Vx.Rows)=>[some (9,(P.take i).map srow)]) (fun (i:Nat)=>i<=P.length) (fun (i:Nat)=>P.length - i) (0) (Nat.zero_le _) ?_;(conv=>whnf);refine⟨by ((conv=>whnf);first|rfl|(simp[envCat,List.take_of_length_le,nrow,frow,bcell,srow,tcells,crow];done)|(simp[envCat,List.take_of_length_le,nrow,frow,bcell,srow,tcells,crow];rw[IntKind.wrap_i64];omega)),?_⟩
     intro i hi
     have hti:((P.take i).map srow).length=i:=by simp;omega
     (conv=>whnf)
     by_cases hil:i<P.length
     . obtain⟨x,hx⟩:∃ x,P[i]? = some x:=⟨_,List.getElem?_eq_getElem hil⟩
       have hxI:P[((i:Nat):Int).toNat]? = some x:=hx
       have hxt:=text_at x (hPc x (List.mem_of_getElem? hx)).1.1
       have hsn:(P.take (i+1)).map srow=(P.take i).map srow++[srow x]:=by rw[take_snoc hx,List.map_append];rfl
       (try (conv=>whnf));repeat' (first|refine Ok.seq ?_|((first|refine Ok.region tok ?_|refine Ok.cond ?_);conv=>whnf)|refine Ok.block ?_|((first|refine Ok.skip ?_|refine nI ?_|refine ix _ (by assumption) ?_);conv=>whnf)|(refine Or.inl ?_;(conv=>whnf);(repeat (refine aI ?_;conv=>whnf));refine⟨_,hxt,rfl,?_⟩;conv=>whnf)|((first|refine Alt2.l (aI ?_)|refine⟨_,.inl ⟨rfl,rfl⟩,?_⟩|refine⟨_,_,rfl,rfl,?_⟩);conv=>whnf)|(refine bI ?_ ?_<;>intro<;>(conv=>whnf)<;>(try (exfalso;omega)))|(refine aJ ?_;conv=>whnf)|fail)
       all_goals first
        | (exfalso;omega)
        | skip
       refine⟨i+1,by omega,by omega,?_⟩
       rw[hsn]
       (conv=>whnf)
       simp[envCat]
       omega
     . have hie:i=P.length:=by omega
       subst hie
       rw[List.take_length]
       (try (conv=>whnf));repeat' (first|refine Ok.seq ?_|((first|refine Ok.region tok ?_|refine Ok.cond ?_|refine Ok.exit ?_|refine Ok.ret ?_);conv=>whnf)|(refine bI ?_ ?_<;>intro<;>(conv=>whnf)<;>(try (exfalso;omega)))|fail)
       all_goals first
        | (exfalso;omega)
        | (refine Or.inr (Or.inl ?_);(conv=>whnf)
           exact⟨rfl,rfl⟩)
set_option maxHeartbeats 8000000 in
theorem values_at(f:Str)(op form:Int)(vl vh vn:Nat)(pat:Str)(b:Nat)(h0:1<=b)(hb:b<=32)(ho:1<=op/\op<=6)(hvl:vl<tw b)(hvh:vh<tw b)(hvn:vn<=b)(hpl:form=4->pat.length=b)(hpc:form=4->cubOk pat) :
    FSpec Tryz.prog T 177 [.agg (tcl f op form vl vh vn pat),.i .i64 (b:Nat)] (fun d rows=>d = .own 0 (valT ⟨f,op,form,vl,vh,vn,pat⟩ b).length/\rows=[some (9,(valT ⟨f,op,form,vl,vh,vn,pat⟩ b).map srow)]):=by
 have htb:=tw62 (show b<=62 by omega)
 have htop:=top_at b (by omega)
 refine FSpec.of_ok tok Tryz.func177 rfl Tryz.call177 (by simp) ?_
 unfold valT
 dsimp only
 simp only[Int.toNat_natCast]
 by_cases h2:op<=2
 . rw[if_pos h2]
   have he:=either_at f op form vl vh vn pat b h0 hb hvl hvh hvn hpl hpc
   generalize eitT ⟨f,op,form,vl,vh,vn,pat⟩ b=C at *
   have hlm:(C.map srow).length=C.length:=by simp
   (try (conv=>whnf));repeat' (first|refine Ok.seq ?_|((first|refine Ok.region tok ?_|refine Ok.region_draw tok follows (by kernel_rfl) ?_|refine Ok.cond ?_);conv=>whnf)|refine Ok.block ?_|((first|refine Ok.skip ?_|refine Ok.exit ?_|refine Ok.ret ?_);conv=>whnf)|(refine Or.inr (Or.inl ?_);(conv=>whnf);(repeat (refine aI ?_;conv=>whnf));refine⟨_,he,?_⟩;rintro _ _ ⟨rfl,rfl⟩;conv=>whnf)|(refine bI ?_ ?_<;>intro<;>(conv=>whnf)<;>(try (exfalso;omega)))|fail)
   all_goals first
    | (exfalso;omega)
    | (refine Or.inr (Or.inl ?_);(conv=>whnf)
       exact⟨rfl,rfl⟩)
 rw[if_neg h2]
 by_cases h3:op=3
 . rw[if_pos h3]
   have hc:=cover_at b 0 vl hb (by omega) (by omega) b 0 ((vl:Int) - 1) rfl rfl rfl
   generalize coverC b vl 0=C at *
   have hlm:(C.map srow).length=C.length:=by simp
   (try (conv=>whnf));repeat' (first|refine Ok.seq ?_|((first|refine Ok.region tok ?_|refine Ok.region_draw tok follows (by kernel_rfl) ?_|refine Ok.cond ?_);conv=>whnf)|refine Ok.block ?_|((first|refine Ok.skip ?_|refine Ok.exit ?_|refine Ok.ret ?_|refine nI ?_);conv=>whnf)|(refine Or.inr (Or.inl ?_);(conv=>whnf);(repeat (refine aI ?_;conv=>whnf));refine⟨_,hc,?_⟩;rintro _ _ ⟨rfl,rfl⟩;conv=>whnf)|(refine bI ?_ ?_<;>intro<;>(conv=>whnf)<;>(try (exfalso;omega)))|fail)
   all_goals first
    | (exfalso;omega)
    | (refine Or.inr (Or.inl ?_);(conv=>whnf)
       exact⟨rfl,rfl⟩)
 rw[if_neg h3]
 by_cases h4:op=4
 . rw[if_pos h4]
   have hc:=cover_at b 0 (vl+1) hb (by omega) (by omega) b 0 ((vl:Int)+1 - 1) rfl rfl (by omega)
   generalize coverC b (vl+1) 0=C at *
   have hlm:(C.map srow).length=C.length:=by simp
   (try (conv=>whnf));repeat' (first|refine Ok.seq ?_|((first|refine Ok.region tok ?_|refine Ok.region_draw tok follows (by kernel_rfl) ?_|refine Ok.cond ?_);conv=>whnf)|refine Ok.block ?_|((first|refine Ok.skip ?_|refine Ok.exit ?_|refine Ok.ret ?_|refine nI ?_);conv=>whnf)|(refine Or.inr (Or.inl ?_);(conv=>whnf);(repeat (refine aI ?_;conv=>whnf));refine⟨_,hc,?_⟩;rintro _ _ ⟨rfl,rfl⟩;conv=>whnf)|(refine bI ?_ ?_<;>intro<;>(conv=>whnf)<;>(try (exfalso;omega)))|fail)
   all_goals first
    | (exfalso;omega)
    | (refine Or.inr (Or.inl ?_);(conv=>whnf)
       exact⟨rfl,rfl⟩)
 rw[if_neg h4]
 by_cases h5:op=5
 . rw[if_pos h5]
   have hc:=cover_at b (vl+1) (tw b) hb (by omega) (by omega) b ((vl:Int)+1) ((tw b:Int) - 1) rfl rfl rfl
   generalize coverC b (tw b) (vl+1)=C at *
   have hlm:(C.map srow).length=C.length:=by simp
   (try (conv=>whnf));repeat' (first|refine Ok.seq ?_|((first|refine Ok.region tok ?_|refine Ok.region_draw tok follows (by kernel_rfl) ?_|refine Ok.cond ?_);conv=>whnf)|refine Ok.block ?_|((first|refine Ok.skip ?_|refine Ok.exit ?_|refine Ok.ret ?_|refine nI ?_);conv=>whnf)|(refine Or.inl ?_;(conv=>whnf);(repeat (refine aI ?_;conv=>whnf));refine⟨_,htop,rfl,?_⟩;conv=>whnf)|(refine Or.inr (Or.inl ?_);(conv=>whnf);(repeat (refine aI ?_;conv=>whnf));refine⟨_,hc,?_⟩;rintro _ _ ⟨rfl,rfl⟩;conv=>whnf)|(refine bI ?_ ?_<;>intro<;>(conv=>whnf)<;>(try (exfalso;omega)))|fail)
   all_goals first
    | (exfalso;omega)
    | (refine Or.inr (Or.inl ?_);(conv=>whnf)
       exact⟨rfl,rfl⟩)
 rw[if_neg h5]
 have hc:=cover_at b vl (tw b) hb (by omega) (by omega) b ((vl:Int) - 1+1) ((tw b:Int) - 1) rfl (by omega) rfl
 generalize coverC b (tw b) vl=C at *
 have hlm:(C.map srow).length=C.length:=by simp
 (try (conv=>whnf));repeat' (first|refine Ok.seq ?_|((first|refine Ok.region tok ?_|refine Ok.region_draw tok follows (by kernel_rfl) ?_|refine Ok.cond ?_);conv=>whnf)|refine Ok.block ?_|((first|refine Ok.skip ?_|refine Ok.exit ?_|refine Ok.ret ?_|refine nI ?_);conv=>whnf)|(refine Or.inl ?_;(conv=>whnf);(repeat (refine aI ?_;conv=>whnf));refine⟨_,htop,rfl,?_⟩;conv=>whnf)|(refine Or.inr (Or.inl ?_);(conv=>whnf);(repeat (refine aI ?_;conv=>whnf));refine⟨_,hc,?_⟩;rintro _ _ ⟨rfl,rfl⟩;conv=>whnf)|(refine bI ?_ ?_<;>intro<;>(conv=>whnf)<;>(try (exfalso;omega)))|fail)
 all_goals first
  | (exfalso;omega)
  | (refine Or.inr (Or.inl ?_);(conv=>whnf)
     exact⟨rfl,rfl⟩)
end Go.Proofs.YtcglkonooeddfaaGreatDoor
namespace Go.Proofs.YtcglkonooeddfaaGreatDoor
open Go Go.Vx Go.Shelf
theorem chkFrom_lay{all:List Fd}:∀ (r:List Fd) (i:Nat) (sum:Int),(chkFrom all r i sum).1=0->∀ f ∈ r,1<=f.bits/\f.bits<=32
 | [],_,_,_=>by simp
 | f :: r,i,sum,h=>by
  by_cases hb:badF (all.take i) f sum
  . rw[chkFrom_bad hb] at h;cases h
  . rw[chkFrom_ok hb] at h
    intro g hg
    rcases List.mem_cons.1 hg with rfl|hg
    . refine⟨Classical.byContradiction fun e=>hb ?_,Classical.byContradiction fun e=>hb ?_⟩
      . exact .inr (.inr (.inr (.inr (.inl (by omega)))))
      . exact .inr (.inr (.inr (.inr (.inr (.inl (by omega))))))
    . exact chkFrom_lay r _ _ h g hg
theorem chk_lay{l:List Fd}(h:(chkO l).1=0):LayF l/\l.length<=12:=by
 by_cases h1:12<l.length
 . rw[chkO_long h1] at h;cases h
 by_cases h2:l.length=0
 . rw[chkO_nil h2] at h;cases h
 rw[chkO_of h1 h2] at h
 exact⟨chkFrom_lay _ _ _ h,by omega⟩
theorem errT_zero{t:Tst}{b:Nat}(h:errT t b=0):FormOk t/\ValOk t b/\(t.form=4->DigOk t.pat b):=by
 by_cases h1:FormOk t
 . by_cases h2:ValOk t b
   . refine⟨h1,h2,fun h4=>Classical.byContradiction fun hd=>?_⟩
     by_cases h3:t.form=2/\t.lo.toNat % tw (b - t.len.toNat) ≠ 0
     . rw[errT_pre h1 h2 h3] at h;cases h
     . by_cases h5:t.form=3/\t.hi<t.lo
       . rw[errT_rng h1 h2 h3 h5] at h;cases h
       . rw[errT_dig h1 h2 h3 h5 ⟨h4,hd⟩] at h;cases h
   . rw[errT_val h1 h2] at h;cases h
 . rw[errT_form h1] at h;cases h
theorem coverF_one{bits H:Nat}:∀ (k lo:Nat),∀ s ∈ coverF bits H k lo,s.length=bits
 | 0,lo=>by simp[coverF]
 | k+1,lo=>by
  unfold coverF
  split
  . intro s hs
    rcases List.mem_cons.1 hs with rfl|hs
    . exact pfxT_len (Nat.sub_le _ _)
    . exact coverF_one k _ s hs
  . simp
theorem val_one{t:Tst}{b:Nat}(h0:1<=b)(hb:b<=32)(hpl:t.form=4->DigOk t.pat b)(hn:t.len.toNat<=b):∀ s ∈ valT t b,s.length=b:=by
 have hc:∀ H lo,∀ s ∈ coverC b H lo,s.length=b:=fun H lo=>coverF_one _ _
 have hol:=one_len (t:=t) (b:=b) (fun h=>(hpl h).1) hn
 have hoc:=one_cub (t:=t) (b:=b) (fun h=>(hpl h).2)
 intro s hs
 unfold valT eitT at hs
 repeat' split at hs
 all_goals first
  | exact hc _ _ s hs
  | (rcases List.mem_append.1 hs with h|h<;>exact hc _ _ s h)
  | (rw[List.mem_singleton.1 hs];exact hol)
  | (rw[((splitT_cn (xs_cn (by omega) h0) ⟨by omega,hoc⟩) s hs).2,xsT_len])
theorem val_len{t:Tst}{b:Nat}(h0:1<=b)(hb:b<=32)(h1:t.lo.toNat<tw b)(h2:t.hi.toNat<tw b):(valT t b).length<=400:=by
 have hc:∀ H lo,H<=tw b->(coverC b H lo).length<=66:=fun H lo h=>by
  have:=coverC_len (bits:=b) (lo:=lo) (H:=H) h
  omega
 unfold valT eitT
 repeat' split
 all_goals first
  | (refine Nat.le_trans (hc _ _ (by omega)) (by omega))
  | (rw[List.length_append]
     have a1:=hc t.lo.toNat 0 (by omega)
     have a2:=hc (tw b) (t.hi.toNat+1) (Nat.le_refl _)
     omega)
  | (simp;done)
  | (refine Nat.le_trans (splitT_len (by rw[xsT_len];omega)) (by omega))
theorem wid_app(l:List Fd)(k:Nat):wid l=wid (l.take k)+wid (l.drop k):=by
 unfold wid
 rw[<- List.sum_append,<- List.map_append,List.take_append_drop]
theorem lay_take{l:List Fd}(h:LayF l)(k:Nat):LayF (l.take k):=fun x hx=>h x (List.mem_of_mem_take hx)
theorem lay_drop{l:List Fd}(h:LayF l)(k:Nat):LayF (l.drop k):=fun x hx=>h x (List.mem_of_mem_drop hx)
open Classical in
noncomputable def errC(l:List Fd)(t:Tst):Int:=if (chkO l).1 ≠ 0 then (chkO l).1 else errF l t
theorem errC_chk{l:List Fd}{t:Tst}(h:(chkO l).1 ≠ 0):errC l t=(chkO l).1:=by unfold errC;rw[if_pos h]
theorem errC_f{l:List Fd}{t:Tst}(h:(chkO l).1=0):errC l t=errF l t:=by unfold errC;rw[if_neg (fun e=>e h)]
def wrapT(l:List Fd)(k:Nat)(x:Str):Str:=xsT (wid (l.take k))++x++xsT (wid (l.drop (k+1)))
def cubL(l:List Fd)(t:Tst):List Str:=match l[(findI t.f l 0).toNat]? with
 | some c=>(valT t c.bits.toNat).map (wrapT l (findI t.f l 0).toNat)
 | none=>[]
set_option maxHeartbeats 16000000 in
theorem cubes_err(l:List Fd)(r:List (List D))(hl:l.length<=1000)(f:Str)(op form lo hi len:Int)(pat:Str)(hs:pat.length<=1000000000000)(he:errC l ⟨f,op,form,lo,hi,len,pat⟩ ≠ 0) :
    FSpec Tryz.prog T 120 [.lst 127 (l.map frow) r,.agg (tcl f op form lo hi len pat)] (fun d rows=>d = .tup [.own 0 0,.i .i64 (errC l ⟨f,op,form,lo,hi,len,pat⟩)]/\rows=[some (9,[])]):=by
 have h1:(l.map frow).length=l.length:=by simp
 have hch:=check_at l r (by omega)
 have hfd:=find_at l r f (by omega)
 refine FSpec.of_ok tok Tryz.func120 rfl Tryz.call120 (by simp) ?_
 by_cases hc0:(chkO l).1=0
 . obtain⟨hlay,_⟩:=chk_lay hc0
   rw[errC_f hc0] at he ⊢
   rcases find_cases f l with hfi|⟨k,c,hfi,hc⟩
   . rw[errF_none hfi]
     rw[hfi] at hfd
     (try (conv=>whnf));repeat' (first|refine Ok.seq ?_|((first|refine Ok.region tok ?_|refine Ok.cond ?_|refine Ok.skip ?_|refine Ok.ret ?_);conv=>whnf)|(refine Or.inl ?_;(conv=>whnf);(repeat (refine aI ?_;conv=>whnf));refine⟨_,hch,rfl,?_⟩;conv=>whnf)|(refine Or.inl ?_;(conv=>whnf);(repeat (refine aI ?_;conv=>whnf));refine⟨_,hfd,rfl,?_⟩;conv=>whnf)|(refine bI ?_ ?_<;>intro<;>(conv=>whnf)<;>(try (exfalso;omega)))|fail)
     all_goals first
      | (exfalso;omega)
      | (refine Or.inr (Or.inr ?_);(conv=>whnf)
         exact⟨rfl,rfl⟩)
   . have hcb:=hlay _ (List.mem_of_getElem? hc)
     have hcI:l[((k:Nat):Int).toNat]? = some c:=hc
     have hft:=fit_at f op form lo hi len pat c.bits.toNat (by omega) (by omega) hs
     rw[show ((c.bits.toNat:Nat):Int)=c.bits by omega] at hft
     rw[errF_some hfi hc] at he ⊢
     rw[hfi] at hfd
     generalize errT ⟨f,op,form,lo,hi,len,pat⟩ c.bits.toNat=e at *
     (try (conv=>whnf));repeat' (first|refine Ok.seq ?_|((first|refine Ok.region tok ?_|refine Ok.cond ?_|refine Ok.skip ?_|refine Ok.ret ?_|refine ix _ (by assumption) ?_);conv=>whnf)|(refine Or.inl ?_;(conv=>whnf);(repeat (refine aI ?_;conv=>whnf));refine⟨_,hch,rfl,?_⟩;conv=>whnf)|(refine Or.inl ?_;(conv=>whnf);(repeat (refine aI ?_;conv=>whnf));refine⟨_,hfd,rfl,?_⟩;conv=>whnf)|(refine Or.inl ?_;(conv=>whnf);(repeat (refine aI ?_;conv=>whnf));refine⟨_,hft,rfl,?_⟩;conv=>whnf)|(refine bI ?_ ?_<;>intro<;>(conv=>whnf)<;>(try (exfalso;omega)))|fail)
     all_goals first
      | (exfalso;omega)
      | (refine Or.inr (Or.inr ?_);(conv=>whnf)
         exact⟨rfl,rfl⟩)
 . rw[errC_chk hc0]
   generalize (chkO l).1=e at *
   (try (conv=>whnf));repeat' (first|refine Ok.seq ?_|((first|refine Ok.region tok ?_|refine Ok.cond ?_|refine Ok.ret ?_);conv=>whnf)|(refine Or.inl ?_;(conv=>whnf);(repeat (refine aI ?_;conv=>whnf));refine⟨_,hch,rfl,?_⟩;conv=>whnf)|(refine bI ?_ ?_<;>intro<;>(conv=>whnf)<;>(try (exfalso;omega)))|fail)
   all_goals first
    | (exfalso;omega)
    | (refine Or.inr (Or.inr ?_);(conv=>whnf)
       exact⟨rfl,rfl⟩)
def gL(A B:Str)(C:List Str)(i:Nat):List Str:=(C.take i).map (fun x=>A++x++B)++C.drop i
theorem gL_len(A B:Str)(C:List Str){i:Nat}(h:i<=C.length):(gL A B C i).length=C.length:=by simp[gL];omega
theorem gL_zero(A B:Str)(C:List Str):gL A B C 0=C:=by simp[gL]
theorem gL_end(A B:Str)(C:List Str):gL A B C C.length=C.map (fun x=>A++x++B):=by simp[gL]
theorem gL_get{A B:Str}{C:List Str}{i:Nat}{x:Str}(h:C[i]? = some x):(gL A B C i)[i]? = some x:=by
 have hi:=(List.getElem?_eq_some_iff.1 h).1
 unfold gL
 rw[List.getElem?_append_right (by simp;omega)]
 simp[Nat.min_eq_left (Nat.le_of_lt hi),h]
theorem gL_set{A B:Str}{C:List Str}{i:Nat}{x:Str}(h:C[i]? = some x):(gL A B C i).set i (A++x++B)=gL A B C (i+1):=by
 obtain⟨hi,rfl⟩:=List.getElem?_eq_some_iff.1 h
 unfold gL
 have h1:((C.take i).map fun x=>A++x++B).length=i:=by simp;omega
 rw[List.set_append_right _ _ (by omega),h1,Nat.sub_self,List.drop_eq_getElem_cons hi,take_snoc h,List.map_append,List.set_cons_zero]
 simp only[List.map_cons,List.map_nil,List.append_assoc,List.cons_append,List.nil_append]
theorem cubL_at{l:List Fd}{t:Tst}{k:Nat}{c:Fd}(hfi:findI t.f l 0=(k:Nat))(hc:l[k]? = some c):cubL l t=(valT t c.bits.toNat).map (fun x=>xsT (wid (l.take k))++x++xsT (wid (l.drop (k+1)))):=by
 unfold cubL
 rw[hfi,Int.toNat_natCast,hc]
 rfl
set_option maxHeartbeats 16000000 in
theorem cubes_ok(l:List Fd)(r:List (List D))(hl:l.length<=1000)(f:Str)(op form lo hi len:Int)(pat:Str)(hs:pat.length<=1000000000000)(he:errC l ⟨f,op,form,lo,hi,len,pat⟩=0) :
    FSpec Tryz.prog T 120 [.lst 127 (l.map frow) r,.agg (tcl f op form lo hi len pat)] (fun d rows=>d = .tup [.own 0 (cubL l ⟨f,op,form,lo,hi,len,pat⟩).length,.i .i64 0]/\rows=[some (9,(cubL l ⟨f,op,form,lo,hi,len,pat⟩).map srow)]):=by
 have h1:(l.map frow).length=l.length:=by simp
 have hch:=check_at l r (by omega)
 have hfd:=find_at l r f (by omega)
 by_cases hc0:(chkO l).1=0
 case neg=>exact absurd he (by rw[errC_chk hc0];exact hc0)
 obtain⟨hlay,hl12⟩:=chk_lay hc0
 rw[errC_f hc0] at he
 rcases find_cases f l with hfi|⟨k,c,hfi,hc⟩
 . rw[errF_none hfi] at he;cases he
 rw[errF_some hfi hc] at he
 rw[cubL_at hfi hc]
 have hcb:=hlay _ (List.mem_of_getElem? hc)
 have hcI:l[((k:Nat):Int).toNat]? = some c:=hc
 have hkl:=(List.getElem?_eq_some_iff.1 hc).1
 obtain⟨b,hb⟩:∃ b:Nat,c.bits=(b:Nat):=⟨c.bits.toNat,by omega⟩
 have hft:=fit_at f op form lo hi len pat c.bits.toNat (by omega) (by omega) hs
 rw[he,show ((c.bits.toNat:Nat):Int)=c.bits by omega] at hft
 rw[show c.bits.toNat=b by omega] at he ⊢
 rw[hfi] at hfd
 obtain⟨hF,hV,hD⟩:=errT_zero he
 have hV2:=hV
 unfold ValOk at hV2
 have hA:=hF.a
 dsimp only at hV2 hA hD
 obtain⟨vl,rfl⟩:∃ v:Nat,lo=v:=⟨lo.toNat,by omega⟩
 obtain⟨vh,rfl⟩:∃ v:Nat,hi=v:=⟨hi.toNat,by omega⟩
 obtain⟨vn,rfl⟩:∃ v:Nat,len=v:=⟨len.toNat,by omega⟩
 have hva:=values_at f op form vl vh vn pat b (by omega) (by omega) (by omega) (by omega) (by omega) (by omega) (fun h=>(hD h).1) (fun h=>(hD h).2)
 have hvo:=val_one (t:=⟨f,op,form,vl,vh,vn,pat⟩) (b:=b) (by omega) (by omega) hD (by simp;omega)
 have hvn:=val_len (t:=⟨f,op,form,vl,vh,vn,pat⟩) (b:=b) (by omega) (by omega) (by simp;omega) (by simp;omega)
 rw[<- hb] at hva
 generalize valT ⟨f,op,form,vl,vh,vn,pat⟩ b=C at *
 have hlt:=lay_take hlay k
 have hld:=lay_drop hlay (k+1)
 have hw1:=wid_le hlt
 have hw2:=wid_le hld
 have ht1:(l.take k).length=k:=by simp;omega
 have ht2:(l.drop (k+1)).length=l.length - (k+1):=by simp
 have hx1:=xrep_at (wid (l.take k)) (by omega)
 have hx2:=xrep_at (wid (l.drop (k+1))) (by omega)
 have hxl1:=xsT_len (wid (l.take k))
 have hxl2:=xsT_len (wid (l.drop (k+1)))
 have hwa:=fun r=>width_at (l.take k) r (by omega) hlt
 have hwb:=fun r=>width_at (l.drop (k+1)) r (by omega) hld
 have hm1:(l.take k).map frow=((l.map frow++r).take k).drop 0:=by rw[List.drop_zero,List.take_append_of_le_length (by omega),List.map_take]
 have hm2:(l.drop (k+1)).map frow=((l.map frow++r).take (l.map frow).length).drop (k+1):=by rw[List.take_append_of_le_length (Nat.le_refl _),List.take_length,List.map_drop]
 generalize xsT (wid (l.take k))=X at *
 generalize xsT (wid (l.drop (k+1)))=Y at *
 have hlC:(C.map srow).length=C.length:=by simp
 refine FSpec.of_ok tok Tryz.func120 rfl Tryz.call120 (by simp) ?_
 (try (conv=>whnf));repeat' (first|((first|refine⟨k+1,(l.map frow).length,rfl,rfl,(by omega),(by omega),(l.drop (k+1)).map frow,_,hm2,rfl,?_⟩|refine⟨(l.take k).map frow,_,hm1,rfl,?_⟩);conv=>whnf)|refine Ok.seq ?_|((first|refine Ok.region tok ?_|refine Ok.cond ?_);conv=>whnf)|refine Ok.block ?_|((first|refine Ok.skip ?_|refine nI ?_|refine ix _ (by assumption) ?_);conv=>whnf)|(refine Or.inl ?_;(conv=>whnf);(repeat (refine aI ?_;conv=>whnf));refine⟨_,hch,rfl,?_⟩;conv=>whnf)|(refine Or.inl ?_;(conv=>whnf);(repeat (refine aI ?_;conv=>whnf));refine⟨_,hfd,rfl,?_⟩;conv=>whnf)|(refine Or.inl ?_;(conv=>whnf);(repeat (refine aI ?_;conv=>whnf));refine⟨_,hft,rfl,?_⟩;conv=>whnf)|(refine Or.inl ?_;(conv=>whnf);(repeat (refine aI ?_;conv=>whnf));refine⟨_,hwa _,rfl,?_⟩;conv=>whnf)|(refine Or.inl ?_;(conv=>whnf);(repeat (refine aI ?_;conv=>whnf));refine⟨_,hwb _,rfl,?_⟩;conv=>whnf)|(refine Or.inl ?_;(conv=>whnf);(repeat (refine aI ?_;conv=>whnf));refine⟨_,hx1,rfl,?_⟩;conv=>whnf)|(refine Or.inl ?_;(conv=>whnf);(repeat (refine aI ?_;conv=>whnf));refine⟨_,hx2,rfl,?_⟩;conv=>whnf)|(refine Or.inr (Or.inl ?_);(conv=>whnf);(repeat (refine aI ?_;conv=>whnf));refine⟨_,hva,?_⟩;rintro _ _ ⟨rfl,rfl⟩;conv=>whnf)|(refine⟨_,_,rfl,rfl,?_⟩;conv=>whnf)|(refine bI ?_ ?_<;>intro<;>(conv=>whnf)<;>(try (exfalso;omega)))|(refine aJ ?_;conv=>whnf)|fail)
 all_goals first
  | (exfalso;omega)
  | skip
 rw[show C.map srow=(gL X Y C 0).map srow by rw[gL_zero]]
 refine Ok.loopU [11,12,13,55] [56] 1 1 (fun (i:Nat)=>[.i .i64 (i:Nat)]) (fun _ b=>b) (fun (i:Nat) (_:Vx.Rows)=>[some (9,(gL X Y C i).map srow)]) (fun (i:Nat)=>i<=C.length) (fun (i:Nat)=>C.length - i) (0) (Nat.zero_le _) ?_;(conv=>whnf);refine⟨by ((conv=>whnf);first|rfl|(simp[envCat,List.take_of_length_le,nrow,frow,bcell,srow,tcells,crow];done)|(simp[envCat,List.take_of_length_le,nrow,frow,bcell,srow,tcells,crow];rw[IntKind.wrap_i64];omega)),?_⟩
 intro i hi
 have hgl:=gL_len X Y C hi
 have hgm:((gL X Y C i).map srow).length=C.length:=by rw[List.length_map,hgl]
 (conv=>whnf)
 by_cases hil:i<C.length
 . obtain⟨x,hx⟩:∃ x,C[i]? = some x:=⟨_,List.getElem?_eq_getElem hil⟩
   have hg:=gL_get (A:=X) (B:=Y) hx
   have hgs:=gL_set (A:=X) (B:=Y) hx
   have hxl:=hvo x (List.mem_of_getElem? hx)
   have hgI:(gL X Y C i)[((i:Nat):Int).toNat]? = some x:=hg
   have hap:(X++x:Str).length=X.length+x.length:=List.length_append
   (try (conv=>whnf));repeat' (first|((first|refine rd rfl hgI ?_|refine st (X++x++Y) hgI (by simp) rfl ?_);conv=>whnf)|refine Ok.seq ?_|((first|refine Ok.region tok ?_|refine Ok.cond ?_);conv=>whnf)|refine Ok.block ?_|((first|refine Ok.skip ?_|refine nI ?_);conv=>whnf)|(refine bI ?_ ?_<;>intro<;>(conv=>whnf)<;>(try (exfalso;omega)))|(refine aJ ?_;conv=>whnf)|fail)
   all_goals first
    | (exfalso;omega)
    | skip
   refine⟨i+1,by omega,by omega,?_⟩
   rw[<- hgs]
   (conv=>whnf)
   rfl
 . have hie:i=C.length:=by omega
   subst hie
   rw[gL_end]
   (try (conv=>whnf));repeat' (first|refine Ok.seq ?_|((first|refine Ok.region tok ?_|refine Ok.cond ?_|refine Ok.exit ?_|refine Ok.ret ?_);conv=>whnf)|(refine bI ?_ ?_<;>intro<;>(conv=>whnf)<;>(try (exfalso;omega)))|fail)
   all_goals first
    | (exfalso;omega)
    | (refine Or.inr (Or.inl ?_);(conv=>whnf)
       exact⟨by simp;rfl,rfl⟩)
end Go.Proofs.YtcglkonooeddfaaGreatDoor
namespace Go.Proofs.YtcglkonooeddfaaGreatDoor
open Go Go.Vx Go.Shelf
open Classical in
noncomputable def tstE(l:List Fd):List Nd->Int
 | []=>0
 | c :: r=>if c.kind=3/\errC l c.t ≠ 0 then errC l c.t else tstE l r
theorem tstE_bad{l:List Fd}{c:Nd}{r:List Nd}(h:c.kind=3)(h2:errC l c.t ≠ 0):tstE l (c :: r)=errC l c.t:=by unfold tstE;rw[if_pos ⟨h,h2⟩]
theorem tstE_ok{l:List Fd}{c:Nd}{r:List Nd}(h:¬ (c.kind=3/\errC l c.t ≠ 0)):tstE l (c :: r)=tstE l r:=by conv=>lhs;unfold tstE;rw[if_neg h]
noncomputable def nestE(l:List Fd)(e:List Nd):Option Tr->Int|none=>52|some x=>if 32<x.nest then 53 else tstE l e
open Classical in
/-- What Check tells. -/
noncomputable def chkE(l:List Fd)(e:List Nd):Int:=if (chkO l).1 ≠ 0 then (chkO l).1 else if 64<e.length then 51 else nestE l e (bldO e)
theorem chkE_f{l:List Fd}{e:List Nd}(h:(chkO l).1 ≠ 0):chkE l e=(chkO l).1:=by unfold chkE;rw[if_pos h]
theorem chkE_l{l:List Fd}{e:List Nd}(h:(chkO l).1=0)(h2:64<e.length):chkE l e=51:=by unfold chkE;rw[if_neg (fun x=>x h),if_pos h2]
theorem chkE_b{l:List Fd}{e:List Nd}(h:(chkO l).1=0)(h2:¬ 64<e.length)(h3:bldO e=none):chkE l e=52:=by unfold chkE;rw[if_neg (fun x=>x h),if_neg h2,h3];rfl
theorem chkE_d{l:List Fd}{e:List Nd}{x:Tr}(h:(chkO l).1=0)(h2:¬ 64<e.length)(h3:bldO e=some x)(h4:32<x.nest):chkE l e=53:=by unfold chkE;rw[if_neg (fun x=>x h),if_neg h2,h3];exact if_pos h4
theorem chkE_t{l:List Fd}{e:List Nd}{x:Tr}(h:(chkO l).1=0)(h2:¬ 64<e.length)(h3:bldO e=some x)(h4:¬ 32<x.nest):chkE l e=tstE l e:=by unfold chkE;rw[if_neg (fun x=>x h),if_neg h2,h3];exact if_neg h4
open Classical in
noncomputable def chkD(l:List Fd)(e:List Nd):D:=if chkE l e=0 then (match bldO e with|some x=>.tup [x.d,.i .i64 0]|none=>.u) else .tup [.nilI,.i .i64 (chkE l e)]
theorem chkD_err{l:List Fd}{e:List Nd}{k:Int}(h:chkE l e=k)(h2:k ≠ 0):chkD l e = .tup [.nilI,.i .i64 k]:=by unfold chkD;rw[h,if_neg h2]
theorem chkD_ok{l:List Fd}{e:List Nd}{x:Tr}(h:chkE l e=0)(h2:bldO e=some x):chkD l e = .tup [x.d,.i .i64 0]:=by unfold chkD;rw[if_pos h,h2]
set_option maxHeartbeats 16000000 in
theorem echk_at(l:List Fd)(r:List (List D))(e:List Nd)(r2:List (List D))(hl:l.length<=2000000)(he:e.length<=2000000)(htx:TxtOk e) :
    FSpec Tryz.prog T 65 [.lst 127 (l.map frow) r,.lst 219 (e.map nrow) r2] (fun d rows=>d=chkD l e/\rows=[]):=by
 have h1:(l.map frow).length=l.length:=by simp
 have h2:(e.map nrow).length=e.length:=by simp
 have hch:=check_at l r hl
 refine FSpec.of_ok tok Tryz.func65 rfl Tryz.call65 (by simp) ?_
 by_cases c1:(chkO l).1=0
 case neg=>
  rw[chkD_err (chkE_f c1) c1]
  generalize (chkO l).1=k at *
  (try (conv=>whnf));repeat' (first|refine Ok.seq ?_|((first|refine Ok.region tok ?_|refine Ok.cond ?_|refine Ok.ret ?_);conv=>whnf)|(refine Or.inl ?_;(conv=>whnf);(repeat (refine aI ?_;conv=>whnf));refine⟨_,hch,rfl,?_⟩;conv=>whnf)|(refine bI ?_ ?_<;>intro<;>(conv=>whnf)<;>(try (exfalso;omega)))|fail)
  all_goals first
   | (exfalso;omega)
   | (refine Or.inl ?_;(conv=>whnf)
      exact⟨rfl,rfl⟩)
 by_cases c2:64<e.length
 . rw[chkD_err (chkE_l c1 c2) (by decide)]
   (try (conv=>whnf));repeat' (first|refine Ok.seq ?_|((first|refine Ok.region tok ?_|refine Ok.cond ?_|refine Ok.skip ?_|refine Ok.ret ?_);conv=>whnf)|(refine Or.inl ?_;(conv=>whnf);(repeat (refine aI ?_;conv=>whnf));refine⟨_,hch,rfl,?_⟩;conv=>whnf)|(refine bI ?_ ?_<;>intro<;>(conv=>whnf)<;>(try (exfalso;omega)))|fail)
   all_goals first
    | (exfalso;omega)
    | (refine Or.inl ?_;(conv=>whnf)
       exact⟨rfl,rfl⟩)
 have hbl:=build_at e r2 he
 cases hb:bldO e with
 | none=>
  rw[chkD_err (chkE_b c1 c2 hb) (by decide)]
  rw[hb] at hbl
  (try (conv=>whnf));repeat' (first|refine Ok.seq ?_|((first|refine Ok.region tok ?_|refine Ok.cond ?_|refine Ok.skip ?_|refine Ok.ret ?_);conv=>whnf)|(refine Or.inl ?_;(conv=>whnf);(repeat (refine aI ?_;conv=>whnf));refine⟨_,hch,rfl,?_⟩;conv=>whnf)|(refine Or.inr (Or.inl ?_);(conv=>whnf);(repeat (refine aI ?_;conv=>whnf));refine⟨_,hbl,?_⟩;rintro _ _ ⟨rfl,rfl⟩;conv=>whnf)|(refine bI ?_ ?_<;>intro<;>(conv=>whnf)<;>(try (exfalso;omega)))|fail)
  all_goals first
   | (exfalso;omega)
   | (rename_i h;exact absurd (fun h2=>h2) h)
   | (refine Or.inl ?_;(conv=>whnf)
      exact⟨rfl,rfl⟩)
 | some x=>
  rw[hb] at hbl
  have hsz:=bldO_sz hb
  obtain⟨fx,mx,sx⟩:=nest_at x (by omega)
  have hnx:=nest_le x
  by_cases c4:32<x.nest
  . rw[chkD_err (chkE_d c1 c2 hb c4) (by decide)]
    (try (conv=>whnf));repeat' (first|(refine⟨fun h=>absurd trivial h,fun _=>?_⟩;conv=>whnf)|refine Ok.seq ?_|((first|refine Ok.region tok ?_|refine Ok.cond ?_|refine Ok.skip ?_|refine Ok.ret ?_);conv=>whnf)|(refine Or.inl ?_;(conv=>whnf);(repeat (refine aI ?_;conv=>whnf));refine⟨_,hch,rfl,?_⟩;conv=>whnf)|(refine Or.inr (Or.inl ?_);(conv=>whnf);(repeat (refine aI ?_;conv=>whnf));refine⟨_,hbl,?_⟩;rintro _ _ ⟨rfl,rfl⟩;conv=>whnf)|(refine Or.inl ?_;(conv=>whnf);(repeat (refine aI ?_;conv=>whnf));refine⟨_,mx,_,sx,rfl,?_⟩;conv=>whnf)|(refine bI ?_ ?_<;>intro<;>(conv=>whnf)<;>(try (exfalso;omega)))|fail)
    all_goals first
     | (exfalso;omega)
     | (refine Or.inl ?_;(conv=>whnf)
        exact⟨rfl,rfl⟩)
  . have hce:=chkE_t c1 c2 hb c4
    (try (conv=>whnf));repeat' (first|(refine⟨fun h=>absurd trivial h,fun _=>?_⟩;conv=>whnf)|refine Ok.seq ?_|((first|refine Ok.region tok ?_|refine Ok.cond ?_);conv=>whnf)|refine Ok.block ?_|(refine Ok.skip ?_;conv=>whnf)|(refine Or.inl ?_;(conv=>whnf);(repeat (refine aI ?_;conv=>whnf));refine⟨_,hch,rfl,?_⟩;conv=>whnf)|(refine Or.inr (Or.inl ?_);(conv=>whnf);(repeat (refine aI ?_;conv=>whnf));refine⟨_,hbl,?_⟩;rintro _ _ ⟨rfl,rfl⟩;conv=>whnf)|(refine Or.inl ?_;(conv=>whnf);(repeat (refine aI ?_;conv=>whnf));refine⟨_,mx,_,sx,rfl,?_⟩;conv=>whnf)|(refine bI ?_ ?_<;>intro<;>(conv=>whnf)<;>(try (exfalso;omega)))|fail)
    all_goals first
     | (exfalso;omega)
     | skip
    refine Ok.loopU [0,8,35,36] [37] 0 0 (fun (i:Nat)=>[.i .i64 (i:Nat)]) (fun _ b=>b) (fun _ r=>r) (fun (i:Nat)=>i<=e.length/\tstE l e=tstE l (e.drop i)) (fun (i:Nat)=>e.length - i) (0) (⟨Nat.zero_le _,rfl⟩) ?_;(conv=>whnf);refine⟨by ((conv=>whnf);first|rfl|(simp[envCat, List.take_of_length_le, nrow, frow, bcell, srow, tcells, crow, qrow];done)|(simp[envCat, List.take_of_length_le, nrow, frow, bcell, srow, tcells, crow, qrow];rw[IntKind.wrap_i64];omega)),?_⟩
    rintro i ⟨hi,ht⟩
    (conv=>whnf)
    by_cases hil:i<e.length
    . obtain⟨c,hc⟩:∃ c,e[i]? = some c:=⟨_,List.getElem?_eq_getElem hil⟩
      have hcI:e[((i:Nat):Int).toNat]? = some c:=hc
      have htc:=htx c (List.mem_of_getElem? hc)
      rw[fdrop_at hc] at ht
      by_cases hk:c.kind=3
      . by_cases hE:errC l c.t=0
        . have hcu:=cubes_ok l r (by have:=(chk_lay (l:=l) (by assumption)).2;omega) c.t.f c.t.op c.t.form c.t.lo c.t.hi c.t.len c.t.pat htc.2 hE
          generalize cubL l ⟨c.t.f,c.t.op,c.t.form,c.t.lo,c.t.hi,c.t.len,c.t.pat⟩=Q at *
          rw[tstE_ok (fun h=>h.2 hE)] at ht
          (try (conv=>whnf));repeat' (first|refine Ok.seq ?_|((first|refine Ok.region tok ?_|refine Ok.cond ?_);conv=>whnf)|refine Ok.block ?_|((first|refine Ok.skip ?_|refine nI ?_|refine ix _ (by assumption) ?_);conv=>whnf)|(refine Or.inr (Or.inl ?_);(conv=>whnf);(repeat (refine aI ?_;conv=>whnf));refine⟨_,hcu,?_⟩;rintro _ _ ⟨rfl,rfl⟩;conv=>whnf)|(refine bI ?_ ?_<;>intro<;>(conv=>whnf)<;>(try (exfalso;omega)))|fail)
          all_goals first
           | (exfalso;omega)
           | (refine⟨i+1,by omega,⟨by omega,ht⟩,?_⟩
              (conv=>whnf)
              rfl)
        . have hcu:=cubes_err l r (by have:=(chk_lay (l:=l) (by assumption)).2;omega) c.t.f c.t.op c.t.form c.t.lo c.t.hi c.t.len c.t.pat htc.2 hE
          rw[tstE_bad hk hE] at ht
          rw[chkD_err (hce.trans ht) hE]
          have hE2:errC l ⟨c.t.f,c.t.op,c.t.form,c.t.lo,c.t.hi,c.t.len,c.t.pat⟩=errC l c.t:=rfl
          rw[hE2] at hcu
          generalize errC l c.t=k at *
          (try (conv=>whnf));repeat' (first|refine Ok.seq ?_|((first|refine Ok.region tok ?_|refine Ok.cond ?_);conv=>whnf)|refine Ok.block ?_|((first|refine Ok.skip ?_|refine Ok.ret ?_|refine ix _ (by assumption) ?_);conv=>whnf)|(refine Or.inr (Or.inl ?_);(conv=>whnf);(repeat (refine aI ?_;conv=>whnf));refine⟨_,hcu,?_⟩;rintro _ _ ⟨rfl,rfl⟩;conv=>whnf)|(refine bI ?_ ?_<;>intro<;>(conv=>whnf)<;>(try (exfalso;omega)))|fail)
          all_goals first
           | (exfalso;omega)
           | (refine Or.inl ?_;(conv=>whnf)
              exact⟨rfl,rfl⟩)
      . rw[tstE_ok (fun h=>hk h.1)] at ht
        (try (conv=>whnf));repeat' (first|refine Ok.seq ?_|((first|refine Ok.region tok ?_|refine Ok.cond ?_);conv=>whnf)|refine Ok.block ?_|((first|refine Ok.skip ?_|refine Ok.exit ?_|refine nI ?_|refine ix _ (by assumption) ?_);conv=>whnf)|(refine bI ?_ ?_<;>intro<;>(conv=>whnf)<;>(try (exfalso;omega)))|fail)
        all_goals first
         | (exfalso;omega)
         | (refine⟨i+1,by omega,⟨by omega,ht⟩,?_⟩
            (conv=>whnf)
            rfl)
    . have hie:i=e.length:=by omega
      subst hie
      rw[List.drop_length] at ht
      rw[chkD_ok (hce.trans ht) hb]
      (try (conv=>whnf));repeat' (first|refine Ok.seq ?_|((first|refine Ok.region tok ?_|refine Ok.cond ?_|refine Ok.exit ?_|refine Ok.ret ?_);conv=>whnf)|(refine bI ?_ ?_<;>intro<;>(conv=>whnf)<;>(try (exfalso;omega)))|fail)
      all_goals first
       | (exfalso;omega)
       | (refine Or.inl ?_;(conv=>whnf)
          exact⟨rfl,rfl⟩)
end Go.Proofs.YtcglkonooeddfaaGreatDoor
namespace Go.Proofs.YtcglkonooeddfaaGreatDoor
open Go Go.Vx Go.Shelf
theorem chkD_two(l:List Fd)(e:List Nd):∃ y:D,chkD l e = .tup [y,.i .i64 (chkE l e)]/\(y = .nilI\/∃ x:Tr,y=x.d):=by
 by_cases h:chkE l e=0
 . cases hb:bldO e with
   | none=>
    exfalso
    unfold chkE at h
    split at h
    . rename_i h1;exact h1 h
    split at h
    . cases h
    . rw[hb] at h;cases h
   | some x=>exact⟨x.d,by rw[chkD_ok h hb,h],.inr ⟨x,rfl⟩⟩
 . exact⟨.nilI,chkD_err rfl h,.inl rfl⟩
theorem pcheck_at(l:List Fd)(r:List (List D))(e:List Nd)(r2:List (List D))(hl:l.length<=2000000)(he:e.length<=2000000)(htx:TxtOk e) :
    FSpec Tryz.prog T 142 [.lst 127 (l.map frow) r,.lst 219 (e.map nrow) r2] (fun d _=>d = .i .i64 (chkE l e)):=by
 have hk:=echk_at l r e r2 hl he htx
 obtain⟨y,hy,hx⟩:=chkD_two l e
 rw[hy] at hk
 refine FSpec.of_ok tok Tryz.func142 rfl Tryz.call142 (by simp) ?_
 rcases hx with rfl|⟨x,rfl⟩
 . (try (conv=>whnf));repeat' (first|refine Ok.seq ?_|((first|refine Ok.region tok ?_|refine Ok.ret ?_);conv=>whnf)|(refine Or.inr (Or.inl ?_);(conv=>whnf);(repeat (refine aI ?_;conv=>whnf));refine⟨_,hk,?_⟩;rintro _ _ ⟨rfl,rfl⟩;conv=>whnf)|fail)
   refine Or.inl ?_;(conv=>whnf)
   rfl
 . (try (conv=>whnf));repeat' (first|refine Ok.seq ?_|((first|refine Ok.region tok ?_|refine Ok.ret ?_);conv=>whnf)|(refine Or.inr (Or.inl ?_);(conv=>whnf);(repeat (refine aI ?_;conv=>whnf));refine⟨_,hk,?_⟩;rintro _ _ ⟨rfl,rfl⟩;conv=>whnf)|fail)
   refine Or.inl ?_;(conv=>whnf)
   rfl
end Go.Proofs.YtcglkonooeddfaaGreatDoor
namespace Go.Proofs.YtcglkonooeddfaaGreatDoor
open Go Go.Vx
structure SI where
 s:Str
 n:Int
def SI.row(x:SI):List D:=[.s x.s,.i .i64 x.n]
structure Node where
 kind:Int
 field:Str
 op:Int
 form:Int
 lo:Int
 hi:Int
 len:Int
 pat:Str
def Node.row(x:Node):List D:=[.i .i64 x.kind,.s x.field,.i .i64 x.op,.i .i64 x.form,.i .i64 x.lo,.i .i64 x.hi,.i .i64 x.len,.s x.pat]
structure Pfx where
 value:Int
 len:Int
 dst:Str
def Pfx.row(x:Pfx):List D:=[.i .i64 x.value,.i .i64 x.len,.s x.dst]
structure Link where
 frm:Str
 dst:Str
 cost:Int
def Link.row(x:Link):List D:=[.s x.frm,.s x.dst,.i .i64 x.cost]
end Go.Proofs.YtcglkonooeddfaaGreatDoor
namespace Go.Proofs.YtcglkonooeddfaaGreatDoor
open Go Go.Vx
set_option maxRecDepth 100000 in
theorem cnodes_at(l:List Node){rl sl:List (List D)}(hl:l.length<=1048576)(h:rl=l.map Node.row):FSpec Tryz.prog T 84 [.lst 219 rl sl] (fun d rows=>rows=[some (219,l.map Node.row)]/\d = .own 0 l.length):=by
 subst h
 have hll:(l.map Node.row).length=l.length:=by simp
 refine FSpec.of_ok tok Tryz.func84 rfl Tryz.call84 (by simp) ?_
 (try (conv=>whnf));repeat' (first|refine Ok.seq ?_|(refine Ok.region tok ?_;conv=>whnf)|refine Ok.block ?_|fail)
 refine Ok.ghost 3 219 rfl ?_
 (conv=>whnf)
 refine Ok.loopU [0] [3,4] 1 0 (fun (k:Nat)=>[.own 0 k,.i .i64 (k:Nat)]) (fun _ b=>b) (fun (k:Nat) (_:Vx.Rows)=>[some (219,(l.take k).map Node.row)]) (fun (k:Nat)=>k<=l.length) (fun (k:Nat)=>l.length - k) (0) (Nat.zero_le _) ?_;(conv=>whnf);refine⟨by ((conv=>whnf);first|rfl|(simp[envCat,List.take_of_length_le,SI.row,Node.row,Pfx.row,Link.row,srow];done)|(simp[envCat,List.take_of_length_le,SI.row,Node.row,Pfx.row,Link.row,srow];rw[IntKind.wrap_i64];omega)),?_⟩
 rintro k hk
 have htl:((l.take k).map Node.row).length=k:=by simp;omega
 by_cases hkl:k<l.length
 . obtain⟨x,hx⟩:∃ x,l[k]? = some x:=⟨_,List.getElem?_eq_getElem hkl⟩
   have htk:l.take (k+1)=l.take k++[x]:=by rw[List.take_add_one,hx];rfl
   (try (conv=>whnf));repeat' (first|refine Ok.seq ?_|((first|refine Ok.region tok ?_|refine Ok.cond ?_);conv=>whnf)|refine Ok.block ?_|((first|refine Ok.skip ?_|refine nI ?_|refine ix _ (by assumption) ?_|refine Alt2.l (aI ?_)|refine⟨_,.inl ⟨rfl,rfl⟩,?_⟩|refine⟨_,_,rfl,rfl,?_⟩);conv=>whnf)|(refine bI ?_ ?_<;>intro<;>(conv=>whnf)<;>(try (exfalso;omega)))|(refine aJ ?_;conv=>whnf)|fail)
   refine⟨k+1,by omega,by omega,?_⟩
   rw[htk]
   (conv=>whnf);simp[envCat,Node.row];omega
 . obtain rfl:k=l.length:=by omega
   rw[List.take_length]
   (conv=>whnf)
   (try (conv=>whnf));repeat' (first|refine Ok.seq ?_|((first|refine Ok.region tok ?_|refine Ok.cond ?_|refine Ok.exit ?_|refine Ok.ret ?_);conv=>whnf)|(refine bI ?_ ?_<;>intro<;>(conv=>whnf)<;>(try (exfalso;omega)))|fail)
   refine Or.inr (Or.inl ?_);(conv=>whnf)
   exact⟨rfl,rfl⟩
set_option maxRecDepth 100000 in
theorem prefixes_at(l:List Pfx){rl sl:List (List D)}(hl:l.length<=1048576)(h:rl=l.map Pfx.row):FSpec Tryz.prog T 143 [.lst 246 rl sl] (fun d rows=>rows=[some (246,l.map Pfx.row)]/\d = .own 0 l.length):=by
 subst h
 have hll:(l.map Pfx.row).length=l.length:=by simp
 refine FSpec.of_ok tok Tryz.func143 rfl Tryz.call143 (by simp) ?_
 (try (conv=>whnf));repeat' (first|refine Ok.seq ?_|(refine Ok.region tok ?_;conv=>whnf)|refine Ok.block ?_|fail)
 refine Ok.ghost 3 246 rfl ?_
 (conv=>whnf)
 refine Ok.loopU [0] [3,4] 1 0 (fun (k:Nat)=>[.own 0 k,.i .i64 (k:Nat)]) (fun _ b=>b) (fun (k:Nat) (_:Vx.Rows)=>[some (246,(l.take k).map Pfx.row)]) (fun (k:Nat)=>k<=l.length) (fun (k:Nat)=>l.length - k) (0) (Nat.zero_le _) ?_;(conv=>whnf);refine⟨by ((conv=>whnf);first|rfl|(simp[envCat,List.take_of_length_le,SI.row,Node.row,Pfx.row,Link.row,srow];done)|(simp[envCat,List.take_of_length_le,SI.row,Node.row,Pfx.row,Link.row,srow];rw[IntKind.wrap_i64];omega)),?_⟩
 rintro k hk
 have htl:((l.take k).map Pfx.row).length=k:=by simp;omega
 by_cases hkl:k<l.length
 . obtain⟨x,hx⟩:∃ x,l[k]? = some x:=⟨_,List.getElem?_eq_getElem hkl⟩
   have htk:l.take (k+1)=l.take k++[x]:=by rw[List.take_add_one,hx];rfl
   (try (conv=>whnf));repeat' (first|refine Ok.seq ?_|((first|refine Ok.region tok ?_|refine Ok.cond ?_);conv=>whnf)|refine Ok.block ?_|((first|refine Ok.skip ?_|refine nI ?_|refine ix _ (by assumption) ?_|refine Alt2.l (aI ?_)|refine⟨_,.inl ⟨rfl,rfl⟩,?_⟩|refine⟨_,_,rfl,rfl,?_⟩);conv=>whnf)|(refine bI ?_ ?_<;>intro<;>(conv=>whnf)<;>(try (exfalso;omega)))|(refine aJ ?_;conv=>whnf)|fail)
   refine⟨k+1,by omega,by omega,?_⟩
   rw[htk]
   (conv=>whnf);simp[envCat,Pfx.row];omega
 . obtain rfl:k=l.length:=by omega
   rw[List.take_length]
   (conv=>whnf)
   (try (conv=>whnf));repeat' (first|refine Ok.seq ?_|((first|refine Ok.region tok ?_|refine Ok.cond ?_|refine Ok.exit ?_|refine Ok.ret ?_);conv=>whnf)|(refine bI ?_ ?_<;>intro<;>(conv=>whnf)<;>(try (exfalso;omega)))|fail)
   refine Or.inr (Or.inl ?_);(conv=>whnf)
   exact⟨rfl,rfl⟩
set_option maxRecDepth 100000 in
theorem cjoined_at(l:List Str){rl sl:List (List D)}(hl:l.length<=1048576)(h:rl=l.map srow):FSpec Tryz.prog T 144 [.lst 9 rl sl,.lst 9 [] []] (fun d rows=>rows=[some (9,l.map srow)]/\d = .own 0 l.length):=by
 subst h
 have hll:(l.map srow).length=l.length:=by simp
 refine FSpec.of_ok tok Tryz.func144 rfl Tryz.call144 (by simp) ?_
 (try (conv=>whnf));repeat' (first|refine Ok.seq ?_|(refine Ok.region tok ?_;conv=>whnf)|refine Ok.block ?_|fail)
 refine Ok.ghost 5 9 rfl ?_
 (conv=>whnf)
 refine Ok.loopU [0,1] [5,6] 1 0 (fun (k:Nat)=>[.own 0 k,.i .i64 (k:Nat)]) (fun _ b=>b) (fun (k:Nat) (_:Vx.Rows)=>[some (9,(l.take k).map srow)]) (fun (k:Nat)=>k<=l.length) (fun (k:Nat)=>l.length - k) (0) (Nat.zero_le _) ?_;(conv=>whnf);refine⟨by ((conv=>whnf);first|rfl|(simp[envCat,List.take_of_length_le,SI.row,Node.row,Pfx.row,Link.row,srow];done)|(simp[envCat,List.take_of_length_le,SI.row,Node.row,Pfx.row,Link.row,srow];rw[IntKind.wrap_i64];omega)),?_⟩
 rintro k hk
 have htl:((l.take k).map srow).length=k:=by simp;omega
 by_cases hkl:k<l.length
 . obtain⟨x,hx⟩:∃ x,l[k]? = some x:=⟨_,List.getElem?_eq_getElem hkl⟩
   have htk:l.take (k+1)=l.take k++[x]:=by rw[List.take_add_one,hx];rfl
   (try (conv=>whnf));repeat' (first|refine Ok.seq ?_|((first|refine Ok.region tok ?_|refine Ok.cond ?_);conv=>whnf)|refine Ok.block ?_|((first|refine Ok.skip ?_|refine nI ?_|refine ix _ (by assumption) ?_|refine Alt2.l (aI ?_)|refine⟨_,.inl ⟨rfl,rfl⟩,?_⟩|refine⟨_,_,rfl,rfl,?_⟩);conv=>whnf)|(refine bI ?_ ?_<;>intro<;>(conv=>whnf)<;>(try (exfalso;omega)))|(refine aJ ?_;conv=>whnf)|fail)
   refine⟨k+1,by omega,by omega,?_⟩
   rw[htk]
   (conv=>whnf);simp[envCat,srow];omega
 . obtain rfl:k=l.length:=by omega
   rw[List.take_length]
   (conv=>whnf)
   (try (conv=>whnf));repeat' (first|refine Ok.seq ?_|((first|refine Ok.region tok ?_|refine Ok.cond ?_);conv=>whnf)|refine Ok.block ?_|(refine Ok.exit ?_;conv=>whnf)|(refine bI ?_ ?_<;>intro<;>(conv=>whnf)<;>(try (exfalso;omega)))|fail)
   refine Ok.loopU [1] [5,7] 1 0 (fun (k:Nat)=>[.own 0 l.length,.i .i64 (0:Int)]) (fun _ b=>b) (fun (k:Nat) (_:Vx.Rows)=>[some (9,l.map srow)]) (fun (k:Nat)=>True) (fun (k:Nat)=>0) (0) (trivial) ?_;(conv=>whnf);refine⟨by ((conv=>whnf);first|rfl|(simp[envCat,List.take_of_length_le,SI.row,Node.row,Pfx.row,Link.row,srow];done)|(simp[envCat,List.take_of_length_le,SI.row,Node.row,Pfx.row,Link.row,srow];rw[IntKind.wrap_i64];omega)),?_⟩
   rintro k _
   have hn:([]:List (List D)).length=0:=rfl
   (try (conv=>whnf));repeat' (first|refine Ok.seq ?_|((first|refine Ok.region tok ?_|refine Ok.cond ?_|refine Ok.exit ?_|refine Ok.ret ?_);conv=>whnf)|(refine bI ?_ ?_<;>intro<;>(conv=>whnf)<;>(try (exfalso;omega)))|fail)
   refine Or.inr (Or.inl ?_);(conv=>whnf)
   exact⟨rfl,rfl⟩
set_option maxRecDepth 100000 in
theorem names_at(l:List Str){rl sl:List (List D)}(hl:l.length<=1048576)(h:rl=l.map srow):FSpec Tryz.prog T 83 [.lst 9 rl sl] (fun d rows=>rows=[some (9,l.map srow)]/\d = .own 0 l.length):=by
 subst h
 refine FSpec.of_ok tok Tryz.func83 rfl Tryz.call83 (by simp) ?_
 (try (conv=>whnf));repeat' (first|refine Ok.seq ?_|((first|refine Ok.region tok ?_|refine Ok.ret ?_);conv=>whnf)|(refine Or.inr (Or.inr (Or.inr (Or.inl ?_)));(conv=>whnf);(repeat (refine aI ?_;conv=>whnf));refine⟨_,cjoined_at l hl rfl,?_⟩;rintro _ _ ⟨rfl,rfl⟩<;>(refine And.intro (by simp[gRowsP,grounds,D.ground,SI.row,Node.row,Pfx.row,Link.row,srow]) ?_;conv=>whnf))|fail)
 refine Or.inr (Or.inl ?_);(conv=>whnf)
 exact⟨rfl,rfl⟩
end Go.Proofs.YtcglkonooeddfaaGreatDoor
namespace Go.Proofs.YtcglkonooeddfaaGreatDoor
open Go Go.Vx
structure Ls(α:Type) where
 l:List α
 room:List (List D)
structure Line where
 port:Str
 permit:Prop
 mtch:Ls Node
def Line.row(x:Line):List D:=[.s x.port,.b x.permit,.lst 219 (x.mtch.l.map Node.row) x.mtch.room]
structure Rule where
 prio:Int
 frm:Ls Str
 mtch:Ls Node
 sets:Ls SI
 dst:Ls Str
def Rule.row(x:Rule):List D:=[.i .i64 x.prio,.lst 9 (x.frm.l.map srow) x.frm.room,.lst 219 (x.mtch.l.map Node.row) x.mtch.room,.lst 243 (x.sets.l.map SI.row) x.sets.room,.lst 9 (x.dst.l.map srow) x.dst.room]
structure Box where
 name:Str
 ins:Ls Str
 outs:Ls Str
 guards:Ls Line
 rules:Ls Rule
 owns:Ls Pfx
 routes:Ls Pfx
def Box.row(x:Box):List D:=[.s x.name,.lst 9 (x.ins.l.map srow) x.ins.room,.lst 9 (x.outs.l.map srow) x.outs.room,.lst 112 (x.guards.l.map Line.row) x.guards.room,.lst 115 (x.rules.l.map Rule.row) x.rules.room,.lst 246 (x.owns.l.map Pfx.row) x.owns.room,.lst 246 (x.routes.l.map Pfx.row) x.routes.room]
structure Slc where
 name:Str
 ports:Ls Str
 whr:Ls Node
def Slc.row(x:Slc):List D:=[.s x.name,.lst 9 (x.ports.l.map srow) x.ports.room,.lst 219 (x.whr.l.map Node.row) x.whr.room]
structure Config where
 title:Str
 fields:Ls SI
 routing:Str
 slim:Prop
 boxes:Ls Box
 links:Ls Link
 slices:Ls Slc
def Config.row(x:Config):List D:=[.s x.title,.lst 127 (x.fields.l.map SI.row) x.fields.room,.s x.routing,.b x.slim,.lst 87 (x.boxes.l.map Box.row) x.boxes.room,.lst 91 (x.links.l.map Link.row) x.links.room,.lst 54 (x.slices.l.map Slc.row) x.slices.room]
structure LineB where
 port:Str
 permit:Prop
 mtch:List Node
def Line.b(x:Line):LineB:=⟨x.port,x.permit,x.mtch.l⟩
structure RuleB where
 prio:Int
 frm:List Str
 mtch:List Node
 sets:List SI
 dst:List Str
def Rule.b(x:Rule):RuleB:=⟨x.prio,x.frm.l,x.mtch.l,x.sets.l,x.dst.l⟩
structure BoxB where
 name:Str
 ins:List Str
 outs:List Str
 guards:List LineB
 rules:List RuleB
 owns:List Pfx
 routes:List Pfx
def Box.b(x:Box):BoxB:=⟨x.name,x.ins.l,x.outs.l,x.guards.l.map Line.b,x.rules.l.map Rule.b,x.owns.l,x.routes.l⟩
structure SlcB where
 name:Str
 ports:List Str
 whr:List Node
def Slc.b(x:Slc):SlcB:=⟨x.name,x.ports.l,x.whr.l⟩
structure ConfigB where
 title:Str
 fields:List SI
 routing:Str
 slim:Prop
 boxes:List BoxB
 links:List Link
 slices:List SlcB
def Config.b(x:Config):ConfigB:=⟨x.title,x.fields.l,x.routing,x.slim,x.boxes.l.map Box.b,x.links.l,x.slices.l.map Slc.b⟩
end Go.Proofs.YtcglkonooeddfaaGreatDoor
namespace Go.Proofs.YtcglkonooeddfaaGreatDoor
open Go Go.Vx
def lineC(x:Line):Line:=⟨x.port,x.permit,⟨x.mtch.l,[]⟩⟩
def ruleC(x:Rule):Rule:=⟨x.prio,⟨x.frm.l,[]⟩,⟨x.mtch.l,[]⟩,⟨x.sets.l,[]⟩,⟨x.dst.l,[]⟩⟩
structure Line.Ok(x:Line):Prop where
 mtch:x.mtch.l.length<=1048576
structure Rule.Ok(x:Rule):Prop where
 frm:x.frm.l.length<=1048576
 mtch:x.mtch.l.length<=1048576
 sets:x.sets.l.length<=1048576
 dst:x.dst.l.length<=1048576
structure Box.Ok(x:Box):Prop where
 ins:x.ins.l.length<=1048576
 outs:x.outs.l.length<=1048576
 guards:x.guards.l.length<=1048576
 rules:x.rules.l.length<=1048576
 owns:x.owns.l.length<=1048576
 routes:x.routes.l.length<=1048576
 line:∀ g ∈ x.guards.l,g.Ok
 rule:∀ r ∈ x.rules.l,r.Ok
set_option maxRecDepth 100000 in
set_option maxHeartbeats 4000000 in
theorem boxCopy_at(x:Box)(hx:x.Ok):FSpec Tryz.prog T 82 [.agg x.row] (fun d rows=>rows=[some (9,x.ins.l.map srow),some (9,x.outs.l.map srow),some (112,x.guards.l.map fun g=>(lineC g).row),some (115,x.rules.l.map fun r=>(ruleC r).row),some (246,x.owns.l.map Pfx.row),some (246,x.routes.l.map Pfx.row)] /\
    d = .agg [.s x.name,.own 0 x.ins.l.length,.own 1 x.outs.l.length,.own 2 x.guards.l.length,.own 3 x.rules.l.length,.own 4 x.owns.l.length,.own 5 x.routes.l.length]):=by
 have hg:(x.guards.l.map Line.row).length=x.guards.l.length:=by simp
 have hr:(x.rules.l.map Rule.row).length=x.rules.l.length:=by simp
 have hG:=hx.guards
 have hR:=hx.rules
 refine FSpec.of_ok tok Tryz.func82 rfl Tryz.call82 (by simp) ?_
 refine Ok.seq ?_
 refine Ok.region tok ?_
 (conv=>whnf)
 refine Ok.seqK [1,2,3] 4 3 (fun _:Unit=>⟨[(1,.bp 0 0),(2,.bp 1 0),(3,.bp 2 0)],[x.row,[.s [],.nilS,.nilS,.nilS,.nilS,.nilS,.nilS],[.s x.name,.own 0 x.ins.l.length,.own 1 x.outs.l.length,.nilS,.nilS,.own 2 x.owns.l.length,.own 3 x.routes.l.length]],
  [some (9,x.ins.l.map srow),some (9,x.outs.l.map srow),some (246,x.owns.l.map Pfx.row),some (246,x.routes.l.map Pfx.row)],95⟩) (fun _=>True) ?_ ?_
 . (try (conv=>whnf));repeat' (first|(refine Ok.region_tree (id:=1) tok follows [(3,4,[]),(3,7,[4]),(4,7,[]),(6,7,[]),(3,10,[7,4]),(4,10,[7]),(6,10,[7]),(7,10,[]),(9,10,[]),(3,13,[10,7,4]),(4,13,[10,7]),(6,13,[10,7]),(7,13,[10]),(9,13,[10]),(10,13,[]),(12,13,[]),(1,16,[]),(3,16,[]),(4,16,[]),(6,16,[]),(7,16,[]),(9,16,[]),(10,16,[]),(12,16,[]),(13,16,[]),(15,16,[])] (.q 0 (.q 1 (.q 2 (.q 3 (.q 5 (.q 6 (.q 8 (.q 9 (.q 11 (.q 12 (.alt 4 (.alt 7 (.alt 10 (.alt 13 (.q 14 (.l 15 (.l 16 .nil))) (.alt 15 (.l 13 (.q 14 (.l 16 .nil))) .nil)) (.alt 15 (.l 10 (.l 13 (.q 14 (.l 16 .nil)))) .nil)) (.alt 15 (.l 7 (.l 10 (.l 13 (.q 14 (.l 16 .nil))))) .nil)) (.alt 15 (.l 4 (.l 7 (.l 10 (.l 13 (.q 14 (.l 16 .nil)))))) .nil)))))))))))) (by kernel_rfl) ?_;conv=>whnf)|(refine Or.inr (Or.inr (Or.inl ?_));(conv=>whnf);(repeat (refine aI ?_;conv=>whnf));refine⟨_,names_at x.ins.l hx.ins rfl,?_⟩;rintro _ _ ⟨rfl,rfl⟩<;>(refine And.intro (by simp[gRowsP, grounds, D.ground, SI.row, Node.row, Pfx.row, Link.row, srow, Line.row, Rule.row, Box.row, Slc.row, Config.row]) ?_;conv=>whnf))|(refine Or.inr (Or.inr (Or.inl ?_));(conv=>whnf);(repeat (refine aI ?_;conv=>whnf));refine⟨_,names_at x.outs.l hx.outs rfl,?_⟩;rintro _ _ ⟨rfl,rfl⟩<;>(refine And.intro (by simp[gRowsP, grounds, D.ground, SI.row, Node.row, Pfx.row, Link.row, srow, Line.row, Rule.row, Box.row, Slc.row, Config.row]) ?_;conv=>whnf))|(refine Or.inr (Or.inr (Or.inl ?_));(conv=>whnf);(repeat (refine aI ?_;conv=>whnf));refine⟨_,prefixes_at x.owns.l hx.owns rfl,?_⟩;rintro _ _ ⟨rfl,rfl⟩<;>(refine And.intro (by simp[gRowsP, grounds, D.ground, SI.row, Node.row, Pfx.row, Link.row, srow, Line.row, Rule.row, Box.row, Slc.row, Config.row]) ?_;conv=>whnf))|(refine Or.inr (Or.inr (Or.inl ?_));(conv=>whnf);(repeat (refine aI ?_;conv=>whnf));refine⟨_,prefixes_at x.routes.l hx.routes rfl,?_⟩;rintro _ _ ⟨rfl,rfl⟩<;>(refine And.intro (by simp[gRowsP, grounds, D.ground, SI.row, Node.row, Pfx.row, Link.row, srow, Line.row, Rule.row, Box.row, Slc.row, Config.row]) ?_;conv=>whnf))|(exact True.intro)|(refine And.intro ?_ ?_<;>(conv=>whnf))|fail)
   all_goals
    refine⟨(),trivial,?_⟩
    (conv=>whnf)
    rfl
 rintro _ _
 refine Ok.ghostB 2 3 112 rfl rfl ?_
 (conv=>whnf)
 refine Ok.ghostB 2 4 115 rfl rfl ?_
 (conv=>whnf)
 (try (conv=>whnf));repeat' (first|refine Ok.seq ?_|(refine Ok.region tok ?_;conv=>whnf)|refine Ok.block ?_|fail)
 refine Ok.loopU [1,2,3] [4] 6 3 (fun (k:Nat)=>[.i .i64 (k:Nat)]) (fun (k:Nat) (_:List (List D))=>[x.row,[.s [],.nilS,.nilS,.nilS,.nilS,.nilS,.nilS],[.s x.name,.own 0 x.ins.l.length,.own 1 x.outs.l.length,.own 4 k,.own 5 0,.own 2 x.owns.l.length,.own 3 x.routes.l.length]]) (fun (k:Nat) (_:Vx.Rows)=>[some (9,x.ins.l.map srow),some (9,x.outs.l.map srow),some (246,x.owns.l.map Pfx.row),some (246,x.routes.l.map Pfx.row),some (112,(x.guards.l.take k).map fun g=>(lineC g).row),some (115,[])]) (fun (k:Nat)=>k<=x.guards.l.length) (fun (k:Nat)=>x.guards.l.length - k) (0) (Nat.zero_le _) ?_;(conv=>whnf);refine⟨by ((conv=>whnf);first|rfl|(simp[envCat, List.take_of_length_le, SI.row, Node.row, Pfx.row, Link.row, srow, Line.row, Rule.row, Box.row, Slc.row, Config.row];done)|(simp[envCat, List.take_of_length_le, SI.row, Node.row, Pfx.row, Link.row, srow, Line.row, Rule.row, Box.row, Slc.row, Config.row];rw[IntKind.wrap_i64];omega)),?_⟩
 rintro k hk
 have htl:((x.guards.l.take k).map fun g=>(lineC g).row).length=k:=by simp;omega
 by_cases hkl:k<x.guards.l.length
 . obtain⟨g,hgk⟩:∃ g,x.guards.l[k]? = some g:=⟨_,List.getElem?_eq_getElem hkl⟩
   have htk:x.guards.l.take (k+1)=x.guards.l.take k++[g]:=by rw[List.take_add_one,hgk];rfl
   have hgo:=hx.line g (List.mem_of_getElem? hgk)
   (try (conv=>whnf));repeat' (first|refine Ok.seq ?_|((first|refine Ok.region tok ?_|refine Ok.cond ?_);conv=>whnf)|refine Ok.block ?_|((first|refine Ok.skip ?_|refine nI ?_|refine ix _ (by assumption) ?_);conv=>whnf)|(refine Or.inr (Or.inr (Or.inr (Or.inl ?_)));(conv=>whnf);(repeat (refine aI ?_;conv=>whnf));refine⟨_,cnodes_at g.mtch.l hgo.mtch rfl,?_⟩;rintro _ _ ⟨rfl,rfl⟩<;>(refine And.intro (by simp[gRowsP, grounds, D.ground, SI.row, Node.row, Pfx.row, Link.row, srow, Line.row, Rule.row, Box.row, Slc.row, Config.row]) ?_;conv=>whnf))|((first|refine Alt2.l (aI ?_)|refine⟨_,.inl ⟨rfl,rfl⟩,?_⟩|refine⟨_,_,rfl,rfl,?_⟩);conv=>whnf)|(refine bI ?_ ?_<;>intro<;>(conv=>whnf)<;>(try (exfalso;omega)))|(refine aJ ?_;conv=>whnf)|fail)
   refine⟨k+1,by omega,by omega,?_⟩
   rw[htk]
   (conv=>whnf);simp[envCat,lineC,Line.row,Box.row,take_all,drop_all];omega
 obtain rfl:k=x.guards.l.length:=by omega
 rw[List.take_length]
 (conv=>whnf)
 (try (conv=>whnf));repeat' (first|refine Ok.seq ?_|((first|refine Ok.region tok ?_|refine Ok.cond ?_);conv=>whnf)|refine Ok.block ?_|(refine Ok.exit ?_;conv=>whnf)|(refine bI ?_ ?_<;>intro<;>(conv=>whnf)<;>(try (exfalso;omega)))|fail)
 refine Ok.loopU [1,2,3] [6] 6 3 (fun (k:Nat)=>[.i .i64 (k:Nat)]) (fun (k:Nat) (_:List (List D))=>[x.row,[.s [],.nilS,.nilS,.nilS,.nilS,.nilS,.nilS],[.s x.name,.own 0 x.ins.l.length,.own 1 x.outs.l.length,.own 4 x.guards.l.length,.own 5 k,.own 2 x.owns.l.length,.own 3 x.routes.l.length]]) (fun (k:Nat) (_:Vx.Rows)=>[some (9,x.ins.l.map srow),some (9,x.outs.l.map srow),some (246,x.owns.l.map Pfx.row),some (246,x.routes.l.map Pfx.row),some (112,x.guards.l.map fun g=>(lineC g).row),some (115,(x.rules.l.take k).map fun g=>(ruleC g).row)]) (fun (k:Nat)=>k<=x.rules.l.length) (fun (k:Nat)=>x.rules.l.length - k) (0) (Nat.zero_le _) ?_;(conv=>whnf);refine⟨by ((conv=>whnf);first|rfl|(simp[envCat, List.take_of_length_le, SI.row, Node.row, Pfx.row, Link.row, srow, Line.row, Rule.row, Box.row, Slc.row, Config.row];done)|(simp[envCat, List.take_of_length_le, SI.row, Node.row, Pfx.row, Link.row, srow, Line.row, Rule.row, Box.row, Slc.row, Config.row];rw[IntKind.wrap_i64];omega)),?_⟩
 rintro k hk
 have htl2:((x.rules.l.take k).map fun g=>(ruleC g).row).length=k:=by simp;omega
 by_cases hkl:k<x.rules.l.length
 . obtain⟨r,hrk⟩:∃ g,x.rules.l[k]? = some g:=⟨_,List.getElem?_eq_getElem hkl⟩
   have htk:x.rules.l.take (k+1)=x.rules.l.take k++[r]:=by rw[List.take_add_one,hrk];rfl
   have hro:=hx.rule r (List.mem_of_getElem? hrk)
   have hs1:(r.sets.l.map SI.row).length=r.sets.l.length:=by simp
   have hs2:=hro.sets
   (try (conv=>whnf));repeat' (first|refine Ok.seq ?_|((first|refine Ok.region tok ?_|refine Ok.cond ?_);conv=>whnf)|refine Ok.block ?_|((first|refine Ok.skip ?_|refine ix _ (by assumption) ?_);conv=>whnf)|(refine Or.inr (Or.inr (Or.inr (Or.inl ?_)));(conv=>whnf);(repeat (refine aI ?_;conv=>whnf));refine⟨_,names_at r.frm.l hro.frm rfl,?_⟩;rintro _ _ ⟨rfl,rfl⟩<;>(refine And.intro (by simp[gRowsP, grounds, D.ground, SI.row, Node.row, Pfx.row, Link.row, srow, Line.row, Rule.row, Box.row, Slc.row, Config.row]) ?_;conv=>whnf))|(refine Or.inr (Or.inr (Or.inr (Or.inl ?_)));(conv=>whnf);(repeat (refine aI ?_;conv=>whnf));refine⟨_,cnodes_at r.mtch.l hro.mtch rfl,?_⟩;rintro _ _ ⟨rfl,rfl⟩<;>(refine And.intro (by simp[gRowsP, grounds, D.ground, SI.row, Node.row, Pfx.row, Link.row, srow, Line.row, Rule.row, Box.row, Slc.row, Config.row]) ?_;conv=>whnf))|(refine Or.inr (Or.inr (Or.inr (Or.inl ?_)));(conv=>whnf);(repeat (refine aI ?_;conv=>whnf));refine⟨_,names_at r.dst.l hro.dst rfl,?_⟩;rintro _ _ ⟨rfl,rfl⟩<;>(refine And.intro (by simp[gRowsP, grounds, D.ground, SI.row, Node.row, Pfx.row, Link.row, srow, Line.row, Rule.row, Box.row, Slc.row, Config.row]) ?_;conv=>whnf))|(refine bI ?_ ?_<;>intro<;>(conv=>whnf)<;>(try (exfalso;omega)))|fail)
   refine Ok.ghost 8 243 rfl ?_
   (conv=>whnf)
   refine Ok.loopU [1,2,3,6,7] [8,9] 10 4 (fun (j:Nat)=>[.own 9 j,.i .i64 (j:Nat)]) (fun (j:Nat) (_:List (List D))=>[x.row,[.s [],.nilS,.nilS,.nilS,.nilS,.nilS,.nilS],[.s x.name,.own 0 x.ins.l.length,.own 1 x.outs.l.length,.own 4 x.guards.l.length,.own 5 k,.own 2 x.owns.l.length,.own 3 x.routes.l.length],[.i .i64 r.prio,.own 6 r.frm.l.length,.own 7 r.mtch.l.length,.lst 243 (r.sets.l.map SI.row) r.sets.room,.own 8 r.dst.l.length]]) (fun (j:Nat) (_:Vx.Rows)=>[some (9,x.ins.l.map srow),some (9,x.outs.l.map srow),some (246,x.owns.l.map Pfx.row),some (246,x.routes.l.map Pfx.row),some (112,x.guards.l.map fun g=>(lineC g).row),some (115,(x.rules.l.take k).map fun g=>(ruleC g).row),some (9,r.frm.l.map srow),some (219,r.mtch.l.map Node.row),some (9,r.dst.l.map srow),some (243,(r.sets.l.take j).map SI.row)]) (fun (j:Nat)=>j<=r.sets.l.length) (fun (j:Nat)=>r.sets.l.length - j) (0) (Nat.zero_le _) ?_;(conv=>whnf);refine⟨by ((conv=>whnf);first|rfl|(simp[envCat, List.take_of_length_le, SI.row, Node.row, Pfx.row, Link.row, srow, Line.row, Rule.row, Box.row, Slc.row, Config.row];done)|(simp[envCat, List.take_of_length_le, SI.row, Node.row, Pfx.row, Link.row, srow, Line.row, Rule.row, Box.row, Slc.row, Config.row];rw[IntKind.wrap_i64];omega)),?_⟩
   rintro j hj
   have htl3:((r.sets.l.take j).map SI.row).length=j:=by simp;omega
   by_cases hjl:j<r.sets.l.length
   . obtain⟨y,hy⟩:∃ g,r.sets.l[j]? = some g:=⟨_,List.getElem?_eq_getElem hjl⟩
     have htj:r.sets.l.take (j+1)=r.sets.l.take j++[y]:=by rw[List.take_add_one,hy];rfl
     (try (conv=>whnf));repeat' (first|refine Ok.seq ?_|((first|refine Ok.region tok ?_|refine Ok.cond ?_);conv=>whnf)|refine Ok.block ?_|((first|refine Ok.skip ?_|refine nI ?_|refine ix _ (by assumption) ?_|refine Alt2.l (aI ?_)|refine⟨_,.inl ⟨rfl,rfl⟩,?_⟩|refine⟨_,_,rfl,rfl,?_⟩);conv=>whnf)|(refine bI ?_ ?_<;>intro<;>(conv=>whnf)<;>(try (exfalso;omega)))|(refine aJ ?_;conv=>whnf)|fail)
     refine⟨j+1,by omega,by omega,?_⟩
     rw[htj]
     (conv=>whnf);simp[envCat,SI.row,Box.row];omega
   . obtain rfl:j=r.sets.l.length:=by omega
     rw[List.take_length]
     (conv=>whnf)
     (try (conv=>whnf));repeat' (first|refine Ok.seq ?_|((first|refine Ok.region tok ?_|refine Ok.cond ?_|refine Ok.exit ?_|refine nI ?_|refine Alt2.l (aI ?_)|refine⟨_,.inl ⟨rfl,rfl⟩,?_⟩|refine⟨_,_,rfl,rfl,?_⟩);conv=>whnf)|(refine bI ?_ ?_<;>intro<;>(conv=>whnf)<;>(try (exfalso;omega)))|(refine aJ ?_;conv=>whnf)|fail)
     refine⟨k+1,by omega,by omega,?_⟩
     rw[htk]
     (conv=>whnf);simp[envCat,ruleC,Rule.row,Box.row,take_all,drop_all];omega
 obtain rfl:k=x.rules.l.length:=by omega
 rw[List.take_length]
 (conv=>whnf)
 (try (conv=>whnf));repeat' (first|refine Ok.seq ?_|((first|refine Ok.region tok ?_|refine Ok.cond ?_|refine Ok.exit ?_|refine Ok.ret ?_);conv=>whnf)|(refine bI ?_ ?_<;>intro<;>(conv=>whnf)<;>(try (exfalso;omega)))|fail)
 refine Or.inr (Or.inl ?_);(conv=>whnf)
 exact⟨rfl,rfl⟩
end Go.Proofs.YtcglkonooeddfaaGreatDoor
namespace Go.Proofs.YtcglkonooeddfaaGreatDoor
open Go Go.Vx
def boxC(x:Box):Box:=⟨x.name,⟨x.ins.l,[]⟩,⟨x.outs.l,[]⟩,⟨x.guards.l.map lineC,[]⟩,⟨x.rules.l.map ruleC,[]⟩,⟨x.owns.l,[]⟩,⟨x.routes.l,[]⟩⟩
def slcC(x:Slc):Slc:=⟨x.name,⟨x.ports.l,[]⟩,⟨x.whr.l,[]⟩⟩
def configC(c:Config):Config:=⟨c.title,⟨c.fields.l,[]⟩,c.routing,c.slim,⟨c.boxes.l.map boxC,[]⟩,⟨c.links.l,[]⟩,⟨c.slices.l.map slcC,[]⟩⟩
structure Slc.Ok(x:Slc):Prop where
 ports:x.ports.l.length<=1048576
 whr:x.whr.l.length<=1048576
structure Config.Ok(c:Config):Prop where
 fields:c.fields.l.length<=1048576
 boxes:c.boxes.l.length<=1048576
 links:c.links.l.length<=1048576
 slices:c.slices.l.length<=1048576
 box:∀ b ∈ c.boxes.l,b.Ok
 slc:∀ s ∈ c.slices.l,s.Ok
set_option maxRecDepth 100000 in
set_option maxHeartbeats 4000000 in
theorem Copy_at(c:Config)(hc:c.Ok):FSpec Tryz.prog T 42 [.agg c.row] (fun d rows=>rows=[some (127,c.fields.l.map SI.row),some (87,c.boxes.l.map fun x=>(boxC x).row),some (91,c.links.l.map Link.row),some (54,c.slices.l.map fun x=>(slcC x).row)] /\
    d = .agg [.s c.title,.own 0 c.fields.l.length,.s c.routing,.b c.slim,.own 1 c.boxes.l.length,.own 2 c.links.l.length,.own 3 c.slices.l.length]):=by
 have hf:(c.fields.l.map SI.row).length=c.fields.l.length:=by simp
 have hb:(c.boxes.l.map Box.row).length=c.boxes.l.length:=by simp
 have hl:(c.links.l.map Link.row).length=c.links.l.length:=by simp
 have hs:(c.slices.l.map Slc.row).length=c.slices.l.length:=by simp
 have hF:=hc.fields
 have hB:=hc.boxes
 have hL:=hc.links
 have hS:=hc.slices
 refine FSpec.of_ok tok Tryz.func42 rfl Tryz.call42 (by simp) ?_
 (try (conv=>whnf));repeat' (first|refine Ok.seq ?_|(refine Ok.region tok ?_;conv=>whnf)|refine Ok.block ?_|fail)
 refine Ok.ghostB 2 1 127 rfl rfl ?_
 (conv=>whnf)
 refine Ok.ghostB 2 4 87 rfl rfl ?_
 (conv=>whnf)
 refine Ok.ghostB 2 5 91 rfl rfl ?_
 (conv=>whnf)
 refine Ok.ghostB 2 6 54 rfl rfl ?_
 (conv=>whnf)
 (try (conv=>whnf));repeat' (first|fail)
 refine Ok.loopU [1,2,3] [4] 4 3 (fun (k:Nat)=>[.i .i64 (k:Nat)]) (fun (k:Nat) (_:List (List D))=>[c.row,[.s [],.nilS,.s [],.ff,.nilS,.nilS,.nilS],[.s c.title,.own 0 k,.s c.routing,.b c.slim,.own 1 0,.own 2 0,.own 3 0]]) (fun (k:Nat) (_:Vx.Rows)=>[some (127,(c.fields.l.take k).map SI.row),some (87,[]),some (91,[]),some (54,[])]) (fun (k:Nat)=>k<=c.fields.l.length) (fun (k:Nat)=>c.fields.l.length - k) (0) (Nat.zero_le _) ?_;(conv=>whnf);refine⟨by ((conv=>whnf);first|rfl|(simp[envCat, List.take_of_length_le, SI.row, Node.row, Pfx.row, Link.row, srow, Line.row, Rule.row, Box.row, Slc.row, Config.row];done)|(simp[envCat, List.take_of_length_le, SI.row, Node.row, Pfx.row, Link.row, srow, Line.row, Rule.row, Box.row, Slc.row, Config.row];rw[IntKind.wrap_i64];omega)),?_⟩
 rintro k hk
 have htl:((c.fields.l.take k).map SI.row).length=k:=by simp;omega
 by_cases hkl:k<c.fields.l.length
 . obtain⟨y,hy⟩:∃ y,c.fields.l[k]? = some y:=⟨_,List.getElem?_eq_getElem hkl⟩
   have htk:c.fields.l.take (k+1)=c.fields.l.take k++[y]:=by rw[List.take_add_one,hy];rfl
   (try (conv=>whnf));repeat' (first|refine Ok.seq ?_|((first|refine Ok.region tok ?_|refine Ok.region_plan (id:=5) tok follows [(3,7,[6,5]),(6,7,[]),(1,8,[]),(3,8,[7,6,5]),(6,8,[7]),(7,8,[]),(1,10,[]),(3,10,[]),(6,10,[]),(7,10,[]),(8,10,[])] [.q 0,.q 1,.q 2,.q 3,.q 4,.q 5,.q 6,.l 7,.l 8,.q 9,.l 10] (by kernel_rfl) ?_|refine Ok.cond ?_);conv=>whnf)|refine Ok.block ?_|((first|refine Ok.skip ?_|refine nI ?_|refine ix _ (by assumption) ?_|refine Alt2.l (aI ?_)|refine⟨_,.inl ⟨rfl,rfl⟩,?_⟩|refine⟨_,_,rfl,rfl,?_⟩);conv=>whnf)|(refine bI ?_ ?_<;>intro<;>(conv=>whnf)<;>(try (exfalso;omega)))|(refine aJ ?_;conv=>whnf)|fail)
   refine⟨k+1,by omega,by omega,?_⟩
   rw[htk]
   (conv=>whnf);simp[envCat,Config.row,take_all,drop_all,SI.row];omega
 obtain rfl:k=c.fields.l.length:=by omega
 clear htl
 rw[List.take_length]
 (conv=>whnf)
 (try (conv=>whnf));repeat' (first|refine Ok.seq ?_|((first|refine Ok.region tok ?_|refine Ok.cond ?_);conv=>whnf)|refine Ok.block ?_|(refine Ok.exit ?_;conv=>whnf)|(refine bI ?_ ?_<;>intro<;>(conv=>whnf)<;>(try (exfalso;omega)))|fail)
 refine Ok.loopU [1,2,3] [5] 4 3 (fun (k:Nat)=>[.i .i64 (k:Nat)]) (fun (k:Nat) (_:List (List D))=>[c.row,[.s [],.nilS,.s [],.ff,.nilS,.nilS,.nilS],[.s c.title,.own 0 c.fields.l.length,.s c.routing,.b c.slim,.own 1 k,.own 2 0,.own 3 0]]) (fun (k:Nat) (_:Vx.Rows)=>[some (127,c.fields.l.map SI.row),some (87,(c.boxes.l.take k).map fun x=>(boxC x).row),some (91,[]),some (54,[])]) (fun (k:Nat)=>k<=c.boxes.l.length) (fun (k:Nat)=>c.boxes.l.length - k) (0) (Nat.zero_le _) ?_;(conv=>whnf);refine⟨by ((conv=>whnf);first|rfl|(simp[envCat, List.take_of_length_le, SI.row, Node.row, Pfx.row, Link.row, srow, Line.row, Rule.row, Box.row, Slc.row, Config.row];done)|(simp[envCat, List.take_of_length_le, SI.row, Node.row, Pfx.row, Link.row, srow, Line.row, Rule.row, Box.row, Slc.row, Config.row];rw[IntKind.wrap_i64];omega)),?_⟩
 rintro k hk
 have htl:((c.boxes.l.take k).map fun x=>(boxC x).row).length=k:=by simp;omega
 by_cases hkl:k<c.boxes.l.length
 . obtain⟨y,hy⟩:∃ y,c.boxes.l[k]? = some y:=⟨_,List.getElem?_eq_getElem hkl⟩
   have htk:c.boxes.l.take (k+1)=c.boxes.l.take k++[y]:=by rw[List.take_add_one,hy];rfl
   have hbo:=hc.box y (List.mem_of_getElem? hy)
   (try (conv=>whnf));repeat' (first|refine Ok.seq ?_|((first|refine Ok.region tok ?_|refine Ok.cond ?_);conv=>whnf)|refine Ok.block ?_|((first|refine Ok.skip ?_|refine ix _ (by assumption) ?_);conv=>whnf)|(refine bI ?_ ?_<;>intro<;>(conv=>whnf)<;>(try (exfalso;omega)))|fail)
   right
   left
   (conv=>whnf)
   refine⟨_,boxCopy_at y hbo,?_⟩
   rintro d rows ⟨rfl,rfl⟩
   (try (conv=>whnf));repeat' (first|((first|refine Ok.region tok ?_|refine nI ?_|refine Alt2.l (aI ?_)|refine⟨_,.inl ⟨rfl,rfl⟩,?_⟩|refine⟨_,_,rfl,rfl,?_⟩|refine aJ ?_);conv=>whnf)|fail)
   refine⟨k+1,by omega,by omega,?_⟩
   rw[htk]
   (conv=>whnf);simp[envCat,Config.row,take_all,drop_all,boxC,Box.row,List.map_map,Function.comp_def];omega
 obtain rfl:k=c.boxes.l.length:=by omega
 clear htl
 rw[List.take_length]
 (conv=>whnf)
 (try (conv=>whnf));repeat' (first|refine Ok.seq ?_|((first|refine Ok.region tok ?_|refine Ok.cond ?_);conv=>whnf)|refine Ok.block ?_|(refine Ok.exit ?_;conv=>whnf)|(refine bI ?_ ?_<;>intro<;>(conv=>whnf)<;>(try (exfalso;omega)))|fail)
 refine Ok.loopU [1,2,3] [7] 4 3 (fun (k:Nat)=>[.i .i64 (k:Nat)]) (fun (k:Nat) (_:List (List D))=>[c.row,[.s [],.nilS,.s [],.ff,.nilS,.nilS,.nilS],[.s c.title,.own 0 c.fields.l.length,.s c.routing,.b c.slim,.own 1 c.boxes.l.length,.own 2 k,.own 3 0]]) (fun (k:Nat) (_:Vx.Rows)=>[some (127,c.fields.l.map SI.row),some (87,c.boxes.l.map fun x=>(boxC x).row),some (91,(c.links.l.take k).map Link.row),some (54,[])]) (fun (k:Nat)=>k<=c.links.l.length) (fun (k:Nat)=>c.links.l.length - k) (0) (Nat.zero_le _) ?_;(conv=>whnf);refine⟨by ((conv=>whnf);first|rfl|(simp[envCat, List.take_of_length_le, SI.row, Node.row, Pfx.row, Link.row, srow, Line.row, Rule.row, Box.row, Slc.row, Config.row];done)|(simp[envCat, List.take_of_length_le, SI.row, Node.row, Pfx.row, Link.row, srow, Line.row, Rule.row, Box.row, Slc.row, Config.row];rw[IntKind.wrap_i64];omega)),?_⟩
 rintro k hk
 have htl:((c.links.l.take k).map Link.row).length=k:=by simp;omega
 by_cases hkl:k<c.links.l.length
 . obtain⟨y,hy⟩:∃ y,c.links.l[k]? = some y:=⟨_,List.getElem?_eq_getElem hkl⟩
   have htk:c.links.l.take (k+1)=c.links.l.take k++[y]:=by rw[List.take_add_one,hy];rfl
   (try (conv=>whnf));repeat' (first|refine Ok.seq ?_|((first|refine Ok.region tok ?_|refine Ok.region_plan (id:=14) tok follows [(3,7,[6,5]),(6,7,[]),(1,8,[]),(3,8,[7,6,5]),(6,8,[7]),(7,8,[]),(1,10,[]),(3,10,[]),(6,10,[]),(7,10,[]),(8,10,[])] [.q 0,.q 1,.q 2,.q 3,.q 4,.q 5,.q 6,.l 7,.l 8,.q 9,.l 10] (by kernel_rfl) ?_|refine Ok.cond ?_);conv=>whnf)|refine Ok.block ?_|((first|refine Ok.skip ?_|refine nI ?_|refine ix _ (by assumption) ?_|refine Alt2.l (aI ?_)|refine⟨_,.inl ⟨rfl,rfl⟩,?_⟩|refine⟨_,_,rfl,rfl,?_⟩);conv=>whnf)|(refine bI ?_ ?_<;>intro<;>(conv=>whnf)<;>(try (exfalso;omega)))|(refine aJ ?_;conv=>whnf)|fail)
   refine⟨k+1,by omega,by omega,?_⟩
   rw[htk]
   (conv=>whnf);simp[envCat,Config.row,take_all,drop_all,Link.row];omega
 obtain rfl:k=c.links.l.length:=by omega
 clear htl
 rw[List.take_length]
 (conv=>whnf)
 (try (conv=>whnf));repeat' (first|refine Ok.seq ?_|((first|refine Ok.region tok ?_|refine Ok.cond ?_);conv=>whnf)|refine Ok.block ?_|(refine Ok.exit ?_;conv=>whnf)|(refine bI ?_ ?_<;>intro<;>(conv=>whnf)<;>(try (exfalso;omega)))|fail)
 refine Ok.loopU [1,2,3] [8] 4 3 (fun (k:Nat)=>[.i .i64 (k:Nat)]) (fun (k:Nat) (_:List (List D))=>[c.row,[.s [],.nilS,.s [],.ff,.nilS,.nilS,.nilS],[.s c.title,.own 0 c.fields.l.length,.s c.routing,.b c.slim,.own 1 c.boxes.l.length,.own 2 c.links.l.length,.own 3 k]]) (fun (k:Nat) (_:Vx.Rows)=>[some (127,c.fields.l.map SI.row),some (87,c.boxes.l.map fun x=>(boxC x).row),some (91,c.links.l.map Link.row),some (54,(c.slices.l.take k).map fun x=>(slcC x).row)]) (fun (k:Nat)=>k<=c.slices.l.length) (fun (k:Nat)=>c.slices.l.length - k) (0) (Nat.zero_le _) ?_;(conv=>whnf);refine⟨by ((conv=>whnf);first|rfl|(simp[envCat, List.take_of_length_le, SI.row, Node.row, Pfx.row, Link.row, srow, Line.row, Rule.row, Box.row, Slc.row, Config.row];done)|(simp[envCat, List.take_of_length_le, SI.row, Node.row, Pfx.row, Link.row, srow, Line.row, Rule.row, Box.row, Slc.row, Config.row];rw[IntKind.wrap_i64];omega)),?_⟩
 rintro k hk
 have htl:((c.slices.l.take k).map fun x=>(slcC x).row).length=k:=by simp;omega
 by_cases hkl:k<c.slices.l.length
 . obtain⟨y,hy⟩:∃ y,c.slices.l[k]? = some y:=⟨_,List.getElem?_eq_getElem hkl⟩
   have htk:c.slices.l.take (k+1)=c.slices.l.take k++[y]:=by rw[List.take_add_one,hy];rfl
   have hso:=hc.slc y (List.mem_of_getElem? hy)
   (try (conv=>whnf));repeat' (first|refine Ok.seq ?_|((first|refine Ok.region tok ?_|refine Ok.cond ?_);conv=>whnf)|refine Ok.block ?_|((first|refine Ok.skip ?_|refine nI ?_|refine ix _ (by assumption) ?_);conv=>whnf)|(refine Or.inr (Or.inr (Or.inr (Or.inl ?_)));(conv=>whnf);(repeat (refine aI ?_;conv=>whnf));refine⟨_,names_at y.ports.l hso.ports rfl,?_⟩;rintro _ _ ⟨rfl,rfl⟩<;>(refine And.intro (by simp[gRowsP, grounds, D.ground, SI.row, Node.row, Pfx.row, Link.row, srow, Line.row, Rule.row, Box.row, Slc.row, Config.row]) ?_;conv=>whnf))|(refine Or.inr (Or.inr (Or.inr (Or.inl ?_)));(conv=>whnf);(repeat (refine aI ?_;conv=>whnf));refine⟨_,cnodes_at y.whr.l hso.whr rfl,?_⟩;rintro _ _ ⟨rfl,rfl⟩<;>(refine And.intro (by simp[gRowsP, grounds, D.ground, SI.row, Node.row, Pfx.row, Link.row, srow, Line.row, Rule.row, Box.row, Slc.row, Config.row]) ?_;conv=>whnf))|((first|refine Alt2.l (aI ?_)|refine⟨_,.inl ⟨rfl,rfl⟩,?_⟩|refine⟨_,_,rfl,rfl,?_⟩);conv=>whnf)|(refine bI ?_ ?_<;>intro<;>(conv=>whnf)<;>(try (exfalso;omega)))|(refine aJ ?_;conv=>whnf)|fail)
   refine⟨k+1,by omega,by omega,?_⟩
   rw[htk]
   (conv=>whnf);simp[envCat,Config.row,take_all,drop_all,slcC,Slc.row];omega
 obtain rfl:k=c.slices.l.length:=by omega
 clear htl
 rw[List.take_length]
 (conv=>whnf)
 (try (conv=>whnf));repeat' (first|refine Ok.seq ?_|((first|refine Ok.region tok ?_|refine Ok.cond ?_|refine Ok.exit ?_|refine Ok.ret ?_);conv=>whnf)|(refine bI ?_ ?_<;>intro<;>(conv=>whnf)<;>(try (exfalso;omega)))|fail)
 refine Or.inr (Or.inl ?_);(conv=>whnf)
 exact⟨rfl,rfl⟩
end Go.Proofs.YtcglkonooeddfaaGreatDoor
namespace Go.Proofs.YtcglkonooeddfaaGreatDoor
open Go Go.Vx
theorem lineC_b(x:Line):(lineC x).b=x.b:=rfl
theorem ruleC_b(x:Rule):(ruleC x).b=x.b:=rfl
theorem slcC_b(x:Slc):(slcC x).b=x.b:=rfl
theorem boxC_b(x:Box):(boxC x).b=x.b:=by simp[boxC,Box.b,Function.comp_def,lineC_b,ruleC_b]
end Go.Proofs.YtcglkonooeddfaaGreatDoor
namespace Go.Proofs.YtcglkonooeddfaaGreatDoor
open Go Go.Vx
def SOk(s:Str):Prop:=s.length<=1048576
def IOk(n:Int):Prop:=-9223372036854775808<=n/\n<=9223372036854775807
structure SI.Tx(a:SI):Prop where
 s:SOk a.s
 n:IOk a.n
structure Node.Tx(a:Node):Prop where
 kind:IOk a.kind
 field:SOk a.field
 op:IOk a.op
 form:IOk a.form
 lo:IOk a.lo
 hi:IOk a.hi
 len:IOk a.len
 pat:SOk a.pat
structure Pfx.Tx(a:Pfx):Prop where
 value:IOk a.value
 len:IOk a.len
 dst:SOk a.dst
structure Link.Tx(a:Link):Prop where
 frm:SOk a.frm
 dst:SOk a.dst
 cost:IOk a.cost
structure Line.Tx(a:Line):Prop where
 port:SOk a.port
 mtch:∀ x ∈ a.mtch.l,x.Tx
structure Rule.Tx(a:Rule):Prop where
 prio:IOk a.prio
 frm:∀ x ∈ a.frm.l,SOk x
 mtch:∀ x ∈ a.mtch.l,x.Tx
 sets:∀ x ∈ a.sets.l,x.Tx
 dst:∀ x ∈ a.dst.l,SOk x
structure Box.Tx(a:Box):Prop where
 name:SOk a.name
 ins:∀ x ∈ a.ins.l,SOk x
 outs:∀ x ∈ a.outs.l,SOk x
 guards:∀ x ∈ a.guards.l,x.Tx
 rules:∀ x ∈ a.rules.l,x.Tx
 owns:∀ x ∈ a.owns.l,x.Tx
 routes:∀ x ∈ a.routes.l,x.Tx
structure Slc.Tx(a:Slc):Prop where
 name:SOk a.name
 ports:∀ x ∈ a.ports.l,SOk x
 whr:∀ x ∈ a.whr.l,x.Tx
structure Config.Tx(a:Config):Prop where
 title:SOk a.title
 fields:∀ x ∈ a.fields.l,x.Tx
 routing:SOk a.routing
 boxes:∀ x ∈ a.boxes.l,x.Tx
 links:∀ x ∈ a.links.l,x.Tx
 slices:∀ x ∈ a.slices.l,x.Tx
theorem ls_of{B:Nat}{α:Type}{f:α->List D}{p:α->Prop}{e:TypeId}{l:List Shp}{x:D}(h:TySs B [.slice e l] [x])(hf:∀ {r},TySs B l r->∃ a,r=f a/\p a) :
    ∃ L:Ls α,x = .lst e (L.l.map f) L.room/\L.l.length<=B/\∀ a ∈ L.l,p a:=by
 obtain⟨us,room,rfl,hl,h1,_⟩:=lst_of h fun r hr=>hf hr
 exact⟨⟨us,room.map f⟩,rfl,by simp only;omega,h1⟩
theorem str_row_of{r:List D}(h:TySs 1048576 [.str] r):∃ a:Str,r=srow a/\SOk a:=by
 obtain⟨x0,r,rfl,h0,h⟩:=ss_cons h
 obtain rfl:=ss_nil h
 obtain⟨v0,rfl,hv⟩:=str_of h0
 exact⟨v0,rfl,hv⟩
theorem si_of{r:List D}(h:TySs 1048576 [.str,.int .i64] r):∃ a:SI,r=a.row/\a.Tx:=by
 obtain⟨x0,r,rfl,h0,h⟩:=ss_cons h
 obtain⟨x1,r,rfl,h1,h⟩:=ss_cons h
 obtain rfl:=ss_nil h
 obtain⟨v0,rfl,t0⟩:=str_of h0
 obtain⟨v1,rfl,w1⟩:=int_of h1
 exact⟨⟨v0,v1⟩,rfl,⟨t0,wf64 w1⟩⟩
theorem node_of{r:List D}(h:TySs 1048576 [.int .i64,.str,.int .i64,.int .i64,.int .i64,.int .i64,.int .i64,.str] r):∃ a:Node,r=a.row/\a.Tx:=by
 obtain⟨x0,r,rfl,h0,h⟩:=ss_cons h
 obtain⟨x1,r,rfl,h1,h⟩:=ss_cons h
 obtain⟨x2,r,rfl,h2,h⟩:=ss_cons h
 obtain⟨x3,r,rfl,h3,h⟩:=ss_cons h
 obtain⟨x4,r,rfl,h4,h⟩:=ss_cons h
 obtain⟨x5,r,rfl,h5,h⟩:=ss_cons h
 obtain⟨x6,r,rfl,h6,h⟩:=ss_cons h
 obtain⟨x7,r,rfl,h7,h⟩:=ss_cons h
 obtain rfl:=ss_nil h
 obtain⟨v0,rfl,w0⟩:=int_of h0
 obtain⟨v1,rfl,t1⟩:=str_of h1
 obtain⟨v2,rfl,w2⟩:=int_of h2
 obtain⟨v3,rfl,w3⟩:=int_of h3
 obtain⟨v4,rfl,w4⟩:=int_of h4
 obtain⟨v5,rfl,w5⟩:=int_of h5
 obtain⟨v6,rfl,w6⟩:=int_of h6
 obtain⟨v7,rfl,t7⟩:=str_of h7
 exact⟨⟨v0,v1,v2,v3,v4,v5,v6,v7⟩,rfl,⟨wf64 w0,t1,wf64 w2,wf64 w3,wf64 w4,wf64 w5,wf64 w6,t7⟩⟩
theorem pfx_of{r:List D}(h:TySs 1048576 [.int .i64,.int .i64,.str] r):∃ a:Pfx,r=a.row/\a.Tx:=by
 obtain⟨x0,r,rfl,h0,h⟩:=ss_cons h
 obtain⟨x1,r,rfl,h1,h⟩:=ss_cons h
 obtain⟨x2,r,rfl,h2,h⟩:=ss_cons h
 obtain rfl:=ss_nil h
 obtain⟨v0,rfl,w0⟩:=int_of h0
 obtain⟨v1,rfl,w1⟩:=int_of h1
 obtain⟨v2,rfl,t2⟩:=str_of h2
 exact⟨⟨v0,v1,v2⟩,rfl,⟨wf64 w0,wf64 w1,t2⟩⟩
theorem link_of{r:List D}(h:TySs 1048576 [.str,.str,.int .i64] r):∃ a:Link,r=a.row/\a.Tx:=by
 obtain⟨x0,r,rfl,h0,h⟩:=ss_cons h
 obtain⟨x1,r,rfl,h1,h⟩:=ss_cons h
 obtain⟨x2,r,rfl,h2,h⟩:=ss_cons h
 obtain rfl:=ss_nil h
 obtain⟨v0,rfl,t0⟩:=str_of h0
 obtain⟨v1,rfl,t1⟩:=str_of h1
 obtain⟨v2,rfl,w2⟩:=int_of h2
 exact⟨⟨v0,v1,v2⟩,rfl,⟨t0,t1,wf64 w2⟩⟩
theorem line_of{r:List D}(h:TySs 1048576 [.str,.bool,.slice 219 [.int .i64,.str,.int .i64,.int .i64,.int .i64,.int .i64,.int .i64,.str]] r):∃ a:Line,r=a.row/\a.Ok/\a.Tx:=by
 obtain⟨x0,r,rfl,h0,h⟩:=ss_cons h
 obtain⟨x1,r,rfl,h1,h⟩:=ss_cons h
 obtain⟨x2,r,rfl,h2,h⟩:=ss_cons h
 obtain rfl:=ss_nil h
 obtain⟨v0,rfl,t0⟩:=str_of h0
 obtain⟨v1,rfl⟩:=bool_of h1
 obtain⟨v2,rfl,l2,q2⟩:=ls_of h2 node_of
 exact⟨⟨v0,v1,v2⟩,rfl,⟨l2⟩,⟨t0,q2⟩⟩
theorem rule_of{r:List D}(h:TySs 1048576 [.int .i64,.slice 9 [.str],.slice 219 [.int .i64,.str,.int .i64,.int .i64,.int .i64,.int .i64,.int .i64,.str],.slice 243 [.str,.int .i64],.slice 9 [.str]] r):∃ a:Rule,r=a.row/\a.Ok/\a.Tx:=by
 obtain⟨x0,r,rfl,h0,h⟩:=ss_cons h
 obtain⟨x1,r,rfl,h1,h⟩:=ss_cons h
 obtain⟨x2,r,rfl,h2,h⟩:=ss_cons h
 obtain⟨x3,r,rfl,h3,h⟩:=ss_cons h
 obtain⟨x4,r,rfl,h4,h⟩:=ss_cons h
 obtain rfl:=ss_nil h
 obtain⟨v0,rfl,w0⟩:=int_of h0
 obtain⟨v1,rfl,l1,q1⟩:=ls_of h1 str_row_of
 obtain⟨v2,rfl,l2,q2⟩:=ls_of h2 node_of
 obtain⟨v3,rfl,l3,q3⟩:=ls_of h3 si_of
 obtain⟨v4,rfl,l4,q4⟩:=ls_of h4 str_row_of
 exact⟨⟨v0,v1,v2,v3,v4⟩,rfl,⟨l1,l2,l3,l4⟩,⟨wf64 w0,q1,q2,q3,q4⟩⟩
theorem box_of{r:List D}(h:TySs 1048576 [.str,.slice 9 [.str],.slice 9 [.str],.slice 112 [.str,.bool,.slice 219 [.int .i64,.str,.int .i64,.int .i64,.int .i64,.int .i64,.int .i64,.str]],.slice 115 [.int .i64,.slice 9 [.str],.slice 219 [.int .i64,.str,.int .i64,.int .i64,.int .i64,.int .i64,.int .i64,.str],.slice 243 [.str,.int .i64],.slice 9 [.str]],.slice 246 [.int .i64,.int .i64,.str],.slice 246 [.int .i64,.int .i64,.str]] r):∃ a:Box,r=a.row/\a.Ok/\a.Tx:=by
 obtain⟨x0,r,rfl,h0,h⟩:=ss_cons h
 obtain⟨x1,r,rfl,h1,h⟩:=ss_cons h
 obtain⟨x2,r,rfl,h2,h⟩:=ss_cons h
 obtain⟨x3,r,rfl,h3,h⟩:=ss_cons h
 obtain⟨x4,r,rfl,h4,h⟩:=ss_cons h
 obtain⟨x5,r,rfl,h5,h⟩:=ss_cons h
 obtain⟨x6,r,rfl,h6,h⟩:=ss_cons h
 obtain rfl:=ss_nil h
 obtain⟨v0,rfl,t0⟩:=str_of h0
 obtain⟨v1,rfl,l1,q1⟩:=ls_of h1 str_row_of
 obtain⟨v2,rfl,l2,q2⟩:=ls_of h2 str_row_of
 obtain⟨v3,rfl,l3,q3⟩:=ls_of h3 line_of
 obtain⟨v4,rfl,l4,q4⟩:=ls_of h4 rule_of
 obtain⟨v5,rfl,l5,q5⟩:=ls_of h5 pfx_of
 obtain⟨v6,rfl,l6,q6⟩:=ls_of h6 pfx_of
 exact⟨⟨v0,v1,v2,v3,v4,v5,v6⟩,rfl,⟨l1,l2,l3,l4,l5,l6,fun x hx=>(q3 x hx).1,fun x hx=>(q4 x hx).1⟩,⟨t0,q1,q2,fun x hx=>(q3 x hx).2,fun x hx=>(q4 x hx).2,q5,q6⟩⟩
theorem slc_of{r:List D}(h:TySs 1048576 [.str,.slice 9 [.str],.slice 219 [.int .i64,.str,.int .i64,.int .i64,.int .i64,.int .i64,.int .i64,.str]] r):∃ a:Slc,r=a.row/\a.Ok/\a.Tx:=by
 obtain⟨x0,r,rfl,h0,h⟩:=ss_cons h
 obtain⟨x1,r,rfl,h1,h⟩:=ss_cons h
 obtain⟨x2,r,rfl,h2,h⟩:=ss_cons h
 obtain rfl:=ss_nil h
 obtain⟨v0,rfl,t0⟩:=str_of h0
 obtain⟨v1,rfl,l1,q1⟩:=ls_of h1 str_row_of
 obtain⟨v2,rfl,l2,q2⟩:=ls_of h2 node_of
 exact⟨⟨v0,v1,v2⟩,rfl,⟨l1,l2⟩,⟨t0,q1,q2⟩⟩
theorem config_of{r:List D}(h:TySs 1048576 [.str,.slice 127 [.str,.int .i64],.str,.bool,.slice 87 [.str,.slice 9 [.str],.slice 9 [.str],.slice 112 [.str,.bool,.slice 219 [.int .i64,.str,.int .i64,.int .i64,.int .i64,.int .i64,.int .i64,.str]],.slice 115 [.int .i64,.slice 9 [.str],.slice 219 [.int .i64,.str,.int .i64,.int .i64,.int .i64,.int .i64,.int .i64,.str],.slice 243 [.str,.int .i64],.slice 9 [.str]],.slice 246 [.int .i64,.int .i64,.str],.slice 246 [.int .i64,.int .i64,.str]],.slice 91 [.str,.str,.int .i64],.slice 54 [.str,.slice 9 [.str],.slice 219 [.int .i64,.str,.int .i64,.int .i64,.int .i64,.int .i64,.int .i64,.str]]] r):∃ a:Config,r=a.row/\a.Ok/\a.Tx:=by
 obtain⟨x0,r,rfl,h0,h⟩:=ss_cons h
 obtain⟨x1,r,rfl,h1,h⟩:=ss_cons h
 obtain⟨x2,r,rfl,h2,h⟩:=ss_cons h
 obtain⟨x3,r,rfl,h3,h⟩:=ss_cons h
 obtain⟨x4,r,rfl,h4,h⟩:=ss_cons h
 obtain⟨x5,r,rfl,h5,h⟩:=ss_cons h
 obtain⟨x6,r,rfl,h6,h⟩:=ss_cons h
 obtain rfl:=ss_nil h
 obtain⟨v0,rfl,t0⟩:=str_of h0
 obtain⟨v1,rfl,l1,q1⟩:=ls_of h1 si_of
 obtain⟨v2,rfl,t2⟩:=str_of h2
 obtain⟨v3,rfl⟩:=bool_of h3
 obtain⟨v4,rfl,l4,q4⟩:=ls_of h4 box_of
 obtain⟨v5,rfl,l5,q5⟩:=ls_of h5 link_of
 obtain⟨v6,rfl,l6,q6⟩:=ls_of h6 slc_of
 exact⟨⟨v0,v1,v2,v3,v4,v5,v6⟩,rfl,⟨l1,l4,l5,l6,fun x hx=>(q4 x hx).1,fun x hx=>(q6 x hx).1⟩,⟨t0,q1,t2,fun x hx=>(q4 x hx).2,q5,fun x hx=>(q6 x hx).2⟩⟩
end Go.Proofs.YtcglkonooeddfaaGreatDoor
namespace Go.Proofs.YtcglkonooeddfaaGreatDoor
open Go Go.Vx
open Classical
def SI.fd(x:SI):Fd:=⟨x.s,x.n⟩
def Node.nd(x:Node):Nd:=⟨x.kind,⟨x.field,x.op,x.form,x.lo,x.hi,x.len,x.pat⟩⟩
def fds(l:List SI):List Fd:=l.map SI.fd
def nds(l:List Node):List Nd:=l.map Node.nd
theorem fds_row(l:List SI):(fds l).map frow=l.map SI.row:=by simp[fds,Function.comp_def,SI.fd,SI.row]
theorem nds_row(l:List Node):(nds l).map nrow=l.map Node.row:=by simp[nds,Function.comp_def,Node.nd,Node.row]
abbrev Er:=Int × Str
noncomputable def orE(a b:Er):Er:=if a.1 ≠ 0 then a else b
theorem orE_l{a:Er}(b:Er)(h:a.1 ≠ 0):orE a b=a:=if_pos h
theorem orE_r{a:Er}(b:Er)(h:a.1=0):orE a b=b:=if_neg (fun x=>x h)
noncomputable def firstE{α:Type}(f:List α->α->Er)(pre:List α):List α->Er
 | []=>(0,[])
 | x :: l=>if (f pre x).1 ≠ 0 then f pre x else firstE f (pre++[x]) l
section
variable {α : Type} {f : List α → α → Er} {l : List α} {k : Nat} {x : α}
theorem firstE_split(hx:l[k]? = some x):firstE f (l.take k) (l.drop k)=if (f (l.take k) x).1 ≠ 0 then f (l.take k) x else firstE f (l.take (k+1)) (l.drop (k+1)):=by
 rw[fdrop_at hx,List.take_add_one,hx]
 rfl
theorem firstE_bad(hx:l[k]? = some x)(h:(f (l.take k) x).1 ≠ 0):firstE f (l.take k) (l.drop k)=f (l.take k) x:=by rw[firstE_split hx,if_pos h]
theorem firstE_ok(hx:l[k]? = some x)(h:(f (l.take k) x).1=0):firstE f (l.take k) (l.drop k)=firstE f (l.take (k+1)) (l.drop (k+1)):=by rw[firstE_split hx,if_neg (fun g=>g h)]
theorem firstE_nil(h:l.length<=k):firstE f (l.take k) (l.drop k)=(0,[]):=by rw[List.drop_eq_nil_of_le h];rfl
theorem firstE_zero:(firstE f [] l).1=0->∀ (k:Nat) x,l[k]? = some x->(f (l.take k) x).1=0:=by
 have key:∀ (r pre:List α),(firstE f pre r).1=0->∀ (k:Nat) x,r[k]? = some x->(f (pre++r.take k) x).1=0:=by
  intro r
  induction r with
  | nil=>intro pre _ k x h;simp at h
  | cons y r ih=>
   intro pre h k x hx
   unfold firstE at h
   split at h
   . rename_i h1;exact absurd h h1
   . rename_i h1
     cases k with
     | zero=>simp at hx;subst hx;simpa using Classical.not_not.1 h1
     | succ k=>
      have:=ih _ h k x (by simpa using hx)
      simpa using this
 intro h k x hx
 simpa using key l [] h k x hx
theorem firstE_emp:(firstE f [] l).1=0->firstE f [] l=(0,[]):=by
 have key:∀ (r pre:List α),(firstE f pre r).1=0->firstE f pre r=(0,[]):=by
  intro r
  induction r with
  | nil=>intro pre _;rfl
  | cons y r ih=>
   intro pre h
   unfold firstE at h ⊢
   split at h
   . rename_i h1;exact absurd h h1
   . rename_i h1
     rw[if_neg h1]
     exact ih _ h
 exact key l []
end
def resvL:List Str:=[[110,101,116,119,111,114,107],[104,101,97,100,101,114],[114,111,117,116,105,110,103],[115,108,105,109],[98,111,120],[105,110],[111,117,116],[103,117,97,114,100],[112,101,114,109,105,116],[100,101,110,121],[114,117,108,101],[102,114,111,109],[109,97,116,99,104],[115,101,116],[116,111],[100,114,111,112],[111,119,110],[114,111,117,116,101],[108,105,110,107],[99,111,115,116],[115,108,105,99,101],[119,104,101,114,101],[97,110,121],[110,111,110,101],[97,116],[110,111]]
def Rsv(s:Str):Prop:=s ∈ resvL
def MName(s:Str):Prop:=NameP s/\¬ Rsv s
noncomputable def resvE(_:List SI)(f:SI):Er:=if Rsv f.s then (70,f.s) else (0,[])
noncomputable def headO(c:ConfigB):Er:=
 if 256<c.title.length then (71,[110,101,116,119,111,114,107]) else
 if (chkO (fds c.fields)).1=2\/c.fields=[] then (70,[]) else
 if (chkO (fds c.fields)).1 ≠ 0 then (70,((c.fields[(chkO (fds c.fields)).2.toNat]?).getD ⟨[],0⟩).s) else
 orE (firstE resvE [] c.fields) (if (c.routing ≠ []/\¬ ∃ f ∈ c.fields,f.s=c.routing)\/(c.slim/\c.routing=[]) then (73,c.routing) else (0,[]))
def nPorts(l:List BoxB):Nat:=(l.map fun b=>b.ins.length+b.outs.length).sum
def nLines(l:List BoxB):Nat:=(l.map fun b=>b.guards.length).sum
def nRules(l:List BoxB):Nat:=(l.map fun b=>b.rules.length).sum
def nRoutes(l:List BoxB):Nat:=(l.map fun b=>b.owns.length+b.routes.length).sum
def cntL(c:ConfigB):List (Nat × Nat × Str):=
 [(c.boxes.length,16,[98,111,120,101,115]),(nPorts c.boxes,48,[112,111,114,116,115]),(nLines c.boxes,64,[103,117,97,114,100,115]),(nRules c.boxes,64,[114,117,108,101,115]),(nRoutes c.boxes,64,[114,111,117,116,101,115]),(c.links.length,48,[108,105,110,107,115]),(c.slices.length,8,[115,108,105,99,101,115])]
def cntE(_:List (Nat × Nat × Str))(x:Nat × Nat × Str):Er:=if x.2.1<x.1 then (71,x.2.2) else (0,[])
noncomputable def countO(c:ConfigB):Er:=firstE cntE [] (cntL c)
def dot(n p:Str):Str:=n++[46]++p
noncomputable def portE(n:Str)(pre:List Str)(p:Str):Er:=if ¬ MName p then (36,dot n p) else if p ∈ pre then (72,dot n p) else (0,[])
noncomputable def boxE(pre:List BoxB)(b:BoxB):Er:=
 if ¬ MName b.name then (36,b.name) else if ∃ x ∈ pre,x.name=b.name then (72,b.name) else firstE (portE b.name) [] (b.ins++b.outs)
noncomputable def nameO(c:ConfigB):Er:=firstE boxE [] c.boxes
noncomputable def sideE(want other:List Str)(pre:List Str)(s:Str):Er:=if s ∉ want then (if s ∉ other then (73,[]) else (74,[])) else if s ∈ pre then (72,[]) else (0,[])
theorem sideE_unk{want other pre:List Str}{s:Str}(h:s ∉ want)(h2:s ∉ other):sideE want other pre s=(73,[]):=by unfold sideE;rw[if_pos h,if_pos h2]
theorem sideE_side{want other pre:List Str}{s:Str}(h:s ∉ want)(h2:s ∈ other):sideE want other pre s=(74,[]):=by unfold sideE;rw[if_pos h,if_neg (fun g=>g h2)]
theorem sideE_dbl{want other pre:List Str}{s:Str}(h:s ∈ want)(h2:s ∈ pre):sideE want other pre s=(72,[]):=by unfold sideE;rw[if_neg (fun g=>g h),if_pos h2]
theorem sideE_ok{want other pre:List Str}{s:Str}(h:s ∈ want)(h2:s ∉ pre):sideE want other pre s=(0,[]):=by unfold sideE;rw[if_neg (fun g=>g h),if_neg h2]
noncomputable def sidesI(l want other:List Str):Int:=(firstE (sideE want other) [] l).1
noncomputable def setE(fs:List Fd)(pre:List SI)(s:SI):Er:=
 if findI s.s fs 0<0 then (41,[]) else if ∃ t ∈ pre,t.s=s.s then (45,[]) else
 if s.n<0\/(tw ((fs[(findI s.s fs 0).toNat]?).getD ⟨[],0⟩).bits.toNat:Int) - 1<s.n then (42,[]) else (0,[])
noncomputable def wordI(fs:List Fd)(l:List SI):Int:=if 12<l.length then 2 else if (chkO fs).1 ≠ 0 then (chkO fs).1 else (firstE (setE fs) [] l).1
noncomputable def ruleI(c:ConfigB)(b:BoxB)(pre:List RuleB)(r:RuleB):Int:=
 if r.prio<0\/65535<r.prio then 76 else if ∃ s ∈ pre,s.prio=r.prio then 76 else
 if sidesI r.frm b.ins b.outs ≠ 0 then sidesI r.frm b.ins b.outs else
 if chkE (fds c.fields) (nds r.mtch) ≠ 0 then 77 else if wordI (fds c.fields) r.sets ≠ 0 then 79 else
 if 4<r.dst.length then 71 else sidesI r.dst b.outs b.ins
def rbits(c:ConfigB):Int:=if c.routing=[] then 0 else if findI c.routing (fds c.fields) 0<0 then 0 else (((fds c.fields)[(findI c.routing (fds c.fields) 0).toNat]?).getD ⟨[],0⟩).bits
noncomputable def prefI(c:ConfigB)(b:BoxB)(pre:List Pfx)(p:Pfx):Int:=
 if rbits c=0\/p.len<0\/rbits c<p.len\/p.value<0\/(tw (rbits c).toNat:Int)<=p.value then 78 else
 if p.value % (tw (rbits c - p.len).toNat:Int) ≠ 0 then 78 else
 if ∃ q ∈ pre,q.value=p.value/\q.len=p.len then 78 else sidesI [p.dst] b.outs b.ins
noncomputable def told(e:Int)(t:Str):Er:=if e ≠ 0 then (e,t) else (0,[])
noncomputable def guardE(c:ConfigB)(b:BoxB)(_:List LineB)(g:LineB):Er:=
 if g.port ∉ b.ins++b.outs then (73,b.name++[32,103,117,97,114,100,32]++g.port) else if chkE (fds c.fields) (nds g.mtch) ≠ 0 then (77,b.name++[32,103,117,97,114,100,32]++g.port) else (0,[])
noncomputable def ruleE(c:ConfigB)(b:BoxB)(pre:List RuleB)(r:RuleB):Er:=told (ruleI c b pre r) (b.name++[32,114,117,108,101,32]++Lib.itoa r.prio)
noncomputable def ownE(c:ConfigB)(b:BoxB)(pre:List Pfx)(p:Pfx):Er:=told (prefI c b pre p) (b.name++[32,111,119,110])
noncomputable def routE(c:ConfigB)(b:BoxB)(pre:List Pfx)(p:Pfx):Er:=told (prefI c b pre p) (b.name++[32,114,111,117,116,101])
noncomputable def doesE(c:ConfigB)(_:List BoxB)(b:BoxB):Er:=
 orE (firstE (guardE c b) [] b.guards) (orE (firstE (ruleE c b) [] b.rules) (orE (firstE (ownE c b) [] b.owns) (firstE (routE c b) [] b.routes)))
noncomputable def deedO(c:ConfigB):Er:=firstE (doesE c) [] c.boxes
def fullsB(b:BoxB):List Str:=(b.ins++b.outs).map (dot b.name)
def fullIn(c:ConfigB):List Str:=c.boxes.flatMap fun b=>b.ins.map (dot b.name)
def fullOut(c:ConfigB):List Str:=c.boxes.flatMap fun b=>b.outs.map (dot b.name)
noncomputable def linkE(c:ConfigB)(pre:List Link)(x:Link):Er:=
 if sidesI [x.frm] (fullOut c) (fullIn c) ≠ 0 then (sidesI [x.frm] (fullOut c) (fullIn c),x.frm) else
 if sidesI [x.dst] (fullIn c) (fullOut c) ≠ 0 then (sidesI [x.dst] (fullIn c) (fullOut c),x.dst) else
 if x.cost<1\/9999<x.cost then (71,x.frm) else if ∃ y ∈ pre,y.frm=x.frm then (75,x.frm) else (0,[])
noncomputable def linkO(c:ConfigB):Er:=firstE (linkE c) [] c.links
noncomputable def sportE(c:ConfigB)(pre:List Str)(p:Str):Er:=if p ∉ fullIn c/\p ∉ fullOut c then (73,p) else if p ∈ pre then (72,p) else (0,[])
noncomputable def sliceE(c:ConfigB)(pre:List SlcB)(s:SlcB):Er:=
 if ¬ MName s.name then (36,s.name) else if ∃ x ∈ pre,x.name=s.name then (72,s.name) else
 orE (firstE (sportE c) [] s.ports) (if chkE (fds c.fields) (nds s.whr) ≠ 0 then (77,s.name) else (0,[]))
noncomputable def sliceO(c:ConfigB):Er:=firstE (sliceE c) [] c.slices
noncomputable def checkO(c:ConfigB):Er:=orE (headO c) (orE (countO c) (orE (nameO c) (orE (deedO c) (orE (linkO c) (sliceO c)))))
end Go.Proofs.YtcglkonooeddfaaGreatDoor
namespace Go.Proofs.YtcglkonooeddfaaGreatDoor
open Go Go.Vx
def plcF(s:Str):List Str->Nat->Int
 | [],_=>-1
 | x :: l,k=>if x=s then (k:Int) else plcF s l (k+1)
def plc(l:List Str)(s:Str):Int:=plcF s l 0
theorem plcF_all(s:Str):∀ (l:List Str) (k:Nat),(plcF s l k<0 ↔ s ∉ l)/\-1<=plcF s l k/\(s ∈ l->(k:Int)<=plcF s l k)/\plcF s l k<(k+l.length:Nat)/\(s ∈ l->l[(plcF s l k).toNat - k]? = some s)/\∀ i:Nat,plcF s l k<(k+i:Nat) ↔ s ∉ l\/s ∈ l.take i
 | [],k=>⟨by simp[plcF],by simp[plcF],by simp,by simp[plcF];omega,by simp,fun i=>by simp[plcF];omega⟩
 | x :: l,k=>by
  unfold plcF
  split
  . rename_i h
    subst h
    refine⟨⟨fun h=>absurd h (by omega),fun h=>absurd (List.mem_cons_self) h⟩,by omega,fun _=>by omega,by simp;omega,fun _=>by simp,fun i=>?_⟩
    cases i with
    | zero=>simp
    | succ i=>
     simp
     omega
  . rename_i h
    obtain⟨h1,h2,h3,h4,h5,h6⟩:=plcF_all s l (k+1)
    have hne:¬ s=x:=fun e=>h e.symm
    refine⟨by rw[h1];simp[hne],h2,fun hm=>?_,by simp at h4 ⊢;omega,fun hm=>?_,fun i=>?_⟩
    . have:=h3 (by simpa[hne] using hm)
      omega
    . have hm':s ∈ l:=by simpa[hne] using hm
      have:=h3 hm'
      have h7:=h5 hm'
      rw[show (plcF s l (k+1)).toNat - k=((plcF s l (k+1)).toNat - (k+1))+1 by omega,List.getElem?_cons_succ]
      exact h7
    . cases i with
      | zero=>
       simp only[List.take_zero,List.not_mem_nil,or_false,Nat.add_zero,List.mem_cons,not_or]
       constructor
       . intro hx
         refine⟨hne,fun hm=>?_⟩
         have:=h3 hm
         omega
       . rintro⟨_,hm⟩
         have:=h1.2 hm
         omega
      | succ i=>
       rw[show k+(i+1)=k+1+i by omega,h6 i]
       simp[hne]
theorem plc_lt(l:List Str)(s:Str):plc l s<l.length:=by
 have:=(plcF_all s l 0).2.2.2.1
 rw[Nat.zero_add] at this
 exact this
theorem plc_at{l:List Str}{s:Str}(h:s ∈ l):0<=plc l s/\l[(plc l s).toNat]? = some s:=by
 have h1:=(plcF_all s l 0).2.2.1 h
 have h2:=(plcF_all s l 0).2.2.2.2.1 h
 rw[Nat.sub_zero] at h2
 exact⟨h1,h2⟩
end Go.Proofs.YtcglkonooeddfaaGreatDoor
namespace Go.Proofs.YtcglkonooeddfaaGreatDoor
open Go Go.Vx
def fI(o:Option Int):D:=.i .i64 (o.getD 0)
theorem mtSI:MTy Tryz.prog 120 D.s fI:=by
 refine⟨⟨9,3,Tryz.underlying120,keyS Tryz.underlying9,fun w=>?_⟩,fun o=>rfl⟩
 kernel_rfl
def deskD(x:D)(b:Box)(g:Nat):D:=.agg (x :: b.row++[.mv (some g)])
def PMap(l:List (Str × Int × Nat))(ps:List Str):Prop:=(∀ s,s ∉ ps->lk l s=none)/\∀ (k:Nat) s,ps[k]? = some s->lk l s=some (k:Int)
set_option maxRecDepth 100000 in
theorem port_at(b:Box)(hi:b.ins.l.length<=1048576)(ho:b.outs.l.length<=1048576)(k:Nat)(x:Str)(hx:(b.ins.l++b.outs.l)[k]? = some x)(kk:Int)(hk:kk=k):FSpec Tryz.prog T 139 [.agg b.row,.i .i64 kk] (fun d _=>d = .s x):=by
 subst hk
 have h1:(b.ins.l.map srow).length=b.ins.l.length:=by simp
 have h2:(b.outs.l.map srow).length=b.outs.l.length:=by simp
 refine FSpec.of_ok tok Tryz.func139 rfl Tryz.call139 (by simp) ?_
 by_cases hkl:k<b.ins.l.length
 . rw[List.getElem?_append_left hkl] at hx
   have hx2:(b.ins.l.map srow)[k]? = some [.s x]:=by simp[hx,srow]
   (try (conv=>whnf));repeat' (first|refine Ok.seq ?_|((first|refine Ok.region tok ?_|refine Ok.cond ?_|refine Ok.ret ?_|refine ix _ (by assumption) ?_);conv=>whnf)|(refine bI ?_ ?_<;>intro<;>(conv=>whnf)<;>(try (exfalso;omega)))|fail)
   refine Or.inl ?_;(conv=>whnf)
   rfl
 . rw[List.getElem?_append_right (by omega)] at hx
   have hxl:=(List.getElem?_eq_some_iff.1 hx).1
   have hx2:(b.outs.l.map srow)[k - b.ins.l.length]? = some [.s x]:=by simp[hx,srow]
   have e1:((k:Int) - b.ins.l.length).toNat=k - b.ins.l.length:=by omega
   (try (conv=>whnf));repeat' (first|refine Ok.seq ?_|((first|refine Ok.region tok ?_|refine Ok.cond ?_|refine Ok.skip ?_|refine Ok.ret ?_|refine nI ?_|refine ixI_new (by omega) (by omega) fun _ _=>?_);conv=>whnf)|(refine bI ?_ ?_<;>intro<;>(conv=>whnf)<;>(try (exfalso;omega)))|fail)
   all_goals
    rename_i y hy
    rw[h1,e1,hx] at hy
    cases hy
    refine Or.inl ?_;(conv=>whnf)
    rfl
open Classical in
/-- The side that is wanted. -/
noncomputable def wantL(p:Prop)(b:BoxB):List Str:=if p then b.ins else b.outs
theorem wantL_tt(b:BoxB):wantL True b=b.ins:=if_pos trivial
theorem wantL_ff(b:BoxB):wantL False b=b.outs:=if_neg id
theorem wantL_y{p:Prop}(h:p)(b:BoxB):wantL p b=b.ins:=if_pos h
theorem wantL_n{p:Prop}(h:¬ p)(b:BoxB):wantL p b=b.outs:=if_neg h
noncomputable def deskH(g:Nat)(l:List (Str × Int × Nat))(c:Nat):Objs:=[(g,mObj D.s fI l c)]
noncomputable def sideV(b:BoxB)(p:Prop)(s:Str):Int:=(sideE (wantL p b) (wantL (¬ p) b) [] s).1
section
variable {l : List (Str × Int × Nat)} {u v : List Str} {s : Str}
theorem PMap.some_iff(hl:PMap l (u++v)):(lk l s).isSome=true ↔ s ∈ u++v:=by
 constructor
 . intro h
   refine Classical.byContradiction fun hn=>?_
   rw[hl.1 s hn] at h
   cases h
 . intro h
   obtain⟨k,hk⟩:=List.getElem?_of_mem h
   rw[hl.2 k s hk]
   rfl
theorem PMap.left(hl:PMap l (u++v))(h:s ∈ u):∃ k:Nat,lk l s=some (k:Int)/\k<u.length:=by
 obtain⟨k,hk⟩:=List.getElem?_of_mem h
 have hku:=(List.getElem?_eq_some_iff.1 hk).1
 exact⟨k,hl.2 k s (by rw[List.getElem?_append_left hku];exact hk),hku⟩
theorem PMap.right(hl:PMap l (u++v))(h:s ∈ v):∃ k:Nat,lk l s=some ((u.length+k:Nat):Int):=by
 obtain⟨k,hk⟩:=List.getElem?_of_mem h
 exact⟨k,hl.2 _ s (by rw[List.getElem?_append_right (by omega),Nat.add_sub_cancel_left];exact hk)⟩
theorem PMap.lt_iff(hl:PMap l (u++v))(h:s ∈ u++v):(lk l s).getD 0<u.length ↔ s ∈ u:=by
 constructor
 . intro hk
   refine Classical.byContradiction fun hn=>?_
   obtain⟨k,e⟩:=hl.right ((List.mem_append.1 h).resolve_left hn)
   rw[e] at hk
   simp at hk
   omega
 . intro hu
   obtain⟨k,e,hk⟩:=hl.left hu
   rw[e]
   simp
   omega
theorem PMap.not_both(hl:PMap l (u++v))(h:s ∈ u):s ∉ v:=by
 intro hv
 obtain⟨k,e,hk⟩:=hl.left h
 obtain⟨k2,e2⟩:=hl.right hv
 rw[e] at e2
 simp at e2
 omega
end
set_option maxRecDepth 100000 in
set_option maxHeartbeats 4000000 in
theorem side_at(cf:Config)(b:Box)(g:Nat)(l:List (Str × Int × Nat))(ck:Nat)(hl:PMap l (b.ins.l++b.outs.l))(s:Str)(p:Prop) :
    FSpecH Tryz.prog T (deskH g l ck) 259 [deskD (.ep cf.row) b g,.s s,.b p] (fun d rows M=>(d = .i .i64 (sideV b.b p s)/\rows=[])/\M=[]):=by
 refine FSpecH.of_ok0 tok Tryz.func259 rfl Tryz.call259 (by simp) ?_
 have h1:(b.ins.l.map srow).length=b.ins.l.length:=by simp
 have hs:=hl.some_iff (s:=s)
 have hlt:=hl.lt_iff (s:=s)
 have hnb:=hl.not_both (s:=s)
 (try (conv=>whnf));repeat' (first|(refine⟨_,_,_,_,_,_,_,_,mtSI,(by first|exact .head _|exact .tail _ (.head _)|exact .tail _ (.tail _ (.head _))|exact .tail _ (.tail _ (.tail _ (.head _)))|exact List.mem_append_left _ (by assumption)),rfl,?_⟩;conv=>whnf)|refine OkM.seq ?_|((first|refine OkM.region tok ?_|refine OkM.cond ?_|refine OkM.skip ?_|refine OkM.ret ?_);conv=>whnf)|(refine bI ?_ ?_<;>intro<;>(conv=>whnf)<;>(try (exfalso;omega)))|fail)
 all_goals
  refine Or.inl ?_;(conv=>whnf)
  refine⟨?_,rfl⟩
  show D.i _ _=_
  congr 1
  unfold sideV
  rename_i hx
 . have hn:s ∉ b.ins.l++b.outs.l:=fun h=>hx (hs.2 h)
   have h2:∀ q,s ∉ wantL q b.b:=fun q h=>by
    by_cases hq:q
    . rw[wantL_y hq] at h;exact hn (List.mem_append_left _ h)
    . rw[wantL_n hq] at h;exact hn (List.mem_append_right _ h)
   rw[sideE_unk (h2 _) (h2 _)]
 . rename_i hy
   have hm:=hs.1 (Classical.not_not.1 hy)
   have hlt:=hlt hm
   rw[h1] at hx
   have h2:s ∉ wantL p b.b/\s ∈ wantL (¬ p) b.b:=by
    by_cases hq:p
    . rw[wantL_y hq,wantL_n (fun g=>g hq)]
      have hnu:s ∉ b.ins.l:=fun h=>hx ⟨fun _=>hq,fun _=>hlt.2 h⟩
      exact⟨hnu,(List.mem_append.1 hm).resolve_left hnu⟩
    . rw[wantL_n hq,wantL_y hq]
      have hu:s ∈ b.ins.l:=Classical.byContradiction fun h=>hx ⟨fun g=>absurd (hlt.1 g) h,fun g=>absurd g hq⟩
      exact⟨hnb hu,hu⟩
   rw[sideE_side h2.1 h2.2]
 . rename_i hy
   have hm:=hs.1 (Classical.not_not.1 hy)
   have hlt:=hlt hm
   rw[h1] at hx
   have hx:=Classical.not_not.1 hx
   have h2:s ∈ wantL p b.b:=by
    by_cases hq:p
    . rw[wantL_y hq];exact hlt.1 (hx.2 hq)
    . rw[wantL_n hq]
      exact (List.mem_append.1 hm).resolve_left fun h=>hq (hx.1 (hlt.2 h))
   rw[sideE_ok h2 (by simp)]
def KMap(l:List (Str × Int × Nat))(ps:List Str):Prop:=∀ s,(lk l s).isSome=true ↔ s ∈ ps
theorem KMap.nil:KMap [] []:=fun s=>by simp[lk_nil]
theorem KMap.put{l:List (Str × Int × Nat)}{ps:List Str}(h:KMap l ps)(c:Nat)(s:Str)(a:Int):KMap (mput l c s a).1 (ps++[s]):=fun t=>by
 rw[mput_lk]
 by_cases ht:t=s
 . simp[ht]
 . rw[if_neg ht,h t]
   simp[ht]
theorem sidesI_zero{want other:List Str}{l:List Str}{i:Nat}{s:Str}(h:l[i]? = some s)(hs:(sideE want other [] s).1 ≠ 0):firstE (sideE want other) (l.take i) (l.drop i)=sideE want other [] s:=by
 have hw:s ∉ want:=fun hw=>hs (by rw[sideE_ok hw (by simp)])
 have:sideE want other (l.take i) s=sideE want other [] s:=by
  by_cases ho:s ∈ other
  . rw[sideE_side hw ho,sideE_side hw ho]
  . rw[sideE_unk hw ho,sideE_unk hw ho]
 rw[firstE_bad h (by rw[this];exact hs),this]
theorem sideE_want{want other pre:List Str}{s:Str}(hs:(sideE want other pre s).1=0):s ∈ want:=by
 refine Classical.byContradiction fun h=>?_
 by_cases ho:s ∈ other
 . rw[sideE_side h ho] at hs;cases hs
 . rw[sideE_unk h ho] at hs;cases hs
set_option maxRecDepth 100000 in
set_option maxHeartbeats 4000000 in
theorem msides_at(cf:Config)(b:Box)(g:Nat)(l:List (Str × Int × Nat))(ck:Nat)(hl:PMap l (b.ins.l++b.outs.l))(names:List Str){rl sl:List (List D)}(hr:rl=names.map srow)(hn:names.length<=1048576)(p:Prop) :
    FSpecH Tryz.prog T (deskH g l ck) 256 [deskD (.ep cf.row) b g,.lst 9 rl sl,.b p] (fun d rows M=>(d = .i .i64 (sidesI names (wantL p b.b) (wantL (¬ p) b.b))/\rows=[])/\M=[]):=by
 subst hr
 refine FSpecH.of_ok0 tok Tryz.func256 rfl Tryz.call256 (by simp) ?_
 have h1:(names.map srow).length=names.length:=by simp
 (try (conv=>whnf));repeat' (first|(refine⟨_,_,_,_,_,mtSI,fun _ _=>?_⟩;conv=>whnf)|refine OkM.seq ?_|(refine OkM.region tok ?_;conv=>whnf)|refine OkM.block ?_|fail)
 rename_i gc hgc
 refine OkM.loopU [2,3,7,14,15] [16] 0 1 (fun (x:Nat × List (Str × Int × Nat) × Nat)=>[.i .i64 (x.1:Nat)]) (fun _ b=>b) (fun _ r=>r) (fun (x:Nat × List (Str × Int × Nat) × Nat)=>[(gc,mObj D.s fI x.2.1 x.2.2)]) (fun (x:Nat × List (Str × Int × Nat) × Nat)=>x.1<=names.length/\KMap x.2.1 (names.take x.1)/\sidesI names (wantL p b.b) (wantL (¬ p) b.b)=(firstE (sideE (wantL p b.b) (wantL (¬ p) b.b)) (names.take x.1) (names.drop x.1)).1) (fun (x:Nat × List (Str × Int × Nat) × Nat)=>names.length - x.1) ((0,[],0)) (⟨Nat.zero_le _,KMap.nil,rfl⟩) (by first|exact .refl _|exact .cons _ (.refl _)|exact List.nil_sublist _) ?_;(conv=>whnf);refine⟨by ((conv=>whnf);first|rfl|(simp[envCat, List.take_of_length_le, SI.row, Node.row, Pfx.row, Link.row, srow, Line.row, Rule.row, Box.row, Slc.row, Config.row];done)|(simp[envCat, List.take_of_length_le, SI.row, Node.row, Pfx.row, Link.row, srow, Line.row, Rule.row, Box.row, Slc.row, Config.row];rw[IntKind.wrap_i64];omega)),?_⟩
 rintro⟨i,lc,cc⟩ ⟨hi,hkm,hfe⟩
 dsimp only at hi hkm hfe ⊢
 (conv=>whnf)
 by_cases hil:i<names.length
 . obtain⟨s,hsi⟩:∃ s,names[i]? = some s:=⟨_,List.getElem?_eq_getElem hil⟩
   have hsI:names[((i:Nat):Int).toNat]? = some s:=hsi
   have htk:names.take (i+1)=names.take i++[s]:=by rw[List.take_add_one,hsi];rfl
   (try (conv=>whnf));repeat' (first|((first|refine⟨_,_,_,_,_,_,_,_,mtSI,(by first|exact .head _|exact .tail _ (.head _)|exact .tail _ (.tail _ (.head _))|exact .tail _ (.tail _ (.tail _ (.head _)))|exact List.mem_append_left _ (by assumption)),rfl,?_⟩|refine⟨_,_,_,_,_,_,_,0,_,_,mtSI,rfl,rfl,rfl,?_⟩);conv=>whnf)|(refine Or.inr (Or.inl ?_);(conv=>whnf);(repeat (refine aI ?_;conv=>whnf));refine⟨_,(side_at cf b g l ck hl s p).more (fun x hx=>List.mem_append_left _ hx),?_⟩;rintro _ _ _ ⟨⟨rfl,rfl⟩,rfl⟩<;>(conv=>whnf))|refine OkM.seq ?_|((first|refine OkM.region tok ?_|refine OkM.cond ?_);conv=>whnf)|refine OkM.block ?_|((first|refine OkM.skip ?_|refine OkM.ret ?_|refine nI ?_|refine ix _ (by assumption) ?_);conv=>whnf)|(refine bI ?_ ?_<;>intro<;>(conv=>whnf)<;>(try (exfalso;omega)))|fail)
   . rename_i hx
     refine Or.inl ?_;(conv=>whnf)
     refine⟨?_,rfl⟩
     rw[hfe,sidesI_zero hsi hx]
     rfl
   . rename_i hx hy
     have hw:=sideE_want (Classical.not_not.1 hx)
     have hp:=(hkm s).1 hy
     refine Or.inl ?_;(conv=>whnf)
     refine⟨?_,rfl⟩
     rw[hfe,firstE_bad hsi (by rw[sideE_dbl hw hp];decide),sideE_dbl hw hp]
     rfl
   . rename_i hx hy
     have hw:=sideE_want (Classical.not_not.1 hx)
     have hp:s ∉ names.take i:=fun h=>hy ((hkm s).2 h)
     refine⟨(i+1,(mput lc cc s i).1,(mput lc cc s i).2),by dsimp only;omega,⟨by dsimp only;omega,by dsimp only;rw[htk];exact hkm.put cc s i,?_⟩,.refl _,?_⟩
     . rw[hfe,firstE_ok hsi (by rw[sideE_ok hw hp])]
     . (conv=>whnf)
       rfl
 . obtain rfl:i=names.length:=by omega
   rw[firstE_nil (Nat.le_refl _)] at hfe
   (try (conv=>whnf));repeat' (first|refine OkM.seq ?_|((first|refine OkM.region tok ?_|refine OkM.cond ?_|refine OkM.exit ?_|refine OkM.ret ?_);conv=>whnf)|(refine bI ?_ ?_<;>intro<;>(conv=>whnf)<;>(try (exfalso;omega)))|fail)
   all_goals first
    | (exfalso;omega)
    | (refine Or.inl ?_;(conv=>whnf)
       exact⟨by rw[hfe];rfl,rfl⟩)
end Go.Proofs.YtcglkonooeddfaaGreatDoor
namespace Go.Proofs.YtcglkonooeddfaaGreatDoor
open Go Go.Vx
def plRow(x:Nat × Prop):List D:=[.i .i64 (x.1:Nat),.b x.2]
def plcs(bs:List BoxB):List (Nat × Prop):=bs.zipIdx.flatMap fun x=>(x.1.ins.map fun _=>(x.2,True))++x.1.outs.map fun _=>(x.2,False)
def fullsL(bs:List BoxB):List Str:=bs.flatMap fullsB
def NMap(l:List (Str × Int × Nat))(ps:List Str):Prop:=∀ s,(s ∉ ps->lk l s=none)/\(s ∈ ps->lk l s=some (plc ps s))
theorem plcF_app(s:Str)(t:List Str):∀ (l:List Str) (k:Nat),s ∈ l->plcF s (l++t) k=plcF s l k
 | [],_,h=>by cases h
 | x :: l,k,h=>by
  simp only[List.cons_append,plcF]
  split
  . rfl
  . rename_i hx
    refine plcF_app s t l (k+1) ?_
    rcases List.mem_cons.1 h with rfl|h
    . exact absurd rfl hx
    . exact h
theorem plcF_new(s:Str):∀ (l:List Str) (k:Nat),s ∉ l->plcF s (l++[s]) k=(k+l.length:Nat)
 | [],k,_=>by simp[plcF]
 | x :: l,k,h=>by
  simp only[List.cons_append,plcF]
  rw[if_neg fun e=>h (by rw[e];simp)]
  rw[plcF_new s l (k+1) fun g=>h (by simp[g])]
  simp only[List.length_cons]
  omega
theorem NMap.nil:NMap [] []:=fun s=>⟨fun _=>rfl,fun h=>by cases h⟩
theorem NMap.old{l:List (Str × Int × Nat)}{ps:List Str}(h:NMap l ps){s:Str}(hs:s ∈ ps):NMap l (ps++[s]):=fun t=>by
 by_cases ht:t ∈ ps
 . refine⟨fun g=>absurd (List.mem_append_left _ ht) g,fun _=>?_⟩
   rw[(h t).2 ht]
   congr 1
   exact (plcF_app t [s] ps 0 ht).symm
 . refine⟨fun _=>(h t).1 ht,fun g=>?_⟩
   rcases List.mem_append.1 g with g|g
   . exact absurd g ht
   . simp at g;subst g;exact absurd hs ht
theorem NMap.new{l:List (Str × Int × Nat)}{ps:List Str}(h:NMap l ps){s:Str}(hs:s ∉ ps)(c:Nat)(a:Int)(ha:a=(ps.length:Nat)):NMap (mput l c s a).1 (ps++[s]):=fun t=>by
 subst ha
 rw[mput_lk]
 by_cases hts:t=s
 . subst hts
   rw[if_pos rfl]
   refine⟨fun g=>absurd (List.mem_append_right _ (by simp)) g,fun _=>?_⟩
   congr 1
   have:=plcF_new t ps 0 hs
   rw[Nat.zero_add] at this
   exact this.symm
 . rw[if_neg hts]
   by_cases ht:t ∈ ps
   . refine⟨fun g=>absurd (List.mem_append_left _ ht) g,fun _=>?_⟩
     rw[(h t).2 ht]
     congr 1
     exact (plcF_app t [s] ps 0 ht).symm
   . refine⟨fun _=>(h t).1 ht,fun g=>?_⟩
     rcases List.mem_append.1 g with g|g
     . exact absurd g ht
     . simp at g;exact absurd g hts
theorem fullsL_take{bs:List BoxB}{i:Nat}{b:BoxB}(h:bs[i]? = some b):fullsL (bs.take (i+1))=fullsL (bs.take i)++b.ins.map (dot b.name)++b.outs.map (dot b.name):=by
 unfold fullsL
 rw[List.take_add_one,h,List.flatMap_append]
 simp[fullsB]
theorem plcs_take{bs:List BoxB}{i:Nat}{b:BoxB}(h:bs[i]? = some b):plcs (bs.take (i+1))=plcs (bs.take i)++(b.ins.map fun _=>(i,True))++b.outs.map fun _=>(i,False):=by
 have hi:=(List.getElem?_eq_some_iff.1 h).1
 unfold plcs
 rw[List.take_add_one,h,List.zipIdx_append,List.flatMap_append]
 simp[Nat.min_eq_left (Nat.le_of_lt hi)]
theorem plcs_len(bs:List BoxB):(plcs bs).length=(fullsL bs).length:=by
 have key:∀ (l:List BoxB) (k:Nat),((l.zipIdx k).flatMap fun x=>(x.1.ins.map fun _=>(x.2,True))++x.1.outs.map fun _=>(x.2,False)).length=(fullsL l).length:=by
  intro l
  induction l with
  | nil=>intro k;rfl
  | cons b l ih=>
   intro k
   simp only[List.zipIdx_cons,List.flatMap_cons,List.length_append,ih,fullsL,fullsB,List.length_map]
 exact key bs 0
theorem fullsL_le(bs:List BoxB){i:Nat}{b:BoxB}(h:bs[i]? = some b):(fullsL (bs.take i)).length+b.ins.length+b.outs.length<=(fullsL bs).length:=by
 have e:fullsL bs=fullsL (bs.take (i+1))++fullsL (bs.drop (i+1)):=by
  unfold fullsL
  rw[<- List.flatMap_append,List.take_append_drop]
 rw[e,fullsL_take h]
 simp only[List.length_append,List.length_map]
 omega
set_option maxRecDepth 100000 in
set_option maxHeartbeats 8000000 in
theorem numbered_at(c:Config)(hc:c.Ok)(htx:∀ b ∈ c.boxes.l,b.name.length<=1048576/\(∀ s ∈ b.ins.l,s.length<=1048576)/\∀ s ∈ b.outs.l,s.length<=1048576)(hpn:(fullsL c.b.boxes).length<=1000) :
    FSpecH Tryz.prog T [] 55 [.agg c.row] (fun d rows M=>∃ g lst ck,d = .tup [.own 0 (plcs c.b.boxes).length,.mv (some g)]/\rows=[some (160,(plcs c.b.boxes).map plRow)]/\M=[(g,mObj D.s fI lst ck)]/\NMap lst (fullsL c.b.boxes)/\mWf lst ck/\mKeys lst):=by
 have hcb:=hc.boxes
 have hbl:(c.boxes.l.map Box.row).length=c.boxes.l.length:=by simp
 refine FSpecH.of_ok tok Tryz.func55 rfl Tryz.call55 (by simp) ?_
 (try (conv=>whnf));repeat' (first|(refine⟨_,_,_,_,_,mtSI,fun _ _=>?_⟩;conv=>whnf)|refine OkM.seq ?_|(refine OkM.region tok ?_;conv=>whnf)|fail)
 rename_i g hg
 refine Or.inr ?_
 (conv=>whnf)
 (try (conv=>whnf));repeat' (first|refine OkM.seq ?_|(refine OkM.region tok ?_;conv=>whnf)|refine OkM.block ?_|fail)
 refine OkM.ghostB 1 0 160 rfl rfl ?_
 (conv=>whnf)
 refine OkM.loopU [4,5,6,12,13] [14] 1 3 (fun (x:Nat × List (Str × Int × Nat) × Nat)=>[.i .i64 (x.1:Nat)]) (fun (x:Nat × List (Str × Int × Nat) × Nat) (_:List (List D))=>[c.row,[.own 0 (plcs (c.b.boxes.take x.1)).length],[.mv (some g)]]) (fun (x:Nat × List (Str × Int × Nat) × Nat) (_:Vx.Rows)=>[some (160,(plcs (c.b.boxes.take x.1)).map plRow)]) (fun (x:Nat × List (Str × Int × Nat) × Nat)=>[(g,mObj D.s fI x.2.1 x.2.2)]) (fun (x:Nat × List (Str × Int × Nat) × Nat)=>x.1<=c.boxes.l.length/\NMap x.2.1 (fullsL (c.b.boxes.take x.1))/\mWf x.2.1 x.2.2/\mKeys x.2.1) (fun (x:Nat × List (Str × Int × Nat) × Nat)=>c.boxes.l.length - x.1) ((0,[],0)) (⟨Nat.zero_le _,NMap.nil,mWf.nil,List.nodup_nil⟩) (by first|exact .refl _|exact .cons _ (.refl _)|exact List.nil_sublist _) ?_;(conv=>whnf);refine⟨by ((conv=>whnf);first|rfl|(simp[envCat, List.take_of_length_le, SI.row, Node.row, Pfx.row, Link.row, srow, Line.row, Rule.row, Box.row, Slc.row, Config.row, plRow];done)|(simp[envCat, List.take_of_length_le, SI.row, Node.row, Pfx.row, Link.row, srow, Line.row, Rule.row, Box.row, Slc.row, Config.row, plRow];rw[IntKind.wrap_i64];omega)),?_⟩
 rintro⟨i,lst,ck⟩ ⟨hi,hnm,hwf,hky⟩
 dsimp only at hi hnm hwf hky ⊢
 (conv=>whnf)
 by_cases hil:i<c.boxes.l.length
 . obtain⟨b,hb⟩:∃ b,c.boxes.l[i]? = some b:=⟨_,List.getElem?_eq_getElem hil⟩
   have hbI:c.boxes.l[((i:Nat):Int).toNat]? = some b:=hb
   have hbb:c.b.boxes[i]? = some b.b:=by simp[Config.b,hb]
   -- both calls
   have hbx:=hc.box b (List.mem_of_getElem? hb)
   have hbi:=hbx.ins
   have hbo:=hbx.outs
   obtain⟨hbn,hbins,hbouts⟩:=htx b (List.mem_of_getElem? hb)
   have hPL:=plcs_len (c.b.boxes.take i)
   have hcap:(fullsL (c.b.boxes.take i)).length+b.ins.l.length+b.outs.l.length<=(fullsL c.b.boxes).length:=fullsL_le c.b.boxes hbb
   (try (conv=>whnf));repeat' (first|refine OkM.seq ?_|((first|refine OkM.region tok ?_|refine OkM.cond ?_);conv=>whnf)|refine OkM.block ?_|((first|refine OkM.skip ?_|refine ix _ (by assumption) ?_);conv=>whnf)|(refine bI ?_ ?_<;>intro<;>(conv=>whnf)<;>(try (exfalso;omega)))|fail)
   refine Or.inr ?_;(conv=>whnf);refine⟨_,_,Tryz.func102,rfl,Tryz.call102,?_⟩;(conv=>whnf)
   (try (conv=>whnf));repeat' (first|refine OkM.seq ?_|(refine OkM.region tok ?_;conv=>whnf)|refine OkM.block ?_|fail)
   refine OkM.loopU [0,2,3,4,5,14,15,52,53,54,55,56,60,61,62] [16] 1 4 (fun (y:Nat × List (Str × Int × Nat) × Nat)=>[.i .i64 (y.1:Nat)]) (fun (y:Nat × List (Str × Int × Nat) × Nat) (_:List (List D))=>[c.row,[.own 0 ((plcs (c.b.boxes.take i)).length+y.1)],[.mv (some g)],b.row]) (fun (y:Nat × List (Str × Int × Nat) × Nat) (_:Vx.Rows)=>[some (160,(plcs (c.b.boxes.take i)++(b.ins.l.take y.1).map fun _=>(i,True)).map plRow)]) (fun (y:Nat × List (Str × Int × Nat) × Nat)=>[(g,mObj D.s fI y.2.1 y.2.2)]) (fun (y:Nat × List (Str × Int × Nat) × Nat)=>y.1<=b.ins.l.length/\NMap y.2.1 (fullsL (c.b.boxes.take i)++(b.ins.l.take y.1).map (dot b.name))/\mWf y.2.1 y.2.2/\mKeys y.2.1) (fun (y:Nat × List (Str × Int × Nat) × Nat)=>b.ins.l.length - y.1) ((0,lst,ck)) (⟨Nat.zero_le _,by simpa using hnm,hwf,hky⟩) (by first|exact .refl _|exact .cons _ (.refl _)|exact List.nil_sublist _) ?_;(conv=>whnf);refine⟨by ((conv=>whnf);first|rfl|(simp[envCat, List.take_of_length_le, SI.row, Node.row, Pfx.row, Link.row, srow, Line.row, Rule.row, Box.row, Slc.row, Config.row, plRow];done)|(simp[envCat, List.take_of_length_le, SI.row, Node.row, Pfx.row, Link.row, srow, Line.row, Rule.row, Box.row, Slc.row, Config.row, plRow];rw[IntKind.wrap_i64];omega)),?_⟩
   rintro⟨j,l0,c0⟩ ⟨hj,hnm0a,hwf0a,hky0a⟩
   dsimp only at hj hnm0a hwf0a hky0a ⊢
   (conv=>whnf)
   have hnl0:(b.ins.l.map srow).length=b.ins.l.length:=by simp
   have hpl0:((plcs (c.b.boxes.take i)++(b.ins.l.take j).map fun _=>(i,True)).map plRow).length=(plcs (c.b.boxes.take i)).length+j:=by simp;omega
   by_cases hjl:j<b.ins.l.length
   . obtain⟨s,hs⟩:∃ s,b.ins.l[j]? = some s:=⟨_,List.getElem?_eq_getElem hjl⟩
     have hsI:b.ins.l[((j:Nat):Int).toNat]? = some s:=hs
     have htk:b.ins.l.take (j+1)=b.ins.l.take j++[s]:=by rw[List.take_add_one,hs];rfl
     have hsl:=hbins s (List.mem_of_getElem? hs)
     have hcI:(c.boxes.l.map Box.row)[i]? = some b.row:=by simp[hb]
     (try (conv=>whnf));repeat' (first|((first|refine⟨_,_,_,_,_,_,_,_,mtSI,(by first|exact .head _|exact .tail _ (.head _)|exact .tail _ (.tail _ (.head _))|exact .tail _ (.tail _ (.tail _ (.head _)))|exact List.mem_append_left _ (by assumption)),rfl,?_⟩|refine⟨_,_,_,_,_,_,_,0,_,_,mtSI,rfl,rfl,rfl,?_⟩);conv=>whnf)|refine OkM.seq ?_|((first|refine OkM.region tok ?_|refine OkM.cond ?_);conv=>whnf)|refine OkM.block ?_|((first|refine OkM.skip ?_|refine nI ?_|refine ix _ (by assumption) ?_|refine Alt2.l (aI ?_)|refine⟨_,.inl ⟨rfl,rfl⟩,?_⟩|refine⟨_,_,rfl,rfl,?_⟩);conv=>whnf)|(refine bI ?_ ?_<;>intro<;>(conv=>whnf)<;>(try (exfalso;omega)))|(refine aJ ?_;conv=>whnf)|fail)
     . rename_i hx
       have hq:dot b.name s ∉ fullsL (c.b.boxes.take i)++(b.ins.l.take j).map (dot b.name):=fun h=>hx (by show (lk _ (dot b.name s)).isSome=true;rw[(hnm0a _).2 h];rfl)
       refine⟨(j+1,(mput l0 c0 (dot b.name s) (((plcs (c.b.boxes.take i)).length+j:Nat):Int)).1,(mput l0 c0 (dot b.name s) (((plcs (c.b.boxes.take i)).length+j:Nat):Int)).2),by dsimp only;omega,⟨by dsimp only;omega,?_,mput_born hwf0a _ _,mput_keys hky0a _ _⟩,.refl _,?_⟩
       . dsimp only
         rw[htk,List.map_append,<- List.append_assoc]
         exact hnm0a.new hq _ _ (by simp only[List.length_append,List.length_map,List.length_take,hPL];omega)
       . rw[htk]
         (conv=>whnf);simp[envCat,plRow];exact⟨rfl,by omega,rfl⟩
     . rename_i hx
       have hq:dot b.name s ∈ fullsL (c.b.boxes.take i)++(b.ins.l.take j).map (dot b.name):=Classical.byContradiction fun h=>hx (by show ¬ (lk _ (dot b.name s)).isSome=true;rw[(hnm0a _).1 h];simp)
       refine⟨(j+1,l0,c0),by dsimp only;omega,⟨by dsimp only;omega,?_,hwf0a,hky0a⟩,.refl _,?_⟩
       . dsimp only
         rw[htk,List.map_append,<- List.append_assoc]
         exact hnm0a.old hq
       . rw[htk]
         (conv=>whnf);simp[envCat,plRow];exact⟨rfl,by omega,rfl⟩
   obtain rfl:j=b.ins.l.length:=by omega
   rw[List.take_length] at hnm0a ⊢
   (conv=>whnf)
   (try (conv=>whnf));repeat' (first|refine OkM.seq ?_|((first|refine OkM.region tok ?_|refine OkM.cond ?_|refine OkM.exit ?_);conv=>whnf)|(refine bI ?_ ?_<;>intro<;>(conv=>whnf)<;>(try (exfalso;omega)))|fail)
   refine Or.inr ?_;(conv=>whnf);refine⟨_,_,Tryz.func102,rfl,Tryz.call102,?_⟩;(conv=>whnf)
   (try (conv=>whnf));repeat' (first|refine OkM.seq ?_|(refine OkM.region tok ?_;conv=>whnf)|refine OkM.block ?_|fail)
   refine OkM.loopU [0,2,3,4,5,14,15,52,53,54,60,61,62] [16] 1 4 (fun (y:Nat × List (Str × Int × Nat) × Nat)=>[.i .i64 (y.1:Nat)]) (fun (y:Nat × List (Str × Int × Nat) × Nat) (_:List (List D))=>[c.row,[.own 0 (((plcs (c.b.boxes.take i)++b.ins.l.map fun _=>(i,True))).length+y.1)],[.mv (some g)],b.row]) (fun (y:Nat × List (Str × Int × Nat) × Nat) (_:Vx.Rows)=>[some (160,((plcs (c.b.boxes.take i)++b.ins.l.map fun _=>(i,True))++(b.outs.l.take y.1).map fun _=>(i,False)).map plRow)]) (fun (y:Nat × List (Str × Int × Nat) × Nat)=>[(g,mObj D.s fI y.2.1 y.2.2)]) (fun (y:Nat × List (Str × Int × Nat) × Nat)=>y.1<=b.outs.l.length/\NMap y.2.1 ((fullsL (c.b.boxes.take i)++b.ins.l.map (dot b.name))++(b.outs.l.take y.1).map (dot b.name))/\mWf y.2.1 y.2.2/\mKeys y.2.1) (fun (y:Nat × List (Str × Int × Nat) × Nat)=>b.outs.l.length - y.1) ((0,l0,c0)) (⟨Nat.zero_le _,by simpa using hnm0a,hwf0a,hky0a⟩) (by first|exact .refl _|exact .cons _ (.refl _)|exact List.nil_sublist _) ?_;(conv=>whnf);refine⟨by ((conv=>whnf);first|rfl|(simp[envCat, List.take_of_length_le, SI.row, Node.row, Pfx.row, Link.row, srow, Line.row, Rule.row, Box.row, Slc.row, Config.row, plRow];done)|(simp[envCat, List.take_of_length_le, SI.row, Node.row, Pfx.row, Link.row, srow, Line.row, Rule.row, Box.row, Slc.row, Config.row, plRow];rw[IntKind.wrap_i64];omega)),?_⟩
   rintro⟨j,l1,c1⟩ ⟨hj,hnm1a,hwf1a,hky1a⟩
   dsimp only at hj hnm1a hwf1a hky1a ⊢
   (conv=>whnf)
   have hnl1:(b.outs.l.map srow).length=b.outs.l.length:=by simp
   have hpl1:(((plcs (c.b.boxes.take i)++b.ins.l.map fun _=>(i,True))++(b.outs.l.take j).map fun _=>(i,False)).map plRow).length=((plcs (c.b.boxes.take i)++b.ins.l.map fun _=>(i,True))).length+j:=by simp;omega
   by_cases hjl:j<b.outs.l.length
   . obtain⟨s,hs⟩:∃ s,b.outs.l[j]? = some s:=⟨_,List.getElem?_eq_getElem hjl⟩
     have hsI:b.outs.l[((j:Nat):Int).toNat]? = some s:=hs
     have htk:b.outs.l.take (j+1)=b.outs.l.take j++[s]:=by rw[List.take_add_one,hs];rfl
     have hsl:=hbouts s (List.mem_of_getElem? hs)
     have hcI:(c.boxes.l.map Box.row)[i]? = some b.row:=by simp[hb]
     (try (conv=>whnf));repeat' (first|((first|refine⟨_,_,_,_,_,_,_,_,mtSI,(by first|exact .head _|exact .tail _ (.head _)|exact .tail _ (.tail _ (.head _))|exact .tail _ (.tail _ (.tail _ (.head _)))|exact List.mem_append_left _ (by assumption)),rfl,?_⟩|refine⟨_,_,_,_,_,_,_,0,_,_,mtSI,rfl,rfl,rfl,?_⟩);conv=>whnf)|refine OkM.seq ?_|((first|refine OkM.region tok ?_|refine OkM.cond ?_);conv=>whnf)|refine OkM.block ?_|((first|refine OkM.skip ?_|refine nI ?_|refine ix _ (by assumption) ?_|refine Alt2.l (aI ?_)|refine⟨_,.inl ⟨rfl,rfl⟩,?_⟩|refine⟨_,_,rfl,rfl,?_⟩);conv=>whnf)|(refine bI ?_ ?_<;>intro<;>(conv=>whnf)<;>(try (exfalso;omega)))|(refine aJ ?_;conv=>whnf)|fail)
     . rename_i hx
       have hq:dot b.name s ∉ (fullsL (c.b.boxes.take i)++b.ins.l.map (dot b.name))++(b.outs.l.take j).map (dot b.name):=fun h=>hx (by show (lk _ (dot b.name s)).isSome=true;rw[(hnm1a _).2 h];rfl)
       refine⟨(j+1,(mput l1 c1 (dot b.name s) ((((plcs (c.b.boxes.take i)++b.ins.l.map fun _=>(i,True))).length+j:Nat):Int)).1,(mput l1 c1 (dot b.name s) ((((plcs (c.b.boxes.take i)++b.ins.l.map fun _=>(i,True))).length+j:Nat):Int)).2),by dsimp only;omega,⟨by dsimp only;omega,?_,mput_born hwf1a _ _,mput_keys hky1a _ _⟩,.refl _,?_⟩
       . dsimp only
         rw[htk,List.map_append,<- List.append_assoc]
         exact hnm1a.new hq _ _ (by simp only[List.length_append,List.length_map,List.length_take,hPL];omega)
       . rw[htk]
         (conv=>whnf);simp[envCat,plRow];exact⟨rfl,by omega,rfl⟩
     . rename_i hx
       have hq:dot b.name s ∈ (fullsL (c.b.boxes.take i)++b.ins.l.map (dot b.name))++(b.outs.l.take j).map (dot b.name):=Classical.byContradiction fun h=>hx (by show ¬ (lk _ (dot b.name s)).isSome=true;rw[(hnm1a _).1 h];simp)
       refine⟨(j+1,l1,c1),by dsimp only;omega,⟨by dsimp only;omega,?_,hwf1a,hky1a⟩,.refl _,?_⟩
       . dsimp only
         rw[htk,List.map_append,<- List.append_assoc]
         exact hnm1a.old hq
       . rw[htk]
         (conv=>whnf);simp[envCat,plRow];exact⟨rfl,by omega,rfl⟩
   obtain rfl:j=b.outs.l.length:=by omega
   rw[List.take_length] at hnm1a ⊢
   (conv=>whnf)
   (try (conv=>whnf));repeat' (first|refine OkM.seq ?_|((first|refine OkM.region tok ?_|refine OkM.cond ?_|refine OkM.exit ?_|refine nI ?_);conv=>whnf)|(refine bI ?_ ?_<;>intro<;>(conv=>whnf)<;>(try (exfalso;omega)))|fail)
   refine⟨(i+1,l1,c1),by dsimp only;omega,⟨by dsimp only;omega,?_,hwf1a,hky1a⟩,.refl _,?_⟩
   . dsimp only
     rw[fullsL_take hbb]
     exact hnm1a
   . rw[plcs_take hbb]
     (conv=>whnf);simp[envCat,plRow];exact⟨Nat.add_assoc _ _ _,rfl⟩
 . obtain rfl:i=c.boxes.l.length:=by omega
   have htl:c.b.boxes.take c.boxes.l.length=c.b.boxes:=List.take_of_length_le (by simp[Config.b])
   rw[htl] at hnm ⊢
   (conv=>whnf)
   (try (conv=>whnf));repeat' (first|refine OkM.seq ?_|((first|refine OkM.region tok ?_|refine OkM.of_ok (Ok.region_draw tok follows (by kernel_rfl) ?_)|refine OkM.cond ?_|refine OkM.exit ?_|refine OkM.ret ?_);conv=>whnf)|(refine bI ?_ ?_<;>intro<;>(conv=>whnf)<;>(try (exfalso;omega)))|fail)
   first
    | (refine Or.inr (Or.inl ?_);(conv=>whnf)
       exact⟨g,lst,ck,rfl,rfl,rfl,hnm,hwf,hky⟩)
    | (refine Or.inl ?_;(conv=>whnf)
       exact⟨g,lst,ck,rfl,rfl,rfl,hnm,hwf,hky⟩)
end Go.Proofs.YtcglkonooeddfaaGreatDoor
namespace Go.Proofs.YtcglkonooeddfaaGreatDoor
open Go Go.Vx
theorem portE_bad{n p:Str}{pre:List Str}(h:¬ MName p):portE n pre p=(36,dot n p):=if_pos h
theorem portE_dbl{n p:Str}{pre:List Str}(h:MName p)(h2:p ∈ pre):portE n pre p=(72,dot n p):=by unfold portE;rw[if_neg fun g=>g h,if_pos h2]
theorem portE_ok{n p:Str}{pre:List Str}(h:MName p)(h2:p ∉ pre):portE n pre p=(0,[]):=by unfold portE;rw[if_neg fun g=>g h,if_neg h2]
theorem boxE_bad{pre:List BoxB}{b:BoxB}(h:¬ MName b.name):boxE pre b=(36,b.name):=if_pos h
theorem boxE_dbl{pre:List BoxB}{b:BoxB}(h:MName b.name)(h2:b.name ∈ pre.map BoxB.name):boxE pre b=(72,b.name):=by
 unfold boxE
 rw[if_neg fun g=>g h,if_pos (by obtain⟨x,hx,e⟩:=List.mem_map.1 h2;exact⟨x,hx,e⟩)]
theorem boxE_ok{pre:List BoxB}{b:BoxB}(h:MName b.name)(h2:b.name ∉ pre.map BoxB.name):boxE pre b=firstE (portE b.name) [] (b.ins++b.outs):=by
 unfold boxE
 rw[if_neg fun g=>g h,if_neg (by rintro⟨x,hx,e⟩;exact h2 (List.mem_map.2 ⟨x,hx,e⟩))]
set_option maxRecDepth 100000 in
set_option maxHeartbeats 8000000 in
theorem mnames_at(hN:∀ s,FSpec Tryz.prog T 138 [.s s] (fun d _=>d = .b (MName s)))(c:Config)(hc:c.Ok)(htx:∀ b ∈ c.boxes.l,b.name.length<=1048576/\(∀ s ∈ b.ins.l,s.length<=1048576)/\∀ s ∈ b.outs.l,s.length<=1048576) :
    FSpecH Tryz.prog T [] 76 [.agg c.row] (fun d rows M=>(d = .tup [.i .i64 (nameO c.b).1,.s (nameO c.b).2]/\rows=[])/\M=[]):=by
 have hcb:=hc.boxes
 have hbl:(c.boxes.l.map Box.row).length=c.boxes.l.length:=by simp
 refine FSpecH.of_ok0 tok Tryz.func76 rfl Tryz.call76 (by simp) ?_
 (try (conv=>whnf));repeat' (first|(refine⟨_,_,_,_,_,mtSI,fun _ _=>?_⟩;conv=>whnf)|refine OkM.seq ?_|(refine OkM.region tok ?_;conv=>whnf)|refine OkM.block ?_|fail)
 rename_i g hg
 refine OkM.loopU [4,16,17] [18] 0 1 (fun (x:Nat × List (Str × Int × Nat) × Nat)=>[.i .i64 (x.1:Nat)]) (fun _ b=>b) (fun _ r=>r) (fun (x:Nat × List (Str × Int × Nat) × Nat)=>[(g,mObj D.s fI x.2.1 x.2.2)]) (fun (x:Nat × List (Str × Int × Nat) × Nat)=>x.1<=c.boxes.l.length/\KMap x.2.1 ((c.b.boxes.take x.1).map BoxB.name)/\nameO c.b=firstE boxE (c.b.boxes.take x.1) (c.b.boxes.drop x.1)) (fun (x:Nat × List (Str × Int × Nat) × Nat)=>c.boxes.l.length - x.1) ((0,[],0)) (⟨Nat.zero_le _,KMap.nil,rfl⟩) (by first|exact .refl _|exact .cons _ (.refl _)|exact List.nil_sublist _) ?_;(conv=>whnf);refine⟨by ((conv=>whnf);first|rfl|(simp[envCat, List.take_of_length_le, SI.row, Node.row, Pfx.row, Link.row, srow, Line.row, Rule.row, Box.row, Slc.row, Config.row, plRow];done)|(simp[envCat, List.take_of_length_le, SI.row, Node.row, Pfx.row, Link.row, srow, Line.row, Rule.row, Box.row, Slc.row, Config.row, plRow];rw[IntKind.wrap_i64];omega)),?_⟩
 rintro⟨i,lst,ck⟩ ⟨hi,hkm,hfe⟩
 dsimp only at hi hkm hfe ⊢
 (conv=>whnf)
 by_cases hil:i<c.boxes.l.length
 . obtain⟨b,hb⟩:∃ b,c.boxes.l[i]? = some b:=⟨_,List.getElem?_eq_getElem hil⟩
   have hbI:c.boxes.l[((i:Nat):Int).toNat]? = some b:=hb
   have hbb:c.b.boxes[i]? = some b.b:=by simp[Config.b,hb]
   have htkb:c.b.boxes.take (i+1)=c.b.boxes.take i++[b.b]:=by rw[List.take_add_one,hbb];rfl
   have hbx:=hc.box b (List.mem_of_getElem? hb)
   have hbi:=hbx.ins
   have hbo:=hbx.outs
   obtain⟨hbn,hbins,hbouts⟩:=htx b (List.mem_of_getElem? hb)
   have hil':(b.ins.l.map srow).length=b.ins.l.length:=by simp
   have hol':(b.outs.l.map srow).length=b.outs.l.length:=by simp
   (try (conv=>whnf));repeat' (first|((first|refine⟨_,_,_,_,_,_,_,_,mtSI,(by first|exact .head _|exact .tail _ (.head _)|exact .tail _ (.tail _ (.head _))|exact .tail _ (.tail _ (.tail _ (.head _)))|exact List.mem_append_left _ (by assumption)),rfl,?_⟩|refine⟨_,_,_,_,_,mtSI,fun _ _=>?_⟩|refine⟨_,_,_,_,_,_,_,0,_,_,mtSI,rfl,rfl,rfl,?_⟩);conv=>whnf)|refine OkM.seq ?_|((first|refine OkM.region tok ?_|refine OkM.of_ok (Ok.region_draw tok follows (by kernel_rfl) ?_)|refine OkM.cond ?_);conv=>whnf)|refine OkM.block ?_|((first|refine OkM.skip ?_|refine OkM.ret ?_|refine nI ?_|refine ix _ (by assumption) ?_);conv=>whnf)|(refine Or.inl ?_;(conv=>whnf);refine Or.inl ?_;(conv=>whnf);(repeat (refine aI ?_;conv=>whnf));refine⟨_,hN b.name,rfl,?_⟩;conv=>whnf)|(refine bI ?_ ?_<;>intro<;>(conv=>whnf)<;>(try (exfalso;omega)))|fail)
   . rename_i hx
     refine Or.inl ?_;(conv=>whnf)
     refine⟨?_,rfl⟩
     rw[hfe,firstE_bad hbb (by rw[boxE_bad hx];simp),boxE_bad hx]
     rfl
   . rename_i hx hy
     have hx:=Classical.not_not.1 hx
     have hm:=(hkm _).1 hy
     refine Or.inl ?_;(conv=>whnf)
     refine⟨?_,rfl⟩
     rw[hfe,firstE_bad hbb (by rw[boxE_dbl hx hm];simp),boxE_dbl hx hm]
     rfl
   rename_i hx hy g2 hg2
   have hx:=Classical.not_not.1 hx
   have hm:b.b.name ∉ (c.b.boxes.take i).map BoxB.name:=fun h=>hy ((hkm _).2 h)
   rw[firstE_split hbb,boxE_ok hx hm] at hfe
   change nameO c.b=if (firstE (portE b.name) [] (b.ins.l++b.outs.l)).1 ≠ 0 then firstE (portE b.name) [] (b.ins.l++b.outs.l) else firstE boxE (c.b.boxes.take (i+1)) (c.b.boxes.drop (i+1)) at hfe
   refine OkM.loopU [4,6,9,16,17,18,50] [51] 0 2 (fun (y:Nat × List (Str × Int × Nat) × Nat)=>[.i .i64 (y.1:Nat)]) (fun _ b=>b) (fun _ r=>r) (fun (y:Nat × List (Str × Int × Nat) × Nat)=>[(g2,mObj D.s fI y.2.1 y.2.2),(g,mObj D.s fI (mput lst ck b.name i).1 (mput lst ck b.name i).2)]) (fun (y:Nat × List (Str × Int × Nat) × Nat)=>y.1<=(b.ins.l++b.outs.l).length/\KMap y.2.1 ((b.ins.l++b.outs.l).take y.1)/\firstE (portE b.name) [] (b.ins.l++b.outs.l)=firstE (portE b.name) ((b.ins.l++b.outs.l).take y.1) ((b.ins.l++b.outs.l).drop y.1)) (fun (y:Nat × List (Str × Int × Nat) × Nat)=>(b.ins.l++b.outs.l).length - y.1) ((0,[],0)) (⟨Nat.zero_le _,KMap.nil,rfl⟩) (by first|exact .refl _|exact .cons _ (.refl _)|exact List.nil_sublist _) ?_;(conv=>whnf);refine⟨by ((conv=>whnf);first|rfl|(simp[envCat, List.take_of_length_le, SI.row, Node.row, Pfx.row, Link.row, srow, Line.row, Rule.row, Box.row, Slc.row, Config.row, plRow];done)|(simp[envCat, List.take_of_length_le, SI.row, Node.row, Pfx.row, Link.row, srow, Line.row, Rule.row, Box.row, Slc.row, Config.row, plRow];rw[IntKind.wrap_i64];omega)),?_⟩
   rintro⟨j,l2,c2⟩ ⟨hj,hkm2,hfe2⟩
   dsimp only at hj hkm2 hfe2 ⊢
   (conv=>whnf)
   have hpl:(b.ins.l++b.outs.l).length=b.ins.l.length+b.outs.l.length:=by simp
   by_cases hjl:j<(b.ins.l++b.outs.l).length
   . obtain⟨s,hs⟩:∃ s,(b.ins.l++b.outs.l)[j]? = some s:=⟨_,List.getElem?_eq_getElem hjl⟩
     have hsl:s.length<=1048576:=by
      rcases List.mem_append.1 (List.mem_of_getElem? hs) with h|h
      . exact hbins s h
      . exact hbouts s h
     have htk:(b.ins.l++b.outs.l).take (j+1)=(b.ins.l++b.outs.l).take j++[s]:=by rw[List.take_add_one,hs];rfl
     (try (conv=>whnf));repeat' (first|((first|refine⟨_,_,_,_,_,_,_,_,mtSI,(by first|exact .head _|exact .tail _ (.head _)|exact .tail _ (.tail _ (.head _))|exact .tail _ (.tail _ (.tail _ (.head _)))|exact List.mem_append_left _ (by assumption)),rfl,?_⟩|refine⟨_,_,_,_,_,_,_,0,_,_,mtSI,rfl,rfl,rfl,?_⟩);conv=>whnf)|refine OkM.seq ?_|((first|refine OkM.region tok ?_|refine OkM.of_ok (Ok.region_draw tok follows (by kernel_rfl) ?_)|refine OkM.cond ?_);conv=>whnf)|refine OkM.block ?_|((first|refine OkM.skip ?_|refine OkM.ret ?_|refine nI ?_);conv=>whnf)|(refine Or.inl ?_;(conv=>whnf);refine Or.inl ?_;(conv=>whnf);(repeat (refine aI ?_;conv=>whnf));refine⟨_,port_at b hbi hbo j s hs _ rfl,rfl,?_⟩;conv=>whnf)|(refine Or.inl ?_;(conv=>whnf);refine Or.inl ?_;(conv=>whnf);(repeat (refine aI ?_;conv=>whnf));refine⟨_,hN s,rfl,?_⟩;conv=>whnf)|(refine bI ?_ ?_<;>intro<;>(conv=>whnf)<;>(try (exfalso;omega)))|(refine aJ ?_;conv=>whnf)|fail)
     . rename_i hz
       rw[firstE_bad hs (by rw[portE_bad hz];simp),portE_bad hz] at hfe2
       rw[hfe2,if_pos (by simp)] at hfe
       refine Or.inl ?_;(conv=>whnf)
       refine⟨?_,rfl⟩
       rw[hfe]
       rfl
     . rename_i hz hv
       have hz:=Classical.not_not.1 hz
       have hp:=(hkm2 s).1 hv
       rw[firstE_bad hs (by rw[portE_dbl hz hp];simp),portE_dbl hz hp] at hfe2
       rw[hfe2,if_pos (by simp)] at hfe
       refine Or.inl ?_;(conv=>whnf)
       refine⟨?_,rfl⟩
       rw[hfe]
       rfl
     . rename_i hz hv
       have hz:=Classical.not_not.1 hz
       have hp:s ∉ (b.ins.l++b.outs.l).take j:=fun h=>hv ((hkm2 s).2 h)
       refine⟨(j+1,(mput l2 c2 s j).1,(mput l2 c2 s j).2),by dsimp only;omega,⟨by dsimp only;omega,by dsimp only;rw[htk];exact hkm2.put c2 s j,?_⟩,.refl _,?_⟩
       . rw[hfe2,firstE_ok hs (by rw[portE_ok hz hp])]
       . (conv=>whnf)
         rfl
   . obtain rfl:j=(b.ins.l++b.outs.l).length:=by omega
     rw[firstE_nil (Nat.le_refl _)] at hfe2
     rw[hfe2,if_neg (by simp)] at hfe
     (try (conv=>whnf));repeat' (first|refine OkM.seq ?_|((first|refine OkM.region tok ?_|refine OkM.cond ?_|refine OkM.exit ?_|refine nI ?_);conv=>whnf)|(refine bI ?_ ?_<;>intro<;>(conv=>whnf)<;>(try (exfalso;omega)))|fail)
     refine⟨(i+1,(mput lst ck b.name i).1,(mput lst ck b.name i).2),by dsimp only;omega,⟨by dsimp only;omega,?_,hfe⟩,.cons _ (.refl _),?_⟩
     . dsimp only
       rw[htkb,List.map_append]
       exact hkm.put ck b.name i
     . (conv=>whnf)
       rfl
 . obtain rfl:i=c.boxes.l.length:=by omega
   rw[firstE_nil (by simp[Config.b])] at hfe
   (try (conv=>whnf));repeat' (first|refine OkM.seq ?_|((first|refine OkM.region tok ?_|refine OkM.cond ?_|refine OkM.exit ?_|refine OkM.ret ?_);conv=>whnf)|(refine bI ?_ ?_<;>intro<;>(conv=>whnf)<;>(try (exfalso;omega)))|fail)
   all_goals first
    | (exfalso;omega)
    | (refine Or.inl ?_;(conv=>whnf)
       exact⟨by rw[hfe];rfl,rfl⟩)
end Go.Proofs.YtcglkonooeddfaaGreatDoor
namespace Go.Proofs.YtcglkonooeddfaaGreatDoor
open Go Go.Vx
set_option maxRecDepth 100000 in
set_option maxHeartbeats 4000000 in
theorem mresv_at(s:Str):FSpec Tryz.prog T 136 [.s s] (fun d _=>d = .b (Rsv s)):=by
 refine FSpec.of_ok tok Tryz.func136 rfl Tryz.call136 (by simp) ?_
 (try (conv=>whnf));repeat' (first|refine Ok.seq ?_|((first|refine Ok.region tok ?_|refine Ok.cond ?_);conv=>whnf)|refine Ok.block ?_|((first|refine Ok.skip ?_|refine Ok.ret ?_);conv=>whnf)|(refine bI ?_ ?_<;>intro<;>(conv=>whnf)<;>(try (exfalso;omega)))|fail)
 all_goals first
  | (rename_i h
     refine Or.inl ?_;(conv=>whnf)
     exact b_tt (show s ∈ resvL by rw[h];simp[resvL]))
  | (refine Or.inl ?_;(conv=>whnf)
     exact b_ff fun hm=>by
      simp only[Rsv,resvL,List.mem_cons,List.not_mem_nil,or_false] at hm
      iterate 25 (rcases hm with hm|hm;· exact absurd hm (by assumption))
      exact absurd hm (by assumption))
set_option maxRecDepth 100000 in
set_option maxHeartbeats 4000000 in
theorem misName_at(s:Str):FSpec Tryz.prog T 138 [.s s] (fun d _=>d = .b (MName s)):=by
 refine FSpec.of_ok tok Tryz.func138 rfl Tryz.call138 (by simp) ?_
 by_cases h0:s=[]
 . (try (conv=>whnf));repeat' (first|refine Ok.seq ?_|((first|refine Ok.region tok ?_|refine Ok.cond ?_);conv=>whnf)|refine Ok.block ?_|((first|refine Ok.skip ?_|refine Ok.ret ?_);conv=>whnf)|(refine Or.inl ?_;(conv=>whnf);(repeat (refine aI ?_;conv=>whnf));refine⟨_,mresv_at s,rfl,?_⟩;conv=>whnf)|(refine bI ?_ ?_<;>intro<;>(conv=>whnf)<;>(try (exfalso;omega)))|fail)
   all_goals first
    | (exfalso;omega)
    | (refine Or.inl ?_;(conv=>whnf)
       exact b_ff fun hn=>hn.1.1 h0)
    | (exact absurd h0 (by assumption))
 by_cases h1:24<s.length
 . (try (conv=>whnf));repeat' (first|refine Ok.seq ?_|((first|refine Ok.region tok ?_|refine Ok.cond ?_|refine Ok.ret ?_);conv=>whnf)|(refine bI ?_ ?_<;>intro<;>(conv=>whnf)<;>(try (exfalso;omega)))|fail)
   all_goals first
    | (exfalso;omega)
    | (refine Or.inl ?_;(conv=>whnf)
       exact b_ff fun hn=>absurd hn.1.2.1 (by omega))
 by_cases h2:Rsv s
 . (try (conv=>whnf));repeat' (first|refine Ok.seq ?_|((first|refine Ok.region tok ?_|refine Ok.cond ?_);conv=>whnf)|refine Ok.block ?_|((first|refine Ok.skip ?_|refine Ok.ret ?_);conv=>whnf)|(refine Or.inl ?_;(conv=>whnf);(repeat (refine aI ?_;conv=>whnf));refine⟨_,mresv_at s,rfl,?_⟩;conv=>whnf)|(refine bI ?_ ?_<;>intro<;>(conv=>whnf)<;>(try (exfalso;omega)))|fail)
   all_goals first
    | (exfalso;omega)
    | (refine Or.inl ?_;(conv=>whnf)
       exact b_ff fun hn=>hn.2 h2)
    | (exact absurd h2 (by assumption))
 (try (conv=>whnf));repeat' (first|refine Ok.seq ?_|((first|refine Ok.region tok ?_|refine Ok.cond ?_);conv=>whnf)|refine Ok.block ?_|((first|refine Ok.skip ?_|refine Ok.ret ?_);conv=>whnf)|(refine Or.inl ?_;(conv=>whnf);(repeat (refine aI ?_;conv=>whnf));refine⟨_,mresv_at s,rfl,?_⟩;conv=>whnf)|(refine bI ?_ ?_<;>intro<;>(conv=>whnf)<;>(try (exfalso;omega)))|fail)
 all_goals first
  | (exfalso;omega)
  | (exact absurd (by assumption) h0)
  | (exact absurd (by assumption) h2)
  | skip
 have hle:s.length<=24:=by omega
 refine Ok.loopU [0,18] [19] 0 0 (fun (i:Nat)=>[.i .i64 (i:Nat)]) (fun _ b=>b) (fun _ r=>r) (fun (i:Nat)=>i<=s.length/\∀ (j:Nat) c,j<i->s[j]? = some c->nameAt j c) (fun (i:Nat)=>s.length - i) (0) (⟨Nat.zero_le _,fun j c hj=>absurd hj (by omega)⟩) ?_;(conv=>whnf);refine⟨by ((conv=>whnf);first|rfl|(simp[envCat, List.take_of_length_le, SI.row, Node.row, Pfx.row, Link.row, srow, Line.row, Rule.row, Box.row, Slc.row, Config.row];done)|(simp[envCat, List.take_of_length_le, SI.row, Node.row, Pfx.row, Link.row, srow, Line.row, Rule.row, Box.row, Slc.row, Config.row];rw[IntKind.wrap_i64];omega)),?_⟩
 rintro i ⟨hi,hall⟩
 (conv=>whnf)
 by_cases hil:i<s.length
 . obtain⟨b,hb⟩:∃ b,s[i]? = some b:=⟨_,List.getElem?_eq_getElem hil⟩
   have hbI:s[((i:Nat):Int).toNat]? = some b:=hb
   have hb255:=b.toNat_lt
   (try (conv=>whnf));repeat' (first|refine Ok.seq ?_|((first|refine Ok.region tok ?_|refine Ok.cond ?_);conv=>whnf)|refine Ok.block ?_|((first|refine Ok.skip ?_|refine Ok.ret ?_|refine nI ?_|refine⟨_,by assumption,?_⟩);conv=>whnf)|(refine bI ?_ ?_<;>intro<;>(conv=>whnf)<;>(try (exfalso;omega)))|((first|refine aJ ?_|refine num_any ?_);conv=>whnf)|fail)
   all_goals first
    | (exfalso;omega)
    | (refine Or.inl ?_;(conv=>whnf)
       refine b_ff fun hn=>?_
       have:=hn.1.2.2 i b hb
       unfold nameAt Ltr Dgt at this
       omega)
    | (refine⟨i+1,by omega,⟨by omega,name_step hall hb ?_⟩,?_⟩
       . unfold nameAt Ltr Dgt
         omega
       . (conv=>whnf)
         rfl)
 . have hie:i=s.length:=by omega
   subst hie
   (try (conv=>whnf));repeat' (first|refine Ok.seq ?_|((first|refine Ok.region tok ?_|refine Ok.cond ?_|refine Ok.exit ?_|refine Ok.ret ?_);conv=>whnf)|(refine bI ?_ ?_<;>intro<;>(conv=>whnf)<;>(try (exfalso;omega)))|fail)
   all_goals first
    | (exfalso;omega)
    | (refine Or.inl ?_;(conv=>whnf)
       exact b_tt ⟨⟨h0,hle,fun j c hc=>hall j c (List.getElem?_eq_some_iff.1 hc).1 hc⟩,h2⟩)
end Go.Proofs.YtcglkonooeddfaaGreatDoor
namespace Go.Proofs.YtcglkonooeddfaaGreatDoor
open Go Go.Vx
def cntRow(x:Nat × Nat × Str):List D:=[.i .i64 (x.1:Nat),.i .i64 (x.2.1:Nat),.s x.2.2]
theorem sum_take{l:List BoxB}{f:BoxB->Nat}{k:Nat}{b:BoxB}(h:l[k]? = some b):((l.take (k+1)).map f).sum=((l.take k).map f).sum+f b:=by
 rw[List.take_add_one,h,List.map_append,List.sum_append]
 simp
theorem sum_le{l:List BoxB}{f:BoxB->Nat}{B:Nat}(h:∀ b ∈ l,f b<=B):(l.map f).sum<=l.length*B:=by
 induction l with
 | nil=>simp
 | cons b l ih=>
  have h1:=h b (by simp)
  have h2:=ih fun x hx=>h x (by simp[hx])
  simp only[List.map_cons,List.sum_cons,List.length_cons,Nat.succ_mul]
  omega
theorem cnt_bound{c:Config}(hc:c.Ok)(k:Nat):nPorts (c.b.boxes.take k)<=k*2097152/\nLines (c.b.boxes.take k)<=k*1048576/\nRules (c.b.boxes.take k)<=k*1048576/\nRoutes (c.b.boxes.take k)<=k*2097152:=by
 have hb:∀ b ∈ c.b.boxes.take k,b.ins.length<=1048576/\b.outs.length<=1048576/\b.guards.length<=1048576/\b.rules.length<=1048576/\b.owns.length<=1048576/\b.routes.length<=1048576:=by
  intro b hb
  obtain⟨x,hx,rfl⟩:=List.mem_map.1 (List.mem_of_mem_take hb)
  have:=hc.box x hx
  exact⟨this.ins,this.outs,by simpa[Box.b] using this.guards,by simpa[Box.b] using this.rules,this.owns,this.routes⟩
 have hk:(c.b.boxes.take k).length<=k:=by rw[List.length_take];omega
 have key:∀ (f:BoxB->Nat) (B:Nat),(∀ b ∈ c.b.boxes.take k,f b<=B)->((c.b.boxes.take k).map f).sum<=k*B:=fun f B h=>Nat.le_trans (sum_le h) (Nat.mul_le_mul_right B hk)
 refine⟨key _ _ fun b h=>?_,key _ _ fun b h=>(hb b h).2.2.1,key _ _ fun b h=>(hb b h).2.2.2.1,key _ _ fun b h=>?_⟩
 . have:=hb b h;show b.ins.length+b.outs.length<=_;omega
 . have:=hb b h;show b.owns.length+b.routes.length<=_;omega
theorem cntE_bad{pre:List (Nat × Nat × Str)}{x:Nat × Nat × Str}(h:x.2.1<x.1):cntE pre x=(71,x.2.2):=if_pos h
theorem cntE_ok{pre:List (Nat × Nat × Str)}{x:Nat × Nat × Str}(h:¬ x.2.1<x.1):cntE pre x=(0,[]):=if_neg h
theorem countO_if(c:ConfigB):countO c=if 16<c.boxes.length then (71,[98,111,120,101,115]) else if 48<nPorts c.boxes then (71,[112,111,114,116,115]) else if 64<nLines c.boxes then (71,[103,117,97,114,100,115]) else if 64<nRules c.boxes then (71,[114,117,108,101,115]) else if 64<nRoutes c.boxes then (71,[114,111,117,116,101,115]) else if 48<c.links.length then (71,[108,105,110,107,115]) else if 8<c.slices.length then (71,[115,108,105,99,101,115]) else (0,[]):=by
 unfold countO cntL
 simp only[firstE,cntE]
 by_cases h0:16<c.boxes.length
 . simp[h0]
 by_cases h1:48<nPorts c.boxes
 . simp[h0,h1]
 by_cases h2:64<nLines c.boxes
 . simp[h0,h1,h2]
 by_cases h3:64<nRules c.boxes
 . simp[h0,h1,h2,h3]
 by_cases h4:64<nRoutes c.boxes
 . simp[h0,h1,h2,h3,h4]
 by_cases h5:48<c.links.length
 . simp[h0,h1,h2,h3,h4,h5]
 by_cases h6:8<c.slices.length
 . simp[h0,h1,h2,h3,h4,h5,h6]
 simp[h0,h1,h2,h3,h4,h5,h6]
set_option maxRecDepth 100000 in
set_option maxHeartbeats 8000000 in
theorem mcounts_at(c:Config)(hc:c.Ok):FSpec Tryz.prog T 75 [.agg c.row] (fun d _=>d = .tup [.i .i64 (countO c.b).1,.s (countO c.b).2]):=by
 have hbl:(c.boxes.l.map Box.row).length=c.boxes.l.length:=by simp
 have hll:(c.links.l.map Link.row).length=c.links.l.length:=by simp
 have hsl:(c.slices.l.map Slc.row).length=c.slices.l.length:=by simp
 have hB:=hc.boxes
 have hL:=hc.links
 have hS:=hc.slices
 refine FSpec.of_ok tok Tryz.func75 rfl Tryz.call75 (by simp) ?_
 (try (conv=>whnf));repeat' (first|refine Ok.seq ?_|(refine Ok.region tok ?_;conv=>whnf)|refine Ok.block ?_|fail)
 refine Ok.loopU [1,13,14] [4,5,6,7,15] 0 1 (fun (k:Nat)=>[.i .i64 (nPorts (c.b.boxes.take k):Nat),.i .i64 (nLines (c.b.boxes.take k):Nat),.i .i64 (nRules (c.b.boxes.take k):Nat),.i .i64 (nRoutes (c.b.boxes.take k):Nat),.i .i64 (k:Nat)]) (fun _ b=>b) (fun _ r=>r) (fun (k:Nat)=>k<=c.boxes.l.length) (fun (k:Nat)=>c.boxes.l.length - k) (0) (Nat.zero_le _) ?_;(conv=>whnf);refine⟨by ((conv=>whnf);first|rfl|(simp[envCat, List.take_of_length_le, SI.row, Node.row, Pfx.row, Link.row, srow, Line.row, Rule.row, Box.row, Slc.row, Config.row, cntRow, cntL, Config.b];done)|(simp[envCat, List.take_of_length_le, SI.row, Node.row, Pfx.row, Link.row, srow, Line.row, Rule.row, Box.row, Slc.row, Config.row, cntRow, cntL, Config.b];rw[IntKind.wrap_i64];omega)),?_⟩
 rintro k hk
 (conv=>whnf)
 obtain⟨p1,p2,p3,p4⟩:=cnt_bound hc k
 by_cases hkl:k<c.boxes.l.length
 . obtain⟨b,hb⟩:∃ b,c.boxes.l[k]? = some b:=⟨_,List.getElem?_eq_getElem hkl⟩
   have hbI:c.boxes.l[((k:Nat):Int).toNat]? = some b:=hb
   have hbb:c.b.boxes[k]? = some b.b:=by simp[Config.b,hb]
   have hbx:=hc.box b (List.mem_of_getElem? hb)
   have l1:(b.ins.l.map srow).length=b.ins.l.length:=by simp
   have l2:(b.outs.l.map srow).length=b.outs.l.length:=by simp
   have l3:(b.guards.l.map Line.row).length=b.guards.l.length:=by simp
   have l4:(b.rules.l.map Rule.row).length=b.rules.l.length:=by simp
   have l5:(b.owns.l.map Pfx.row).length=b.owns.l.length:=by simp
   have l6:(b.routes.l.map Pfx.row).length=b.routes.l.length:=by simp
   have b1:=hbx.ins
   have b2:=hbx.outs
   have b3:=hbx.guards
   have b4:=hbx.rules
   have b5:=hbx.owns
   have b6:=hbx.routes
   (try (conv=>whnf));repeat' (first|refine Ok.seq ?_|((first|refine Ok.region tok ?_|refine Ok.cond ?_);conv=>whnf)|refine Ok.block ?_|((first|refine Ok.skip ?_|refine nI ?_|refine ix _ (by assumption) ?_);conv=>whnf)|(refine bI ?_ ?_<;>intro<;>(conv=>whnf)<;>(try (exfalso;omega)))|fail)
   refine⟨k+1,by omega,by omega,?_⟩
   unfold nPorts nLines nRules nRoutes
   rw[sum_take hbb,sum_take hbb,sum_take hbb,sum_take hbb]
   (conv=>whnf);simp[envCat,Box.b];try omega
 obtain rfl:k=c.boxes.l.length:=by omega
 have hta:c.b.boxes.take c.boxes.l.length=c.b.boxes:=List.take_of_length_le (by simp[Config.b])
 rw[hta] at p1 p2 p3 p4 ⊢
 (conv=>whnf)
 (try (conv=>whnf));repeat' (first|refine Ok.seq ?_|((first|refine Ok.region tok ?_|refine Ok.cond ?_);conv=>whnf)|refine Ok.block ?_|(refine Ok.exit ?_;conv=>whnf)|(refine bI ?_ ?_<;>intro<;>(conv=>whnf)<;>(try (exfalso;omega)))|fail)
 refine Ok.loopU [68,69] [70] 1 1 (fun (k:Nat)=>[.i .i64 (k:Nat)]) (fun (k:Nat) (_:List (List D))=>[c.row]) (fun (k:Nat) (_:Vx.Rows)=>[some (234,(cntL c.b).map cntRow)]) (fun (k:Nat)=>k<=7/\countO c.b=firstE cntE ((cntL c.b).take k) ((cntL c.b).drop k)) (fun (k:Nat)=>7 - k) (0) (⟨Nat.zero_le _,rfl⟩) ?_;(conv=>whnf);refine⟨by ((conv=>whnf);first|rfl|(simp[envCat, List.take_of_length_le, SI.row, Node.row, Pfx.row, Link.row, srow, Line.row, Rule.row, Box.row, Slc.row, Config.row, cntRow, cntL, Config.b];done)|(simp[envCat, List.take_of_length_le, SI.row, Node.row, Pfx.row, Link.row, srow, Line.row, Rule.row, Box.row, Slc.row, Config.row, cntRow, cntL, Config.b];rw[IntKind.wrap_i64];omega)),?_⟩
 rintro k ⟨hk7,hfe⟩
 (conv=>whnf)
 have hcl:(cntL c.b).length=7:=rfl
 by_cases hkl:k<7
 . obtain⟨x,hx⟩:∃ x,(cntL c.b)[k]? = some x:=⟨_,List.getElem?_eq_getElem (by omega)⟩
   have hxr:((cntL c.b).map cntRow)[k]? = some (cntRow x):=by simp[hx]
   (try (conv=>whnf));repeat' (first|refine Ok.seq ?_|((first|refine Ok.region tok ?_|refine Ok.region_draw tok follows (by kernel_rfl) ?_|refine Ok.cond ?_);conv=>whnf)|refine Ok.block ?_|((first|refine Ok.skip ?_|refine Ok.ret ?_|refine nI ?_|refine rd rfl (by assumption) ?_);conv=>whnf)|(refine bI ?_ ?_<;>intro<;>(conv=>whnf)<;>(try (exfalso;omega)))|(refine aJ ?_;conv=>whnf)|fail)
   . refine Or.inl ?_;(conv=>whnf)
     rw[hfe,firstE_bad hx (by rw[cntE_bad (by omega)];simp),cntE_bad (by omega)]
     rfl
   . refine⟨k+1,by omega,⟨by omega,by rw[hfe,firstE_ok hx (by rw[cntE_ok (by omega)])]⟩,?_⟩
     (conv=>whnf)
     rfl
 obtain rfl:k=7:=by omega
 rw[firstE_nil (by rw[hcl];omega)] at hfe
 (try (conv=>whnf));repeat' (first|refine Ok.seq ?_|((first|refine Ok.region tok ?_|refine Ok.cond ?_|refine Ok.exit ?_|refine Ok.ret ?_);conv=>whnf)|(refine bI ?_ ?_<;>intro<;>(conv=>whnf)<;>(try (exfalso;omega)))|fail)
 refine Or.inl ?_;(conv=>whnf)
 rw[hfe]
 rfl
end Go.Proofs.YtcglkonooeddfaaGreatDoor
namespace Go.Proofs.YtcglkonooeddfaaGreatDoor
open Go Go.Vx
set_option maxHeartbeats 4000000 in
theorem mfind_at(l:List Fd)(r:List (List D))(nm:Str)(hl:l.length<=2000000):FSpec Tryz.prog T 137 [.lst 127 (l.map frow) r,.s nm] (fun d _=>d = .i .i64 (findI nm l 0)):=by
 have h1:(l.map frow).length=l.length:=by simp
 refine FSpec.of_ok tok Tryz.func137 rfl Tryz.call137 (by simp) ?_
 (try (conv=>whnf));repeat' (first|refine Ok.seq ?_|(refine Ok.region tok ?_;conv=>whnf)|refine Ok.block ?_|fail)
 refine Ok.loopU [1,7,8] [9] 0 0 (fun (i:Nat)=>[.i .i64 (i:Nat)]) (fun _ b=>b) (fun _ r=>r) (fun (i:Nat)=>i<=l.length/\findI nm l 0=findI nm (l.drop i) i) (fun (i:Nat)=>l.length - i) (0) (⟨Nat.zero_le _,rfl⟩) ?_;(conv=>whnf);refine⟨by ((conv=>whnf);first|rfl|(simp[envCat, List.take_of_length_le, SI.row, Node.row, Pfx.row, Link.row, srow, Line.row, Rule.row, Box.row, Slc.row, Config.row, nrow, frow];done)|(simp[envCat, List.take_of_length_le, SI.row, Node.row, Pfx.row, Link.row, srow, Line.row, Rule.row, Box.row, Slc.row, Config.row, nrow, frow];rw[IntKind.wrap_i64];omega)),?_⟩
 rintro i ⟨hi,hf⟩
 (conv=>whnf)
 by_cases hil:i<l.length
 . obtain⟨c,hc⟩:∃ c,l[i]? = some c:=⟨_,List.getElem?_eq_getElem hil⟩
   have hcI:l[((i:Nat):Int).toNat]? = some c:=hc
   rw[fdrop_at hc] at hf
   (try (conv=>whnf));repeat' (first|refine Ok.seq ?_|((first|refine Ok.region tok ?_|refine Ok.cond ?_);conv=>whnf)|refine Ok.block ?_|((first|refine Ok.skip ?_|refine Ok.ret ?_|refine nI ?_|refine ix _ (by assumption) ?_);conv=>whnf)|(refine bI ?_ ?_<;>intro<;>(conv=>whnf)<;>(try (exfalso;omega)))|fail)
   all_goals first
    | (exfalso;omega)
    | (rename_i h
       refine Or.inl ?_;(conv=>whnf)
       rw[hf]
       unfold findI
       rw[if_pos h]
       rfl)
    | (rename_i h
       refine⟨i+1,by omega,⟨by omega,?_⟩,?_⟩
       . rw[hf]
         conv=>lhs;unfold findI
         rw[if_neg h]
       . (conv=>whnf)
         rfl)
 . have hie:i=l.length:=by omega
   subst hie
   rw[List.drop_length] at hf
   (try (conv=>whnf));repeat' (first|refine Ok.seq ?_|((first|refine Ok.region tok ?_|refine Ok.cond ?_|refine Ok.exit ?_|refine Ok.ret ?_);conv=>whnf)|(refine bI ?_ ?_<;>intro<;>(conv=>whnf)<;>(try (exfalso;omega)))|fail)
   all_goals first
    | (exfalso;omega)
    | (refine Or.inl ?_;(conv=>whnf)
       rw[hf]
       rfl)
theorem chkFrom_cases(all:List Fd):∀ (r:List Fd) (i:Nat) (sum:Int),chkFrom all r i sum=(0,0)\/∃ j:Nat,chkFrom all r i sum=(40,(j:Int))/\i<=j/\j<i+r.length
 | [],_,_=>.inl rfl
 | f :: r,i,sum=>by
  by_cases h:badF (all.take i) f sum
  . exact .inr ⟨i,chkFrom_bad h,Nat.le_refl _,by simp⟩
  . rw[chkFrom_ok h]
    rcases chkFrom_cases all r (i+1) (sum+f.bits) with h|⟨j,h,h1,h2⟩
    . exact .inl h
    . exact .inr ⟨j,h,by omega,by simp;omega⟩
theorem chkO_cases(l:List Fd):(chkO l=(2,0)/\12<l.length)\/(chkO l=(40,0)/\l=[])\/(l ≠ []/\l.length<=12/\(chkO l=(0,0)\/∃ j:Nat,chkO l=(40,(j:Int))/\j<l.length)):=by
 by_cases h1:12<l.length
 . exact .inl ⟨chkO_long h1,h1⟩
 by_cases h2:l=[]
 . exact .inr (.inl ⟨chkO_nil (by rw[h2];rfl),h2⟩)
 refine .inr (.inr ⟨h2,by omega,?_⟩)
 rw[chkO_of h1 (fun e=>h2 (List.eq_nil_of_length_eq_zero e))]
 rcases chkFrom_cases l l 0 0 with h|⟨j,h,h3,h4⟩
 . exact .inl h
 . exact .inr ⟨j,h,by omega⟩
theorem fds_len(l:List SI):(fds l).length=l.length:=by simp[fds]
theorem fds_nil(l:List SI):fds l=[] ↔ l=[]:=by simp[fds]
theorem resvE_bad{pre:List SI}{f:SI}(h:Rsv f.s):resvE pre f=(70,f.s):=if_pos h
theorem resvE_ok{pre:List SI}{f:SI}(h:¬ Rsv f.s):resvE pre f=(0,[]):=if_neg h
noncomputable def knownE(c:ConfigB):Er:=by classical exact if (c.routing ≠ []/\¬ ∃ f ∈ c.fields,f.s=c.routing)\/(c.slim/\c.routing=[]) then (73,c.routing) else (0,[])
theorem headO_long{c:ConfigB}(h:256<c.title.length):headO c=(71,[110,101,116,119,111,114,107]):=by unfold headO;rw[if_pos h]
theorem headO_lay{c:ConfigB}(h:¬ 256<c.title.length)(h2:(chkO (fds c.fields)).1=2\/c.fields=[]):headO c=(70,[]):=by unfold headO;rw[if_neg h,if_pos h2]
theorem headO_fld{c:ConfigB}(h:¬ 256<c.title.length){j:Nat}{f:SI}(h2:chkO (fds c.fields)=(40,(j:Int)))(hj:c.fields[j]? = some f):headO c=(70,f.s):=by
 unfold headO
 rw[if_neg h,h2,if_neg (fun g=>g.elim (fun h=>absurd h (by simp)) fun h=>by rw[h] at hj;cases hj),if_pos (by simp)]
 simp[hj]
theorem headO_ok{c:ConfigB}(h:¬ 256<c.title.length)(h2:chkO (fds c.fields)=(0,0))(h3:c.fields ≠ []):headO c=orE (firstE resvE [] c.fields) (knownE c):=by
 unfold headO knownE
 rw[if_neg h,h2,if_neg (fun g=>g.elim (fun h=>absurd h (by simp)) h3),if_neg (by simp)]
theorem knownE_bad{c:ConfigB}(h:(c.routing ≠ []/\¬ ∃ f ∈ c.fields,f.s=c.routing)\/(c.slim/\c.routing=[])):knownE c=(73,c.routing):=if_pos h
theorem knownE_ok{c:ConfigB}(h:¬ ((c.routing ≠ []/\¬ ∃ f ∈ c.fields,f.s=c.routing)\/(c.slim/\c.routing=[]))):knownE c=(0,[]):=if_neg h
theorem findI_fds(nm:Str)(l:List SI):findI nm (fds l) 0<0 ↔ ¬ ∃ f ∈ l,f.s=nm:=by
 have h:=(findI_ge nm (fds l) 0).1
 rw[<- Int.not_le,h]
 apply not_congr
 constructor
 . rintro⟨f,hf,e⟩
   obtain⟨x,hx,rfl⟩:=List.mem_map.1 hf
   exact⟨x,hx,e⟩
 . rintro⟨x,hx,e⟩
   exact⟨_,List.mem_map.2 ⟨x,hx,rfl⟩,e⟩
set_option maxRecDepth 100000 in
set_option maxHeartbeats 8000000 in
theorem mhead_at(c:Config)(hf:c.fields.l.length<=1048576):FSpec Tryz.prog T 74 [.agg c.row] (fun d _=>d = .tup [.i .i64 (headO c.b).1,.s (headO c.b).2]):=by
 have hfl:(c.fields.l.map SI.row).length=c.fields.l.length:=by simp
 have hrc:=check_at (fds c.fields.l) c.fields.room (by rw[fds_len];omega)
 have hfd:=mfind_at (fds c.fields.l) c.fields.room c.routing (by rw[fds_len];omega)
 rw[fds_row] at hrc hfd
 refine FSpec.of_ok tok Tryz.func74 rfl Tryz.call74 (by simp) ?_
 by_cases ht:256<c.title.length
 . (try (conv=>whnf));repeat' (first|refine Ok.seq ?_|((first|refine Ok.region tok ?_|refine Ok.cond ?_|refine Ok.ret ?_);conv=>whnf)|(refine bI ?_ ?_<;>intro<;>(conv=>whnf)<;>(try (exfalso;omega)))|fail)
   all_goals first
    | (exfalso;omega)
    | (refine Or.inl ?_;(conv=>whnf)
       rw[headO_long (c:=c.b) ht]
       rfl)
 rcases chkO_cases (fds c.fields.l) with⟨h,h2⟩|⟨h,h2⟩|⟨h1,h2,h|⟨j,h,hj⟩⟩
 . rw[h] at hrc
   dsimp only at hrc
   rw[headO_lay (c:=c.b) ht (.inl (by show (chkO (fds c.fields.l)).1=2;rw[h]))]
   (try (conv=>whnf));repeat' (first|refine Ok.seq ?_|((first|refine Ok.region tok ?_|refine Ok.cond ?_|refine Ok.skip ?_|refine Ok.ret ?_);conv=>whnf)|(refine Or.inl ?_;(conv=>whnf);(repeat (refine aI ?_;conv=>whnf));refine⟨_,hrc,rfl,?_⟩;conv=>whnf)|(refine bI ?_ ?_<;>intro<;>(conv=>whnf)<;>(try (exfalso;omega)))|fail)
   all_goals first
    | (exfalso;omega)
    | (refine Or.inl ?_;(conv=>whnf)
       rfl)
 . rw[h] at hrc
   dsimp only at hrc
   have h3:=(fds_nil _).1 h2
   have h4:c.fields.l.length=0:=by rw[h3];rfl
   rw[headO_lay (c:=c.b) ht (.inr h3)]
   (try (conv=>whnf));repeat' (first|refine Ok.seq ?_|((first|refine Ok.region tok ?_|refine Ok.cond ?_|refine Ok.skip ?_|refine Ok.ret ?_);conv=>whnf)|(refine Or.inl ?_;(conv=>whnf);(repeat (refine aI ?_;conv=>whnf));refine⟨_,hrc,rfl,?_⟩;conv=>whnf)|(refine bI ?_ ?_<;>intro<;>(conv=>whnf)<;>(try (exfalso;omega)))|fail)
   all_goals first
    | (exfalso;omega)
    | (refine Or.inl ?_;(conv=>whnf)
       rfl)
 . rw[h] at hrc
   dsimp only at hrc
   rw[fds_len] at h2
   have h3:c.fields.l ≠ []:=fun e=>h1 ((fds_nil _).2 e)
   have h4:c.fields.l.length ≠ 0:=fun e=>h3 (List.eq_nil_of_length_eq_zero e)
   rw[headO_ok (c:=c.b) ht h h3]
   (try (conv=>whnf));repeat' (first|refine Ok.seq ?_|((first|refine Ok.region tok ?_|refine Ok.cond ?_);conv=>whnf)|refine Ok.block ?_|(refine Ok.skip ?_;conv=>whnf)|(refine Or.inl ?_;(conv=>whnf);(repeat (refine aI ?_;conv=>whnf));refine⟨_,hrc,rfl,?_⟩;conv=>whnf)|(refine bI ?_ ?_<;>intro<;>(conv=>whnf)<;>(try (exfalso;omega)))|fail)
   all_goals first
    | (exfalso;omega)
    | skip
   refine Ok.loopU [1,35,36] [37] 0 1 (fun (i:Nat)=>[.i .i64 (i:Nat)]) (fun (i:Nat) (_:List (List D))=>[c.row]) (fun _ r=>r) (fun (i:Nat)=>i<=c.fields.l.length/\firstE resvE [] c.b.fields=firstE resvE (c.fields.l.take i) (c.fields.l.drop i)) (fun (i:Nat)=>c.fields.l.length - i) (0) (⟨Nat.zero_le _,rfl⟩) ?_;(conv=>whnf);refine⟨by ((conv=>whnf);first|rfl|(simp[envCat, List.take_of_length_le, SI.row, Node.row, Pfx.row, Link.row, srow, Line.row, Rule.row, Box.row, Slc.row, Config.row, nrow, frow];done)|(simp[envCat, List.take_of_length_le, SI.row, Node.row, Pfx.row, Link.row, srow, Line.row, Rule.row, Box.row, Slc.row, Config.row, nrow, frow];rw[IntKind.wrap_i64];omega)),?_⟩
   rintro i ⟨hi,hfe⟩
   (conv=>whnf)
   by_cases hil:i<c.fields.l.length
   . obtain⟨f,hfi⟩:∃ f,c.fields.l[i]? = some f:=⟨_,List.getElem?_eq_getElem hil⟩
     have hfI:c.fields.l[((i:Nat):Int).toNat]? = some f:=hfi
     (try (conv=>whnf));repeat' (first|refine Ok.seq ?_|((first|refine Ok.region tok ?_|refine Ok.region_draw tok follows (by kernel_rfl) ?_|refine Ok.cond ?_);conv=>whnf)|refine Ok.block ?_|((first|refine Ok.skip ?_|refine Ok.ret ?_|refine nI ?_|refine ix _ (by assumption) ?_);conv=>whnf)|(refine Or.inl ?_;(conv=>whnf);(repeat (refine aI ?_;conv=>whnf));refine⟨_,mresv_at f.s,rfl,?_⟩;conv=>whnf)|(refine bI ?_ ?_<;>intro<;>(conv=>whnf)<;>(try (exfalso;omega)))|fail)
     . rename_i hr
       refine Or.inl ?_;(conv=>whnf)
       rw[hfe,firstE_bad hfi (by rw[resvE_bad hr];simp),resvE_bad hr,orE_l _ (by simp)]
       rfl
     . rename_i hr
       rw[firstE_ok hfi (by rw[resvE_ok hr])] at hfe
       refine⟨i+1,by omega,⟨by omega,hfe⟩,?_⟩
       (conv=>whnf)
       rfl
   . obtain rfl:i=c.fields.l.length:=by omega
     rw[List.drop_length,List.take_length] at hfe
     rw[hfe,orE_r _ rfl]
     have hfn:=findI_fds c.routing c.fields.l
     have hkb:((c.routing ≠ []/\findI c.routing (fds c.fields.l) 0<0)\/(c.routing=[]/\c.slim)) ↔ ((c.b.routing ≠ []/\¬ ∃ f ∈ c.b.fields,f.s=c.b.routing)\/(c.b.slim/\c.b.routing=[])):=by
      rw[hfn,and_comm (a:=c.routing=[])]
      rfl
     (try (conv=>whnf));repeat' (first|refine Ok.seq ?_|((first|refine Ok.region tok ?_|refine Ok.region_draw tok follows (by kernel_rfl) ?_|refine Ok.cond ?_|refine Ok.skip ?_|refine Ok.exit ?_|refine Ok.ret ?_);conv=>whnf)|(refine Or.inl ?_;(conv=>whnf);(repeat (refine aI ?_;conv=>whnf));refine⟨_,hfd,rfl,?_⟩;conv=>whnf)|(refine bI ?_ ?_<;>intro<;>(conv=>whnf)<;>(try (exfalso;omega)))|fail)
     all_goals
      refine Or.inl ?_;(conv=>whnf)
      first
       | (rw[knownE_bad (hkb.1 (.inl ⟨by assumption,by assumption⟩))];rfl)
       | (rw[knownE_bad (hkb.1 (.inr ⟨by assumption,by assumption⟩))];rfl)
       | (rw[knownE_ok fun g=>by
            rcases hkb.2 g with⟨a,b⟩|⟨a,b⟩<;>first|exact absurd a (by assumption)|exact absurd b (by assumption)|exact absurd (by assumption) a|exact absurd (by assumption) b]
          rfl)
 . rw[h] at hrc
   dsimp only at hrc
   rw[fds_len] at hj
   obtain⟨f,hfi⟩:∃ f,c.fields.l[j]? = some f:=⟨_,List.getElem?_eq_getElem hj⟩
   rw[headO_fld (c:=c.b) ht h hfi]
   have h4:c.fields.l.length ≠ 0:=by omega
   (try (conv=>whnf));repeat' (first|refine Ok.seq ?_|((first|refine Ok.region tok ?_|refine Ok.region_draw tok follows (by kernel_rfl) ?_|refine Ok.cond ?_|refine Ok.skip ?_|refine Ok.ret ?_|refine ix _ (by assumption) ?_);conv=>whnf)|(refine Or.inl ?_;(conv=>whnf);(repeat (refine aI ?_;conv=>whnf));refine⟨_,hrc,rfl,?_⟩;conv=>whnf)|(refine bI ?_ ?_<;>intro<;>(conv=>whnf)<;>(try (exfalso;omega)))|fail)
   all_goals first
    | (exfalso;omega)
    | (refine Or.inl ?_;(conv=>whnf)
       rfl)
end Go.Proofs.YtcglkonooeddfaaGreatDoor
namespace Go.Proofs.YtcglkonooeddfaaGreatDoor
open Go Go.Vx
structure HeadOk(c:ConfigB):Prop where
 chk:chkO (fds c.fields)=(0,0)
 known:c.routing ≠ []->∃ f ∈ c.fields,f.s=c.routing
theorem head_ok{c:ConfigB}(h:(headO c).1=0):HeadOk c:=by
 by_cases ht:256<c.title.length
 . rw[headO_long ht] at h;cases h
 rcases chkO_cases (fds c.fields) with⟨e,h2⟩|⟨e,h2⟩|⟨h1,h2,e|⟨j,e,hj⟩⟩
 . rw[headO_lay ht (.inl (by rw[e]))] at h;cases h
 . rw[headO_lay ht (.inr ((fds_nil _).1 h2))] at h;cases h
 . rw[headO_ok ht e (fun g=>h1 ((fds_nil _).2 g))] at h
   refine⟨e,fun hr=>Classical.byContradiction fun hn=>?_⟩
   by_cases h0:(firstE resvE [] c.fields).1=0
   . rw[orE_r _ h0,knownE_bad (.inl ⟨hr,hn⟩)] at h;cases h
   . rw[orE_l _ h0] at h;exact h0 h
 . rw[fds_len] at hj
   rw[headO_fld ht e (List.getElem?_eq_getElem hj)] at h;cases h
theorem nds_ok{l:List Node}(h:∀ x ∈ l,x.Tx):TxtOk (nds l):=fun c hc=>by
 obtain⟨x,hx,rfl⟩:=List.mem_map.1 hc
 have h1:=(h x hx).field
 have h2:=(h x hx).pat
 unfold SOk at h1 h2
 exact⟨by show x.field.length<=_;omega,by show x.pat.length<=_;omega⟩
theorem sidesI_one(s:Str)(w o:List Str):sidesI [s] w o=(sideE w o [] s).1:=by
 unfold sidesI firstE
 by_cases h:(sideE w o [] s).1 ≠ 0
 . rw[if_pos h]
 . rw[if_neg h]
   exact (Classical.not_not.1 h).symm
set_option maxRecDepth 100000 in
theorem right_at(cf:Config)(hf:cf.fields.l.length<=1048576)(b:Box)(g:Nat)(l:List Node){rl r:List (List D)}(h:rl=l.map Node.row)(hl:l.length<=1048576)(htx:∀ x ∈ l,x.Tx) :
    FSpec Tryz.prog T 191 [deskD (.ep cf.row) b g,.lst 219 rl r] (fun d _=>d = .b (chkE (fds cf.fields.l) (nds l)=0)):=by
 subst h
 have hc:=pcheck_at (fds cf.fields.l) cf.fields.room (nds l) r (by rw[fds_len];omega) (by simp[nds];omega) (nds_ok htx)
 rw[fds_row,nds_row] at hc
 refine FSpec.of_ok tok Tryz.func191 rfl Tryz.call191 (by simp) ?_
 (try (conv=>whnf));repeat' (first|refine Ok.seq ?_|((first|refine Ok.region tok ?_|refine Ok.ret ?_);conv=>whnf)|(refine Or.inl ?_;(conv=>whnf);(repeat (refine aI ?_;conv=>whnf));refine⟨_,hc,rfl,?_⟩;conv=>whnf)|fail)
 refine Or.inl ?_;(conv=>whnf)
 rfl
theorem findI_at{nm:Str}{l:List Fd}(h:∃ f ∈ l,f.name=nm):∃ (k:Nat) (f:Fd),findI nm l 0=(k:Int)/\l[k]? = some f/\f.name=nm/\∀ (j:Nat) x,j<k->l[j]? = some x->x.name ≠ nm:=by
 have key:∀ (l:List Fd) (i:Nat),(∃ f ∈ l,f.name=nm)->∃ (k:Nat) (f:Fd),findI nm l i=((k+i:Nat):Int)/\l[k]? = some f/\f.name=nm/\∀ (j:Nat) x,j<k->l[j]? = some x->x.name ≠ nm:=by
  intro l
  induction l with
  | nil=>rintro i ⟨f,hf,_⟩;cases hf
  | cons y l ih=>
   rintro i ⟨f,hf,e⟩
   by_cases hy:y.name=nm
   . exact⟨0,y,by unfold findI;rw[if_pos hy];simp,rfl,hy,fun j x hj=>absurd hj (by omega)⟩
   . have hm:∃ f ∈ l,f.name=nm:=by
       rcases List.mem_cons.1 hf with rfl|hf
       . exact absurd e hy
       . exact⟨f,hf,e⟩
     obtain⟨k,x,h1,h2,h3,h4⟩:=ih (i+1) hm
     refine⟨k+1,x,?_,by simpa using h2,h3,fun j z hj hz=>?_⟩
     . unfold findI
       rw[if_neg hy,h1]
       congr 1
       omega
     . cases j with
       | zero=>simp at hz;subst hz;exact hy
       | succ j=>exact h4 j z (by omega) (by simpa using hz)
 obtain⟨k,f,h1,h2⟩:=key l 0 h
 exact⟨k,f,by simpa using h1,h2⟩
theorem rbits_at{c:ConfigB}(hh:HeadOk c)(hr:c.routing ≠ []):∃ (k:Nat) (f:SI),findI c.routing (fds c.fields) 0=(k:Int)/\c.fields[k]? = some f/\f.s=c.routing/\rbits c=f.n/\1<=f.n/\f.n<=32/\∀ (j:Nat) x,j<k->c.fields[j]? = some x->x.s ≠ c.routing:=by
 obtain⟨f0,hf0,e0⟩:=hh.known hr
 obtain⟨k,f,h1,h2,h3,h4⟩:=findI_at (nm:=c.routing) (l:=fds c.fields) ⟨f0.fd,List.mem_map.2 ⟨f0,hf0,rfl⟩,e0⟩
 have hlay:=(chk_lay (l:=fds c.fields) (by rw[hh.chk])).1 f (List.mem_of_getElem? h2)
 have h2':=h2
 simp only[fds,List.getElem?_map,Option.map_eq_some_iff] at h2
 obtain⟨y,hy,rfl⟩:=h2
 refine⟨k,y,h1,hy,h3,?_,hlay.1,hlay.2,fun j x hj hx=>h4 j x.fd hj (by simp[fds,hx])⟩
 unfold rbits
 rw[if_neg hr,h1,if_neg (by omega)]
 simp only[Int.toNat_natCast,h2',Option.getD_some]
 rfl
end Go.Proofs.YtcglkonooeddfaaGreatDoor
namespace Go.Proofs.YtcglkonooeddfaaGreatDoor
open Go Go.Vx
section
variable {c : ConfigB} {b : BoxB} {pre : List Pfx} {p : Pfx}
theorem prefI_bad(h:rbits c=0\/p.len<0\/rbits c<p.len\/p.value<0\/(tw (rbits c).toNat:Int)<=p.value):prefI c b pre p=78:=if_pos h
theorem prefI_mod(h:¬ (rbits c=0\/p.len<0\/rbits c<p.len\/p.value<0\/(tw (rbits c).toNat:Int)<=p.value))(h2:p.value % (tw (rbits c - p.len).toNat:Int) ≠ 0):prefI c b pre p=78:=by unfold prefI;rw[if_neg h,if_pos h2]
theorem prefI_dup(h:¬ (rbits c=0\/p.len<0\/rbits c<p.len\/p.value<0\/(tw (rbits c).toNat:Int)<=p.value))(h2:¬ p.value % (tw (rbits c - p.len).toNat:Int) ≠ 0)(h3:∃ q ∈ pre,q.value=p.value/\q.len=p.len):prefI c b pre p=78:=by
 unfold prefI;rw[if_neg h,if_neg h2,if_pos h3]
theorem prefI_ok(h:¬ (rbits c=0\/p.len<0\/rbits c<p.len\/p.value<0\/(tw (rbits c).toNat:Int)<=p.value))(h2:¬ p.value % (tw (rbits c - p.len).toNat:Int) ≠ 0)(h3:¬ ∃ q ∈ pre,q.value=p.value/\q.len=p.len):prefI c b pre p=sidesI [p.dst] b.outs b.ins:=by
 unfold prefI;rw[if_neg h,if_neg h2,if_neg h3]
end
theorem sideV_ff(b:BoxB)(s:Str):sideV b False s=sidesI [s] b.outs b.ins:=by
 unfold sideV
 rw[sidesI_one,wantL_ff,wantL_y (fun h=>h.elim:¬ False)]
set_option maxRecDepth 100000 in
set_option maxHeartbeats 8000000 in
theorem mprefix_at(cf:Config)(hh:HeadOk cf.b)(b:Box)(g:Nat)(l:List (Str × Int × Nat))(ck:Nat)(hl:PMap l (b.ins.l++b.outs.l))(pre:List Pfx)(p:Pfx){rl r:List (List D)}(hr:rl=pre.map Pfx.row)(hpl:pre.length<=1048576) :
    FSpecH Tryz.prog T (deskH g l ck) 194 [deskD (.ep cf.row) b g,.agg p.row,.lst 246 rl r] (fun d rows M=>(d = .i .i64 (prefI cf.b b.b pre p)/\rows=[])/\M=[]):=by
 subst hr
 have hpr:(pre.map Pfx.row).length=pre.length:=by simp
 refine FSpecH.of_ok0 tok Tryz.func194 rfl Tryz.call194 (by simp) ?_
 by_cases hr0:cf.routing=[]
 . have hb0:rbits cf.b=0:=if_pos hr0
   (try (conv=>whnf));repeat' (first|refine OkM.seq ?_|((first|refine OkM.region tok ?_|refine OkM.of_ok (Ok.region_draw tok follows (by kernel_rfl) ?_)|refine OkM.cond ?_|refine OkM.skip ?_|refine OkM.ret ?_);conv=>whnf)|(refine bI ?_ ?_<;>intro<;>(conv=>whnf)<;>(try (exfalso;omega)))|fail)
   all_goals first
    | (exact absurd hr0 (by assumption))
    | (refine Or.inl ?_;(conv=>whnf)
       exact⟨by rw[prefI_bad (.inl hb0)];rfl,rfl⟩)
 obtain⟨k,f,hfi,hfk,hfs,hrb,hn1,hn2,hfirst⟩:=rbits_at hh hr0
 have hfl:=chk_lay (l:=fds cf.fields.l) (by rw[show chkO (fds cf.fields.l)=_ from hh.chk])
 have hfd:=mfind_at (fds cf.fields.l) cf.fields.room cf.routing (by have:=hfl.2;omega)
 rw[fds_row,show findI cf.routing (fds cf.fields.l) 0=_ from hfi] at hfd
 have hfkI:(cf.fields.l.map SI.row)[k]? = some f.row:=by simp[show cf.fields.l[k]? = _ from hfk]
 obtain⟨K,hK⟩:∃ K:Nat,f.n=K:=⟨f.n.toNat,by omega⟩
 have hsh1:f.n=(K:Int)/\K<=62:=⟨hK,by omega⟩
 have hKt:(rbits cf.b).toNat=K:=by rw[hrb];omega
 have htw:(0:Int)<tw K:=by have:=tw_pos K;omega
 by_cases hA:p.len<0\/f.n<p.len\/p.value<0\/(tw K:Int)<=p.value
 . have hbad:prefI cf.b b.b pre p=78:=prefI_bad (.inr (by rw[hKt,hrb];exact hA))
   rw[hbad]
   (try (conv=>whnf));repeat' (first|((with_reducible_and_instances refine shl_i (by assumption) ?_);conv=>whnf)|refine OkM.seq ?_|((first|refine OkM.region tok ?_|refine OkM.of_ok (Ok.region_draw tok follows (by kernel_rfl) ?_)|refine OkM.cond ?_|refine OkM.skip ?_|refine OkM.ret ?_|refine ix _ (by assumption) ?_|refine⟨_,by assumption,?_⟩);conv=>whnf)|(refine bI ?_ ?_<;>intro<;>(conv=>whnf)<;>(try (exfalso;omega)))|(refine aJ ?_;conv=>whnf)|fail)
   all_goals first
    | (exact absurd (by assumption) hr0)
    | (exfalso;omega)
    | (refine Or.inl ?_;(conv=>whnf)
       exact⟨rfl,rfl⟩)
 have hA':¬ (rbits cf.b=0\/p.len<0\/rbits cf.b<p.len\/p.value<0\/(tw (rbits cf.b).toNat:Int)<=p.value):=by
  rw[hKt,hrb]
  rintro (h|h)
  . omega
  . exact hA h
 obtain⟨K2,hK2⟩:∃ K2:Nat,f.n - p.len=K2:=⟨(f.n - p.len).toNat,by omega⟩
 have hsh2:f.n - p.len=(K2:Int)/\K2<=62:=⟨hK2,by omega⟩
 have hK2t:(rbits cf.b - p.len).toNat=K2:=by rw[hrb];omega
 have htw2:(0:Int)<tw K2:=by have:=tw_pos K2;omega
 (try (conv=>whnf));repeat' (first|((with_reducible_and_instances refine shl_i (by assumption) ?_);conv=>whnf)|refine OkM.seq ?_|((first|refine OkM.region tok ?_|refine OkM.of_ok (Ok.region_draw tok follows (by kernel_rfl) ?_)|refine OkM.cond ?_);conv=>whnf)|refine OkM.block ?_|((first|refine OkM.skip ?_|refine OkM.ret ?_|refine nI ?_|refine ix _ (by assumption) ?_|refine⟨_,by assumption,?_⟩);conv=>whnf)|(refine bI ?_ ?_<;>intro<;>(conv=>whnf)<;>(try (exfalso;omega)))|((first|refine aJ ?_|refine num_any ?_);conv=>whnf)|fail)
 all_goals first
  | (exact absurd (by assumption) hr0)
  | (exfalso;omega)
  | skip
 . rename_i hm
   rw[Int.tmod_eq_emod_of_nonneg (by omega)] at hm
   refine Or.inl ?_;(conv=>whnf)
   exact⟨by rw[prefI_mod hA' (by rw[hK2t];exact hm)];rfl,rfl⟩
 rename_i hm
 have hm:¬ p.value % (tw (rbits cf.b - p.len).toNat:Int) ≠ 0:=by
  rw[hK2t,<- Int.tmod_eq_emod_of_nonneg (by omega)]
  exact hm
 refine OkM.loopU [3,4,67,68] [69] 0 2 (fun (k:Nat)=>[.i .i64 (k:Nat)]) (fun _ b=>b) (fun _ r=>r) (fun (k:Nat)=>[]) (fun (k:Nat)=>k<=pre.length/\∀ (j:Nat) q,j<k->pre[j]? = some q->¬ (q.value=p.value/\q.len=p.len)) (fun (k:Nat)=>pre.length - k) (0) (⟨Nat.zero_le _,fun j q hj=>absurd hj (by omega)⟩) (by first|exact .refl _|exact .cons _ (.refl _)|exact List.nil_sublist _) ?_;(conv=>whnf);refine⟨by ((conv=>whnf);first|rfl|(simp[envCat, List.take_of_length_le, SI.row, Node.row, Pfx.row, Link.row, srow, Line.row, Rule.row, Box.row, Slc.row, Config.row];done)|(simp[envCat, List.take_of_length_le, SI.row, Node.row, Pfx.row, Link.row, srow, Line.row, Rule.row, Box.row, Slc.row, Config.row];rw[IntKind.wrap_i64];omega)),?_⟩
 rintro k ⟨hk,hall⟩
 (conv=>whnf)
 by_cases hkl:k<pre.length
 . obtain⟨q,hq⟩:∃ q,pre[k]? = some q:=⟨_,List.getElem?_eq_getElem hkl⟩
   have hqI:pre[((k:Nat):Int).toNat]? = some q:=hq
   have next:¬ (q.value=p.value/\q.len=p.len)->∀ (j:Nat) x,j<k+1->pre[j]? = some x->¬ (x.value=p.value/\x.len=p.len):=fun hn j x hj hx=>by
    by_cases hjk:j=k
    . subst hjk;rw[hq] at hx;cases hx;exact hn
    . exact hall j x (by omega) hx
   (try (conv=>whnf));repeat' (first|refine OkM.seq ?_|((first|refine OkM.region tok ?_|refine OkM.cond ?_);conv=>whnf)|refine OkM.block ?_|((first|refine OkM.skip ?_|refine OkM.ret ?_|refine nI ?_|refine ix _ (by assumption) ?_);conv=>whnf)|(refine bI ?_ ?_<;>intro<;>(conv=>whnf)<;>(try (exfalso;omega)))|fail)
   all_goals first
    | (refine Or.inl ?_;(conv=>whnf)
       exact⟨by rw[prefI_dup hA' hm ⟨q,List.mem_of_getElem? hq,by assumption,by assumption⟩];rfl,rfl⟩)
    | (refine⟨k+1,by omega,⟨by omega,next fun h=>?_⟩,.refl _,?_⟩
       . first
           | exact absurd h.1 (by assumption)
           | exact absurd h.2 (by assumption)
       . (conv=>whnf)
         rfl)
 obtain rfl:k=pre.length:=by omega
 have hno:¬ ∃ q ∈ pre,q.value=p.value/\q.len=p.len:=by
  rintro⟨q,hq,h⟩
  obtain⟨j,hj⟩:=List.getElem?_of_mem hq
  exact hall j q (List.getElem?_eq_some_iff.1 hj).1 hj h
 (try (conv=>whnf));repeat' (first|(refine Or.inr (Or.inl ?_);(conv=>whnf);(repeat (refine aI ?_;conv=>whnf));refine⟨_,(side_at cf b g l ck hl p.dst False).more (fun x hx=>List.mem_append_left _ hx),?_⟩;rintro _ _ _ ⟨⟨rfl,rfl⟩,rfl⟩<;>(conv=>whnf))|refine OkM.seq ?_|((first|refine OkM.region tok ?_|refine OkM.cond ?_|refine OkM.exit ?_|refine OkM.ret ?_);conv=>whnf)|(refine bI ?_ ?_<;>intro<;>(conv=>whnf)<;>(try (exfalso;omega)))|fail)
 refine Or.inl ?_;(conv=>whnf)
 exact⟨by rw[prefI_ok hA' hm hno,<- sideV_ff];rfl,rfl⟩
end Go.Proofs.YtcglkonooeddfaaGreatDoor
namespace Go.Proofs.YtcglkonooeddfaaGreatDoor
open Go Go.Vx
section
variable {c : ConfigB} {b : BoxB} {pre : List RuleB} {r : RuleB}
theorem ruleI_range(h:r.prio<0\/65535<r.prio):ruleI c b pre r=76:=if_pos h
theorem ruleI_dup(h:¬ (r.prio<0\/65535<r.prio))(h2:∃ s ∈ pre,s.prio=r.prio):ruleI c b pre r=76:=by unfold ruleI;rw[if_neg h,if_pos h2]
theorem ruleI_from(h:¬ (r.prio<0\/65535<r.prio))(h2:¬ ∃ s ∈ pre,s.prio=r.prio)(h3:sidesI r.frm b.ins b.outs ≠ 0):ruleI c b pre r=sidesI r.frm b.ins b.outs:=by unfold ruleI;rw[if_neg h,if_neg h2,if_pos h3]
theorem ruleI_match(h:¬ (r.prio<0\/65535<r.prio))(h2:¬ ∃ s ∈ pre,s.prio=r.prio)(h3:¬ sidesI r.frm b.ins b.outs ≠ 0)(h4:chkE (fds c.fields) (nds r.mtch) ≠ 0):ruleI c b pre r=77:=by unfold ruleI;rw[if_neg h,if_neg h2,if_neg h3,if_pos h4]
theorem ruleI_sets(h:¬ (r.prio<0\/65535<r.prio))(h2:¬ ∃ s ∈ pre,s.prio=r.prio)(h3:¬ sidesI r.frm b.ins b.outs ≠ 0)(h4:¬ chkE (fds c.fields) (nds r.mtch) ≠ 0)(h5:wordI (fds c.fields) r.sets ≠ 0):ruleI c b pre r=79:=by
 unfold ruleI;rw[if_neg h,if_neg h2,if_neg h3,if_neg h4,if_pos h5]
theorem ruleI_outs(h:¬ (r.prio<0\/65535<r.prio))(h2:¬ ∃ s ∈ pre,s.prio=r.prio)(h3:¬ sidesI r.frm b.ins b.outs ≠ 0)(h4:¬ chkE (fds c.fields) (nds r.mtch) ≠ 0)(h5:¬ wordI (fds c.fields) r.sets ≠ 0)(h6:4<r.dst.length):ruleI c b pre r=71:=by
 unfold ruleI;rw[if_neg h,if_neg h2,if_neg h3,if_neg h4,if_neg h5,if_pos h6]
theorem ruleI_to(h:¬ (r.prio<0\/65535<r.prio))(h2:¬ ∃ s ∈ pre,s.prio=r.prio)(h3:¬ sidesI r.frm b.ins b.outs ≠ 0)(h4:¬ chkE (fds c.fields) (nds r.mtch) ≠ 0)(h5:¬ wordI (fds c.fields) r.sets ≠ 0)(h6:¬ 4<r.dst.length):ruleI c b pre r=sidesI r.dst b.outs b.ins:=by
 unfold ruleI;rw[if_neg h,if_neg h2,if_neg h3,if_neg h4,if_neg h5,if_neg h6]
end
def WordOk:Prop:=∀ (l:List Fd) (r:List (List D)) (S:List SI) (r2:List (List D)),(chkO l).1=0->S.length<=1048576 ->
 FSpec Tryz.prog T 257 [.lst 127 (l.map frow) r,.lst 243 (S.map SI.row) r2] (fun d rows=>(∃ w,d = .tup [.s w,.i .i64 (wordI l S)])/\rows=[])
set_option maxRecDepth 100000 in
set_option maxHeartbeats 8000000 in
theorem mrule_at(hW:WordOk)(cf:Config)(hf:cf.fields.l.length<=1048576)(hh:HeadOk cf.b)(b:Box)(g:Nat)(l:List (Str × Int × Nat))(ck:Nat)(hl:PMap l (b.ins.l++b.outs.l))(pre:List Rule)(r:Rule)(hro:r.Ok)(hrt:r.Tx){rl r0:List (List D)}(hr:rl=pre.map Rule.row)(hpl:pre.length<=1048576) :
    FSpecH Tryz.prog T (deskH g l ck) 192 [deskD (.ep cf.row) b g,.agg r.row,.lst 115 rl r0] (fun d rows M=>(d = .i .i64 (ruleI cf.b b.b (pre.map Rule.b) r.b)/\rows=[])/\M=[]):=by
 subst hr
 have hpr:(pre.map Rule.row).length=pre.length:=by simp
 have hto:(r.dst.l.map srow).length=r.dst.l.length:=by simp
 have hro1:=hro.frm
 have hro4:=hro.dst
 have hWs:=hW (fds cf.fields.l) cf.fields.room r.sets.l r.sets.room (by rw[show chkO (fds cf.fields.l)=_ from hh.chk]) hro.sets
 rw[fds_row] at hWs
 have hS1:=msides_at cf b g l ck hl r.frm.l (sl:=r.frm.room) rfl hro1 True
 have hS2:=msides_at cf b g l ck hl r.dst.l (sl:=r.dst.room) rfl hro4 False
 rw[wantL_tt,wantL_n (fun h=>h trivial:¬ ¬ True)] at hS1
 rw[wantL_ff,wantL_y (fun h=>h.elim:¬ False)] at hS2
 refine FSpecH.of_ok0 tok Tryz.func192 rfl Tryz.call192 (by simp) ?_
 by_cases hA:r.prio<0\/65535<r.prio
 . (try (conv=>whnf));repeat' (first|refine OkM.seq ?_|((first|refine OkM.region tok ?_|refine OkM.cond ?_|refine OkM.ret ?_);conv=>whnf)|(refine bI ?_ ?_<;>intro<;>(conv=>whnf)<;>(try (exfalso;omega)))|fail)
   all_goals first
    | (exfalso;omega)
    | (refine Or.inl ?_;(conv=>whnf)
       exact⟨by rw[ruleI_range (r:=r.b) hA];rfl,rfl⟩)
 (try (conv=>whnf));repeat' (first|refine OkM.seq ?_|((first|refine OkM.region tok ?_|refine OkM.cond ?_);conv=>whnf)|refine OkM.block ?_|(refine OkM.skip ?_;conv=>whnf)|(refine bI ?_ ?_<;>intro<;>(conv=>whnf)<;>(try (exfalso;omega)))|fail)
 all_goals first
  | (exfalso;omega)
  | skip
 refine OkM.loopU [3,4,20,21] [22] 0 2 (fun (k:Nat)=>[.i .i64 (k:Nat)]) (fun _ b=>b) (fun _ r=>r) (fun (k:Nat)=>[]) (fun (k:Nat)=>k<=pre.length/\∀ (j:Nat) q,j<k->pre[j]? = some q->q.prio ≠ r.prio) (fun (k:Nat)=>pre.length - k) (0) (⟨Nat.zero_le _,fun j q hj=>absurd hj (by omega)⟩) (by first|exact .refl _|exact .cons _ (.refl _)|exact List.nil_sublist _) ?_;(conv=>whnf);refine⟨by ((conv=>whnf);first|rfl|(simp[envCat, List.take_of_length_le, SI.row, Node.row, Pfx.row, Link.row, srow, Line.row, Rule.row, Box.row, Slc.row, Config.row];done)|(simp[envCat, List.take_of_length_le, SI.row, Node.row, Pfx.row, Link.row, srow, Line.row, Rule.row, Box.row, Slc.row, Config.row];rw[IntKind.wrap_i64];omega)),?_⟩
 rintro k ⟨hk,hall⟩
 (conv=>whnf)
 by_cases hkl:k<pre.length
 . obtain⟨q,hq⟩:∃ q,pre[k]? = some q:=⟨_,List.getElem?_eq_getElem hkl⟩
   have hqI:pre[((k:Nat):Int).toNat]? = some q:=hq
   (try (conv=>whnf));repeat' (first|refine OkM.seq ?_|((first|refine OkM.region tok ?_|refine OkM.cond ?_);conv=>whnf)|refine OkM.block ?_|((first|refine OkM.skip ?_|refine OkM.ret ?_|refine nI ?_|refine ix _ (by assumption) ?_);conv=>whnf)|(refine bI ?_ ?_<;>intro<;>(conv=>whnf)<;>(try (exfalso;omega)))|fail)
   . rename_i he
     refine Or.inl ?_;(conv=>whnf)
     exact⟨by rw[ruleI_dup (r:=r.b) hA ⟨q.b,List.mem_map.2 ⟨q,List.mem_of_getElem? hq,rfl⟩,he⟩];rfl,rfl⟩
   . rename_i he
     refine⟨k+1,by omega,⟨by omega,fun j x hj hx=>?_⟩,.refl _,?_⟩
     . by_cases hjk:j=k
       . subst hjk;rw[hq] at hx;cases hx;exact he
       . exact hall j x (by omega) hx
     . (conv=>whnf)
       rfl
 obtain rfl:k=pre.length:=by omega
 have hno:¬ ∃ s ∈ pre.map Rule.b,s.prio=r.b.prio:=by
  rintro⟨s,hs,h⟩
  obtain⟨q,hq,rfl⟩:=List.mem_map.1 hs
  obtain⟨j,hj⟩:=List.getElem?_of_mem hq
  exact hall j q (List.getElem?_eq_some_iff.1 hj).1 hj h
 (try (conv=>whnf));repeat' (first|(refine Or.inr (Or.inl ?_);(conv=>whnf);(repeat (refine aI ?_;conv=>whnf));refine⟨_,hS1.more (fun x hx=>List.mem_append_left _ hx),?_⟩;rintro _ _ _ ⟨⟨rfl,rfl⟩,rfl⟩<;>(conv=>whnf))|(refine Or.inr (Or.inl ?_);(conv=>whnf);(repeat (refine aI ?_;conv=>whnf));refine⟨_,hS2.more (fun x hx=>List.mem_append_left _ hx),?_⟩;rintro _ _ _ ⟨⟨rfl,rfl⟩,rfl⟩<;>(conv=>whnf))|refine OkM.seq ?_|((first|refine OkM.region tok ?_|refine OkM.of_ok (Ok.region_plan (id:=14) tok follows [(1,7,[4,3,2]),(4,7,[]),(6,7,[])] [.q 0,.q 1,.q 2,.q 3,.q 4,.q 5,.q 6,.l 7,.q 8,.q 9,.q 10,.q 11,.q 12] (by kernel_rfl) ?_)|refine OkM.cond ?_|refine OkM.skip ?_|refine OkM.exit ?_|refine OkM.ret ?_);conv=>whnf)|(refine Or.inl ?_;(conv=>whnf);refine Or.inl ?_;(conv=>whnf);(repeat (refine aI ?_;conv=>whnf));refine⟨_,right_at cf hf b g r.mtch.l rfl hro.mtch hrt.mtch,rfl,?_⟩;conv=>whnf)|(refine Or.inr (Or.inl ?_);(conv=>whnf);(repeat (refine aI ?_;conv=>whnf));refine⟨_,hWs , ?_⟩;rintro _ _ ⟨⟨w,rfl⟩,rfl⟩<;>(conv=>whnf))|(refine bI ?_ ?_<;>intro<;>(conv=>whnf)<;>(try (exfalso;omega)))|fail)
 . rename_i h3
   refine Or.inl ?_;(conv=>whnf)
   exact⟨by rw[ruleI_from (r:=r.b) hA hno h3];rfl,rfl⟩
 . rename_i h3 h4
   refine Or.inl ?_;(conv=>whnf)
   exact⟨by rw[ruleI_match (r:=r.b) hA hno h3 h4];rfl,rfl⟩
 . rename_i h3 h4 h5
   have h4:¬ chkE (fds cf.b.fields) (nds r.b.mtch) ≠ 0:=h4
   refine Or.inl ?_;(conv=>whnf)
   exact⟨by rw[ruleI_sets (r:=r.b) hA hno h3 h4 h5];rfl,rfl⟩
 . rename_i h3 h4 h5 h6
   have h4:¬ chkE (fds cf.b.fields) (nds r.b.mtch) ≠ 0:=h4
   refine Or.inl ?_;(conv=>whnf)
   exact⟨by rw[ruleI_outs (r:=r.b) hA hno h3 h4 h5 (by show 4<r.dst.l.length;omega)];rfl,rfl⟩
 . rename_i h3 h4 h5 h6
   have h4:¬ chkE (fds cf.b.fields) (nds r.b.mtch) ≠ 0:=h4
   refine Or.inl ?_;(conv=>whnf)
   exact⟨by rw[ruleI_to (r:=r.b) hA hno h3 h4 h5 (by show ¬ 4<r.dst.l.length;omega)];rfl,rfl⟩
end Go.Proofs.YtcglkonooeddfaaGreatDoor
namespace Go.Proofs.YtcglkonooeddfaaGreatDoor
open Go Go.Vx
def ItoaOk:Prop:=∀ n:Int,-9223372036854775808<=n->n<=9223372036854775807->FSpec Tryz.prog T 193 [.i .i64 n] (fun d _=>d = .s (Lib.itoa n))
theorem told_bad{e:Int}{t:Str}(h:e ≠ 0):told e t=(e,t):=if_pos h
theorem told_ok{e:Int}{t:Str}(h:e=0):told e t=(0,[]):=if_neg fun g=>g h
theorem guardE_unk{c:ConfigB}{b:BoxB}{pre:List LineB}{g:LineB}(h:g.port ∉ b.ins++b.outs):guardE c b pre g=(73,b.name++[32,103,117,97,114,100,32]++g.port):=if_pos h
theorem guardE_bad{c:ConfigB}{b:BoxB}{pre:List LineB}{g:LineB}(h:g.port ∈ b.ins++b.outs)(h2:chkE (fds c.fields) (nds g.mtch) ≠ 0):guardE c b pre g=(77,b.name++[32,103,117,97,114,100,32]++g.port):=by unfold guardE;rw[if_neg (fun g=>g h),if_pos h2]
theorem guardE_ok{c:ConfigB}{b:BoxB}{pre:List LineB}{g:LineB}(h:g.port ∈ b.ins++b.outs)(h2:¬ chkE (fds c.fields) (nds g.mtch) ≠ 0):guardE c b pre g=(0,[]):=by unfold guardE;rw[if_neg (fun g=>g h),if_neg h2]
theorem told_split{α:Type}{f:List α->α->Er}{l:List α}{k:Nat}{x:α}{e:Int}{t:Str}(hx:l[k]? = some x)(hf:f (l.take k) x=told e t):(e ≠ 0->firstE f (l.take k) (l.drop k)=(e,t))/\(e=0->firstE f (l.take k) (l.drop k)=firstE f (l.take (k+1)) (l.drop (k+1))):=by
 refine⟨fun h=>?_,fun h=>?_⟩
 . rw[firstE_bad hx (by rw[hf,told_bad h];exact h),hf,told_bad h]
 . rw[firstE_ok hx (by rw[hf,told_ok h])]
set_option maxRecDepth 100000 in
set_option maxHeartbeats 16000000 in
theorem mbox_at(hW:WordOk)(hI:ItoaOk)(cf:Config)(hf:cf.fields.l.length<=1048576)(hh:HeadOk cf.b)(b:Box)(hbo:b.Ok)(hbt:b.Tx)(g:Nat)(l:List (Str × Int × Nat))(ck:Nat)(hl:PMap l (b.ins.l++b.outs.l)) :
    FSpecH Tryz.prog T (deskH g l ck) 140 [deskD (.ep cf.row) b g] (fun d rows M=>(d = .tup [.i .i64 (doesE cf.b [] b.b).1,.s (doesE cf.b [] b.b).2]/\rows=[])/\M=[]):=by
 have hbn:b.name.length<=1048576:=hbt.name
 have l3:(b.guards.l.map Line.row).length=b.guards.l.length:=by simp
 have l4:(b.rules.l.map Rule.row).length=b.rules.l.length:=by simp
 have l5:(b.owns.l.map Pfx.row).length=b.owns.l.length:=by simp
 have l6:(b.routes.l.map Pfx.row).length=b.routes.l.length:=by simp
 have b3:=hbo.guards
 have b4:=hbo.rules
 have b5:=hbo.owns
 have b6:=hbo.routes
 refine FSpecH.of_ok0 tok Tryz.func140 rfl Tryz.call140 (by simp) ?_
 (try (conv=>whnf));repeat' (first|refine OkM.seq ?_|(refine OkM.region tok ?_;conv=>whnf)|refine OkM.block ?_|fail)
 refine OkM.loopU [1,19,20] [21] 0 1 (fun (k:Nat)=>[.i .i64 (k:Nat)]) (fun _ b=>b) (fun _ r=>r) (fun (k:Nat)=>[]) (fun (k:Nat)=>k<=b.guards.l.length/\firstE (guardE cf.b b.b) [] b.b.guards=firstE (guardE cf.b b.b) (b.b.guards.take k) (b.b.guards.drop k)) (fun (k:Nat)=>b.guards.l.length - k) (0) (⟨Nat.zero_le _,rfl⟩) (by first|exact .refl _|exact .cons _ (.refl _)|exact List.nil_sublist _) ?_;(conv=>whnf);refine⟨by ((conv=>whnf);first|rfl|(simp[envCat, List.take_of_length_le, SI.row, Node.row, Pfx.row, Link.row, srow, Line.row, Rule.row, Box.row, Slc.row, Config.row];done)|(simp[envCat, List.take_of_length_le, SI.row, Node.row, Pfx.row, Link.row, srow, Line.row, Rule.row, Box.row, Slc.row, Config.row];rw[IntKind.wrap_i64];omega)),?_⟩
 rintro k ⟨hk,hfe⟩
 (conv=>whnf)
 by_cases hkl:k<b.guards.l.length
 . obtain⟨x,hx⟩:∃ x,b.guards.l[k]? = some x:=⟨_,List.getElem?_eq_getElem hkl⟩
   have hxI:b.guards.l[((k:Nat):Int).toNat]? = some x:=hx
   have hxb:b.b.guards[k]? = some x.b:=by simp[Box.b,hx]
   have hxo:=hbo.line x (List.mem_of_getElem? hx)
   have hxt:=hbt.guards x (List.mem_of_getElem? hx)
   have hxp:x.port.length<=1048576:=hxt.port
   have hs:=hl.some_iff (s:=x.port)
   (try (conv=>whnf));repeat' (first|(refine⟨_,_,_,_,_,_,_,_,mtSI,(by first|exact .head _|exact .tail _ (.head _)|exact .tail _ (.tail _ (.head _))|exact .tail _ (.tail _ (.tail _ (.head _)))|exact List.mem_append_left _ (by assumption)),rfl,?_⟩;conv=>whnf)|refine OkM.seq ?_|((first|refine OkM.region tok ?_|refine OkM.of_ok (Ok.region_draw tok follows (by kernel_rfl) ?_)|refine OkM.cond ?_);conv=>whnf)|refine OkM.block ?_|((first|refine OkM.skip ?_|refine OkM.ret ?_|refine nI ?_|refine ix _ (by assumption) ?_);conv=>whnf)|(refine Or.inl ?_;(conv=>whnf);refine Or.inl ?_;(conv=>whnf);(repeat (refine aI ?_;conv=>whnf));refine⟨_,right_at cf hf b g x.mtch.l rfl hxo.mtch hxt.mtch,rfl,?_⟩;conv=>whnf)|(refine bI ?_ ?_<;>intro<;>(conv=>whnf)<;>(try (exfalso;omega)))|(refine aJ ?_;conv=>whnf)|fail)
   . rename_i hp
     have hp:x.b.port ∉ b.b.ins++b.b.outs:=fun h=>hp (hs.2 h)
     rw[firstE_bad hxb (by rw[guardE_unk hp];simp),guardE_unk hp] at hfe
     refine Or.inl ?_;(conv=>whnf)
     refine⟨?_,rfl⟩
     rw[show doesE cf.b [] b.b=orE _ _ from rfl,hfe,orE_l _ (by simp)]
     rfl
   . rename_i hp hm
     have hp:x.b.port ∈ b.b.ins++b.b.outs:=hs.1 (Classical.not_not.1 hp)
     rw[firstE_bad hxb (by rw[guardE_bad hp hm];simp),guardE_bad hp hm] at hfe
     refine Or.inl ?_;(conv=>whnf)
     refine⟨?_,rfl⟩
     rw[show doesE cf.b [] b.b=orE _ _ from rfl,hfe,orE_l _ (by simp)]
     rfl
   . rename_i hp hm
     have hp:x.b.port ∈ b.b.ins++b.b.outs:=hs.1 (Classical.not_not.1 hp)
     have hm:¬ chkE (fds cf.b.fields) (nds x.b.mtch) ≠ 0:=hm
     rw[firstE_ok hxb (by rw[guardE_ok hp hm])] at hfe
     refine⟨k+1,by omega,⟨by omega,hfe⟩,.refl _,?_⟩
     (conv=>whnf)
     rfl
 obtain rfl:k=b.guards.l.length:=by omega
 rw[firstE_nil (by simp[Box.b])] at hfe
 (try (conv=>whnf));repeat' (first|refine OkM.seq ?_|((first|refine OkM.region tok ?_|refine OkM.cond ?_);conv=>whnf)|refine OkM.block ?_|(refine OkM.exit ?_;conv=>whnf)|(refine bI ?_ ?_<;>intro<;>(conv=>whnf)<;>(try (exfalso;omega)))|fail)
 refine OkM.loopU [1,57,58] [59] 0 1 (fun (k:Nat)=>[.i .i64 (k:Nat)]) (fun _ b=>b) (fun _ r=>r) (fun (k:Nat)=>[]) (fun (k:Nat)=>k<=b.rules.l.length/\firstE (ruleE cf.b b.b) [] b.b.rules=firstE (ruleE cf.b b.b) (b.b.rules.take k) (b.b.rules.drop k)) (fun (k:Nat)=>b.rules.l.length - k) (0) (⟨Nat.zero_le _,rfl⟩) (by first|exact .refl _|exact .cons _ (.refl _)|exact List.nil_sublist _) ?_;(conv=>whnf);refine⟨by ((conv=>whnf);first|rfl|(simp[envCat, List.take_of_length_le, SI.row, Node.row, Pfx.row, Link.row, srow, Line.row, Rule.row, Box.row, Slc.row, Config.row];done)|(simp[envCat, List.take_of_length_le, SI.row, Node.row, Pfx.row, Link.row, srow, Line.row, Rule.row, Box.row, Slc.row, Config.row];rw[IntKind.wrap_i64];omega)),?_⟩
 rintro k ⟨hk,hfe1⟩
 (conv=>whnf)
 by_cases hkl:k<b.rules.l.length
 . obtain⟨x,hx⟩:∃ x,b.rules.l[k]? = some x:=⟨_,List.getElem?_eq_getElem hkl⟩
   have hxI:b.rules.l[((k:Nat):Int).toNat]? = some x:=hx
   have hxb:b.b.rules[k]? = some x.b:=by simp[Box.b,hx]
   have hmt:((b.rules.l.map Rule.row++b.rules.room).take k).drop 0=(b.rules.l.take k).map Rule.row:=by rw[List.drop_zero,List.take_append_of_le_length (by omega),List.map_take]
   have hxo:=hbo.rule x (List.mem_of_getElem? hx)
   have hxt:=hbt.rules x (List.mem_of_getElem? hx)
   have hit:=Lib.itoa_length_le x.prio hxt.prio.1 hxt.prio.2
   have hpm:(b.rules.l.take k).map Rule.b=b.b.rules.take k:=by simp[Box.b,List.map_take]
   have hsp:=mrule_at hW cf hf hh b g l ck hl (b.rules.l.take k) x hxo hxt (rl:=((b.rules.l.map Rule.row++b.rules.room).take k).drop 0) (r0:=(b.rules.l.map Rule.row++b.rules.room).drop k) hmt (by rw[List.length_take];omega)
   (try (conv=>whnf));repeat' (first|(refine Or.inr ?_;(conv=>whnf);(repeat (refine aI ?_;conv=>whnf));refine⟨_,hsp.more (fun x hx=>List.mem_append_left _ hx),?_⟩;rintro _ _ _ ⟨⟨rfl,rfl⟩,rfl⟩<;>(conv=>whnf))|refine OkM.seq ?_|((first|refine OkM.region tok ?_|refine OkM.region_tree (id:=13) tok follows [(0,7,[]),(1,7,[]),(4,7,[6])] (.q 0 (.q 1 (.q 2 (.q 3 (.q 4 (.q 5 (.q 6 (.l 7 (.q 8 .nil))))))))) (by kernel_rfl) ?_|refine OkM.of_ok (Ok.region_draw tok follows (by kernel_rfl) ?_)|refine OkM.cond ?_);conv=>whnf)|refine OkM.block ?_|((first|refine OkM.skip ?_|refine OkM.ret ?_|refine nI ?_|refine ix _ (by assumption) ?_|refine⟨_,hI x.prio hxt.prio.1 hxt.prio.2,rfl,?_⟩|refine⟨_,_,rfl,rfl,?_⟩);conv=>whnf)|(refine bI ?_ ?_<;>intro<;>(conv=>whnf)<;>(try (exfalso;omega)))|(refine aJ ?_;conv=>whnf)|fail)
   . rename_i he
     have ht:=(told_split (f:=ruleE cf.b b.b) (t:=b.b.name++[32,114,117,108,101,32]++Lib.itoa x.prio) hxb (by rw[<- hpm];rfl)).1 he
     rw[ht] at hfe1
     refine Or.inl ?_;(conv=>whnf)
     refine⟨?_,rfl⟩
     rw[show doesE cf.b [] b.b=orE (firstE (guardE cf.b b.b) [] b.b.guards) (orE (firstE (ruleE cf.b b.b) [] b.b.rules) (orE (firstE (ownE cf.b b.b) [] b.b.owns) (firstE (routE cf.b b.b) [] b.b.routes))) from rfl,hfe,orE_r _ rfl,hfe1,orE_l _ he]
     rfl
   . rename_i he
     have ht:=(told_split (f:=ruleE cf.b b.b) (t:=b.b.name++[32,114,117,108,101,32]++Lib.itoa x.prio) hxb (by rw[<- hpm];rfl)).2 (Classical.not_not.1 he)
     rw[ht] at hfe1
     refine⟨k+1,by omega,⟨by omega,hfe1⟩,.refl _,?_⟩
     (conv=>whnf)
     rfl
 obtain rfl:k=b.rules.l.length:=by omega
 rw[firstE_nil (by simp[Box.b])] at hfe1
 (try (conv=>whnf));repeat' (first|refine OkM.seq ?_|((first|refine OkM.region tok ?_|refine OkM.cond ?_);conv=>whnf)|refine OkM.block ?_|(refine OkM.exit ?_;conv=>whnf)|(refine bI ?_ ?_<;>intro<;>(conv=>whnf)<;>(try (exfalso;omega)))|fail)
 refine OkM.loopU [1,86,87] [88] 0 1 (fun (k:Nat)=>[.i .i64 (k:Nat)]) (fun _ b=>b) (fun _ r=>r) (fun (k:Nat)=>[]) (fun (k:Nat)=>k<=b.owns.l.length/\firstE (ownE cf.b b.b) [] b.b.owns=firstE (ownE cf.b b.b) (b.b.owns.take k) (b.b.owns.drop k)) (fun (k:Nat)=>b.owns.l.length - k) (0) (⟨Nat.zero_le _,rfl⟩) (by first|exact .refl _|exact .cons _ (.refl _)|exact List.nil_sublist _) ?_;(conv=>whnf);refine⟨by ((conv=>whnf);first|rfl|(simp[envCat, List.take_of_length_le, SI.row, Node.row, Pfx.row, Link.row, srow, Line.row, Rule.row, Box.row, Slc.row, Config.row];done)|(simp[envCat, List.take_of_length_le, SI.row, Node.row, Pfx.row, Link.row, srow, Line.row, Rule.row, Box.row, Slc.row, Config.row];rw[IntKind.wrap_i64];omega)),?_⟩
 rintro k ⟨hk,hfe2⟩
 (conv=>whnf)
 by_cases hkl:k<b.owns.l.length
 . obtain⟨x,hx⟩:∃ x,b.owns.l[k]? = some x:=⟨_,List.getElem?_eq_getElem hkl⟩
   have hxI:b.owns.l[((k:Nat):Int).toNat]? = some x:=hx
   have hxb:b.b.owns[k]? = some x:=by simp[Box.b,hx]
   have hmt:((b.owns.l.map Pfx.row++b.owns.room).take k).drop 0=(b.owns.l.take k).map Pfx.row:=by rw[List.drop_zero,List.take_append_of_le_length (by omega),List.map_take]
   have hsp:=mprefix_at cf hh b g l ck hl (b.owns.l.take k) x (rl:=((b.owns.l.map Pfx.row++b.owns.room).take k).drop 0) (r:=(b.owns.l.map Pfx.row++b.owns.room).drop k) hmt (by rw[List.length_take];omega)
   (try (conv=>whnf));repeat' (first|(refine Or.inr ?_;(conv=>whnf);(repeat (refine aI ?_;conv=>whnf));refine⟨_,hsp.more (fun x hx=>List.mem_append_left _ hx),?_⟩;rintro _ _ _ ⟨⟨rfl,rfl⟩,rfl⟩<;>(conv=>whnf))|refine OkM.seq ?_|((first|refine OkM.region tok ?_|refine OkM.region_tree (id:=20) tok follows [(0,7,[]),(1,7,[]),(4,7,[6])] (.q 0 (.q 1 (.q 2 (.q 3 (.q 4 (.q 5 (.q 6 (.l 7 (.q 8 .nil))))))))) (by kernel_rfl) ?_|refine OkM.of_ok (Ok.region_draw tok follows (by kernel_rfl) ?_)|refine OkM.cond ?_);conv=>whnf)|refine OkM.block ?_|((first|refine OkM.skip ?_|refine OkM.ret ?_|refine nI ?_|refine ix _ (by assumption) ?_|refine⟨_,_,rfl,rfl,?_⟩);conv=>whnf)|(refine bI ?_ ?_<;>intro<;>(conv=>whnf)<;>(try (exfalso;omega)))|(refine aJ ?_;conv=>whnf)|fail)
   . rename_i he
     have ht:=(told_split (f:=ownE cf.b b.b) (t:=b.b.name++[32,111,119,110]) hxb rfl).1 he
     rw[ht] at hfe2
     refine Or.inl ?_;(conv=>whnf)
     refine⟨?_,rfl⟩
     rw[show doesE cf.b [] b.b=orE (firstE (guardE cf.b b.b) [] b.b.guards) (orE (firstE (ruleE cf.b b.b) [] b.b.rules) (orE (firstE (ownE cf.b b.b) [] b.b.owns) (firstE (routE cf.b b.b) [] b.b.routes))) from rfl,hfe,orE_r _ rfl,hfe1,orE_r _ rfl,hfe2,orE_l _ he]
     rfl
   . rename_i he
     have ht:=(told_split (f:=ownE cf.b b.b) (t:=b.b.name++[32,111,119,110]) hxb rfl).2 (Classical.not_not.1 he)
     rw[ht] at hfe2
     refine⟨k+1,by omega,⟨by omega,hfe2⟩,.refl _,?_⟩
     (conv=>whnf)
     rfl
 obtain rfl:k=b.owns.l.length:=by omega
 rw[firstE_nil (by simp[Box.b])] at hfe2
 (try (conv=>whnf));repeat' (first|refine OkM.seq ?_|((first|refine OkM.region tok ?_|refine OkM.cond ?_);conv=>whnf)|refine OkM.block ?_|(refine OkM.exit ?_;conv=>whnf)|(refine bI ?_ ?_<;>intro<;>(conv=>whnf)<;>(try (exfalso;omega)))|fail)
 refine OkM.loopU [1,111,112] [113] 0 1 (fun (k:Nat)=>[.i .i64 (k:Nat)]) (fun _ b=>b) (fun _ r=>r) (fun (k:Nat)=>[]) (fun (k:Nat)=>k<=b.routes.l.length/\firstE (routE cf.b b.b) [] b.b.routes=firstE (routE cf.b b.b) (b.b.routes.take k) (b.b.routes.drop k)) (fun (k:Nat)=>b.routes.l.length - k) (0) (⟨Nat.zero_le _,rfl⟩) (by first|exact .refl _|exact .cons _ (.refl _)|exact List.nil_sublist _) ?_;(conv=>whnf);refine⟨by ((conv=>whnf);first|rfl|(simp[envCat, List.take_of_length_le, SI.row, Node.row, Pfx.row, Link.row, srow, Line.row, Rule.row, Box.row, Slc.row, Config.row];done)|(simp[envCat, List.take_of_length_le, SI.row, Node.row, Pfx.row, Link.row, srow, Line.row, Rule.row, Box.row, Slc.row, Config.row];rw[IntKind.wrap_i64];omega)),?_⟩
 rintro k ⟨hk,hfe3⟩
 (conv=>whnf)
 by_cases hkl:k<b.routes.l.length
 . obtain⟨x,hx⟩:∃ x,b.routes.l[k]? = some x:=⟨_,List.getElem?_eq_getElem hkl⟩
   have hxI:b.routes.l[((k:Nat):Int).toNat]? = some x:=hx
   have hxb:b.b.routes[k]? = some x:=by simp[Box.b,hx]
   have hmt:((b.routes.l.map Pfx.row++b.routes.room).take k).drop 0=(b.routes.l.take k).map Pfx.row:=by rw[List.drop_zero,List.take_append_of_le_length (by omega),List.map_take]
   have hsp:=mprefix_at cf hh b g l ck hl (b.routes.l.take k) x (rl:=((b.routes.l.map Pfx.row++b.routes.room).take k).drop 0) (r:=(b.routes.l.map Pfx.row++b.routes.room).drop k) hmt (by rw[List.length_take];omega)
   (try (conv=>whnf));repeat' (first|(refine Or.inr ?_;(conv=>whnf);(repeat (refine aI ?_;conv=>whnf));refine⟨_,hsp.more (fun x hx=>List.mem_append_left _ hx),?_⟩;rintro _ _ _ ⟨⟨rfl,rfl⟩,rfl⟩<;>(conv=>whnf))|refine OkM.seq ?_|((first|refine OkM.region tok ?_|refine OkM.region_tree (id:=27) tok follows [(0,7,[]),(1,7,[]),(4,7,[6])] (.q 0 (.q 1 (.q 2 (.q 3 (.q 4 (.q 5 (.q 6 (.l 7 (.q 8 .nil))))))))) (by kernel_rfl) ?_|refine OkM.of_ok (Ok.region_draw tok follows (by kernel_rfl) ?_)|refine OkM.cond ?_);conv=>whnf)|refine OkM.block ?_|((first|refine OkM.skip ?_|refine OkM.ret ?_|refine nI ?_|refine ix _ (by assumption) ?_|refine⟨_,_,rfl,rfl,?_⟩);conv=>whnf)|(refine bI ?_ ?_<;>intro<;>(conv=>whnf)<;>(try (exfalso;omega)))|(refine aJ ?_;conv=>whnf)|fail)
   . rename_i he
     have ht:=(told_split (f:=routE cf.b b.b) (t:=b.b.name++[32,114,111,117,116,101]) hxb rfl).1 he
     rw[ht] at hfe3
     refine Or.inl ?_;(conv=>whnf)
     refine⟨?_,rfl⟩
     rw[show doesE cf.b [] b.b=orE (firstE (guardE cf.b b.b) [] b.b.guards) (orE (firstE (ruleE cf.b b.b) [] b.b.rules) (orE (firstE (ownE cf.b b.b) [] b.b.owns) (firstE (routE cf.b b.b) [] b.b.routes))) from rfl,hfe,orE_r _ rfl,hfe1,orE_r _ rfl,hfe2,orE_r _ rfl,hfe3]
     rfl
   . rename_i he
     have ht:=(told_split (f:=routE cf.b b.b) (t:=b.b.name++[32,114,111,117,116,101]) hxb rfl).2 (Classical.not_not.1 he)
     rw[ht] at hfe3
     refine⟨k+1,by omega,⟨by omega,hfe3⟩,.refl _,?_⟩
     (conv=>whnf)
     rfl
 obtain rfl:k=b.routes.l.length:=by omega
 rw[firstE_nil (by simp[Box.b])] at hfe3
 (try (conv=>whnf));repeat' (first|refine OkM.seq ?_|((first|refine OkM.region tok ?_|refine OkM.cond ?_|refine OkM.exit ?_|refine OkM.ret ?_);conv=>whnf)|(refine bI ?_ ?_<;>intro<;>(conv=>whnf)<;>(try (exfalso;omega)))|fail)
 refine Or.inl ?_;(conv=>whnf)
 refine⟨?_,rfl⟩
 rw[show doesE cf.b [] b.b=orE (firstE (guardE cf.b b.b) [] b.b.guards) (orE (firstE (ruleE cf.b b.b) [] b.b.rules) (orE (firstE (ownE cf.b b.b) [] b.b.owns) (firstE (routE cf.b b.b) [] b.b.routes))) from rfl,hfe,orE_r _ rfl,hfe1,orE_r _ rfl,hfe2,orE_r _ rfl,hfe3]
 rfl
end Go.Proofs.YtcglkonooeddfaaGreatDoor
namespace Go.Proofs.YtcglkonooeddfaaGreatDoor
open Go Go.Vx
theorem PMap.nil:PMap [] []:=⟨fun _ _=>rfl,fun k s h=>by simp at h⟩
theorem PMap.put{l:List (Str × Int × Nat)}{ps:List Str}{j:Nat}{s:Str}(h:PMap l (ps.take j))(hs:ps[j]? = some s)(hn:s ∉ ps.take j)(c:Nat)(a:Int)(ha:a=(j:Nat)):PMap (mput l c s a).1 (ps.take (j+1)):=by
 subst ha
 have htk:ps.take (j+1)=ps.take j++[s]:=by rw[List.take_add_one,hs];rfl
 have hjl:=(List.getElem?_eq_some_iff.1 hs).1
 have hl:(ps.take j).length=j:=by rw[List.length_take];omega
 rw[htk]
 refine⟨fun t ht=>?_,fun k t hk=>?_⟩
 . have hts:¬ t=s:=fun e=>ht (by rw[e];simp)
   rw[mput_lk,if_neg hts]
   exact h.1 t fun g=>ht (List.mem_append_left _ g)
 . rw[mput_lk]
   by_cases hkj:k<j
   . rw[List.getElem?_append_left (by omega)] at hk
     have hts:¬ t=s:=fun e=>hn (by rw[<- e];exact List.mem_of_getElem? hk)
     rw[if_neg hts]
     exact h.2 k t hk
   . rw[List.getElem?_append_right (by omega),hl] at hk
     obtain⟨h1,h2⟩:=List.getElem?_eq_some_iff.1 hk
     simp at h1
     have:k=j:=by omega
     subst this
     simp at h2
     subst h2
     rw[if_pos rfl]
theorem ports_new{n:Str}{ps:List Str}(h:(firstE (portE n) [] ps).1=0){j:Nat}{s:Str}(hs:ps[j]? = some s):MName s/\s ∉ ps.take j:=by
 have h0:=firstE_zero h j s hs
 by_cases hm:MName s
 . refine⟨hm,fun hp=>?_⟩
   rw[portE_dbl hm hp] at h0
   cases h0
 . rw[portE_bad hm] at h0
   cases h0
theorem names_ok{c:ConfigB}(h:(nameO c).1=0){i:Nat}{b:BoxB}(hb:c.boxes[i]? = some b):MName b.name/\b.name ∉ (c.boxes.take i).map BoxB.name/\(firstE (portE b.name) [] (b.ins++b.outs)).1=0:=by
 have h0:=firstE_zero h i b hb
 by_cases hm:MName b.name
 . by_cases hd:b.name ∈ (c.boxes.take i).map BoxB.name
   . rw[boxE_dbl hm hd] at h0;cases h0
   . rw[boxE_ok hm hd] at h0;exact⟨hm,hd,h0⟩
 . rw[boxE_bad hm] at h0;cases h0
set_option maxRecDepth 100000 in
set_option maxHeartbeats 16000000 in
theorem mdeeds_at(hW:WordOk)(hI:ItoaOk)(c:Config)(hc:c.Ok)(ht:c.Tx)(hh:HeadOk c.b)(hn:(nameO c.b).1=0) :
    FSpecH Tryz.prog T [] 77 [.agg c.row] (fun d rows M=>(d = .tup [.i .i64 (deedO c.b).1,.s (deedO c.b).2]/\rows=[])/\M=[]):=by
 have hcb:=hc.boxes
 have hbl:(c.boxes.l.map Box.row).length=c.boxes.l.length:=by simp
 refine FSpecH.of_ok0 tok Tryz.func77 rfl Tryz.call77 (by simp) ?_
 refine OkM.seq ?_
 refine OkM.region tok ?_
 (conv=>whnf)
 refine OkM.pubB rfl ?_
 (conv=>whnf)
 (try (conv=>whnf));repeat' (first|refine OkM.seq ?_|(refine OkM.region tok ?_;conv=>whnf)|refine OkM.block ?_|fail)
 refine OkM.loopU [1,11,12] [13] 0 0 (fun (i:Nat)=>[.i .i64 (i:Nat)]) (fun _ b=>b) (fun _ r=>r) (fun (i:Nat)=>[]) (fun (i:Nat)=>i<=c.boxes.l.length/\deedO c.b=firstE (doesE c.b) (c.b.boxes.take i) (c.b.boxes.drop i)) (fun (i:Nat)=>c.boxes.l.length - i) (0) (⟨Nat.zero_le _,rfl⟩) (by first|exact .refl _|exact .cons _ (.refl _)|exact List.nil_sublist _) ?_;(conv=>whnf);refine⟨by ((conv=>whnf);first|rfl|(simp[envCat, List.take_of_length_le, SI.row, Node.row, Pfx.row, Link.row, srow, Line.row, Rule.row, Box.row, Slc.row, Config.row];done)|(simp[envCat, List.take_of_length_le, SI.row, Node.row, Pfx.row, Link.row, srow, Line.row, Rule.row, Box.row, Slc.row, Config.row];rw[IntKind.wrap_i64];omega)),?_⟩
 rintro i ⟨hi,hfe⟩
 (conv=>whnf)
 by_cases hil:i<c.boxes.l.length
 . obtain⟨b,hb⟩:∃ b,c.boxes.l[i]? = some b:=⟨_,List.getElem?_eq_getElem hil⟩
   have hbI:c.boxes.l[((i:Nat):Int).toNat]? = some b:=hb
   have hbb:c.b.boxes[i]? = some b.b:=by simp[Config.b,hb]
   have hbx:=hc.box b (List.mem_of_getElem? hb)
   have hbt:=ht.boxes b (List.mem_of_getElem? hb)
   have hbi:=hbx.ins
   have hbo:=hbx.outs
   have hil':(b.ins.l.map srow).length=b.ins.l.length:=by simp
   have hol':(b.outs.l.map srow).length=b.outs.l.length:=by simp
   have hnm:(firstE (portE b.name) [] (b.ins.l++b.outs.l)).1=0:=(names_ok hn hbb).2.2
   obtain⟨ps,hps⟩:∃ ps,ps=b.ins.l++b.outs.l:=⟨_,rfl⟩
   have hpl:ps.length=b.ins.l.length+b.outs.l.length:=by rw[hps];simp
   rw[<- hps] at hnm
   (try (conv=>whnf));repeat' (first|(refine⟨_,_,_,_,_,mtSI,fun _ _=>?_⟩;conv=>whnf)|refine OkM.seq ?_|((first|refine OkM.region tok ?_|refine OkM.cond ?_);conv=>whnf)|refine OkM.block ?_|((first|refine OkM.skip ?_|refine nI ?_|refine ix _ (by assumption) ?_);conv=>whnf)|(refine bI ?_ ?_<;>intro<;>(conv=>whnf)<;>(try (exfalso;omega)))|fail)
   rename_i g hg
   refine OkM.loopU [1,5,6,11,12,13,26] [27] 0 2 (fun (y:Nat × List (Str × Int × Nat) × Nat)=>[.i .i64 (y.1:Nat)]) (fun _ b=>b) (fun _ r=>r) (fun (y:Nat × List (Str × Int × Nat) × Nat)=>[(g,mObj D.s fI y.2.1 y.2.2)]) (fun (y:Nat × List (Str × Int × Nat) × Nat)=>y.1<=ps.length/\PMap y.2.1 (ps.take y.1)) (fun (y:Nat × List (Str × Int × Nat) × Nat)=>ps.length - y.1) ((0,[],0)) (⟨Nat.zero_le _,PMap.nil⟩) (by first|exact .refl _|exact .cons _ (.refl _)|exact List.nil_sublist _) ?_;(conv=>whnf);refine⟨by ((conv=>whnf);first|rfl|(simp[envCat, List.take_of_length_le, SI.row, Node.row, Pfx.row, Link.row, srow, Line.row, Rule.row, Box.row, Slc.row, Config.row];done)|(simp[envCat, List.take_of_length_le, SI.row, Node.row, Pfx.row, Link.row, srow, Line.row, Rule.row, Box.row, Slc.row, Config.row];rw[IntKind.wrap_i64];omega)),?_⟩
   rintro⟨j,l2,c2⟩ ⟨hj,hpm⟩
   dsimp only at hj hpm ⊢
   (conv=>whnf)
   by_cases hjl:j<ps.length
   . obtain⟨s,hs⟩:∃ s,ps[j]? = some s:=⟨_,List.getElem?_eq_getElem hjl⟩
     have hsp:=port_at b hbi hbo j s (by rw[<- hps];exact hs) _ rfl
     (try (conv=>whnf));repeat' (first|(refine⟨_,_,_,_,_,_,_,0,_,_,mtSI,rfl,rfl,rfl,?_⟩;conv=>whnf)|refine OkM.seq ?_|((first|refine OkM.region tok ?_|refine OkM.region_tree (id:=8) tok follows [(2,4,[]),(1,6,[]),(2,6,[]),(4,6,[])] (.q 0 (.q 1 (.q 2 (.q 3 (.q 5 (.l 4 (.l 6 .nil))))))) (by kernel_rfl) ?_|refine OkM.cond ?_);conv=>whnf)|refine OkM.block ?_|((first|refine OkM.skip ?_|refine nI ?_);conv=>whnf)|(refine Or.inl ?_;(conv=>whnf);refine Or.inl ?_;(conv=>whnf);(repeat (refine aI ?_;conv=>whnf));refine⟨_,hsp,rfl,?_⟩;conv=>whnf)|(refine bI ?_ ?_<;>intro<;>(conv=>whnf)<;>(try (exfalso;omega)))|fail)
     refine⟨(j+1,(mput l2 c2 s j).1,(mput l2 c2 s j).2),by dsimp only;omega,⟨by dsimp only;omega,hpm.put hs (ports_new hnm hs).2 c2 j rfl⟩,.refl _,?_⟩
     (conv=>whnf)
     rfl
   . obtain rfl:j=ps.length:=by omega
     rw[List.take_length,hps] at hpm
     have hbs:=mbox_at hW hI c hc.fields hh b hbx hbt g l2 c2 hpm
     (try (conv=>whnf));repeat' (first|(refine Or.inr (Or.inl ?_);(conv=>whnf);(repeat (refine aI ?_;conv=>whnf));refine⟨_,hbs,?_⟩;rintro _ _ _ ⟨⟨rfl,rfl⟩,rfl⟩<;>(conv=>whnf))|refine OkM.seq ?_|((first|refine OkM.region tok ?_|refine OkM.cond ?_|refine OkM.skip ?_|refine OkM.exit ?_|refine OkM.ret ?_|refine nI ?_);conv=>whnf)|(refine bI ?_ ?_<;>intro<;>(conv=>whnf)<;>(try (exfalso;omega)))|fail)
     . rename_i he
       refine Or.inl ?_;(conv=>whnf)
       refine⟨?_,rfl⟩
       rw[hfe,firstE_bad hbb he]
       rfl
     . rename_i he
       refine⟨i+1,by omega,⟨by omega,by rw[hfe,firstE_ok hbb (Classical.not_not.1 he)]⟩,List.nil_sublist _,?_⟩
       (conv=>whnf)
       rfl
 . obtain rfl:i=c.boxes.l.length:=by omega
   rw[firstE_nil (by simp[Config.b])] at hfe
   (try (conv=>whnf));repeat' (first|refine OkM.seq ?_|((first|refine OkM.region tok ?_|refine OkM.cond ?_|refine OkM.exit ?_|refine OkM.ret ?_);conv=>whnf)|(refine bI ?_ ?_<;>intro<;>(conv=>whnf)<;>(try (exfalso;omega)))|fail)
   all_goals first
    | (exfalso;omega)
    | (refine Or.inl ?_;(conv=>whnf)
       exact⟨by rw[hfe];rfl,rfl⟩)
end Go.Proofs.YtcglkonooeddfaaGreatDoor
namespace Go.Proofs.YtcglkonooeddfaaGreatDoor
open Go Go.Vx
def fullInL(bs:List BoxB):List Str:=bs.flatMap fun b=>b.ins.map (dot b.name)
def fullOutL(bs:List BoxB):List Str:=bs.flatMap fun b=>b.outs.map (dot b.name)
def plcsN(n:Nat)(bs:List BoxB):List (Nat × Prop):=(bs.zipIdx n).flatMap fun x=>(x.1.ins.map fun _=>(x.2,True))++x.1.outs.map fun _=>(x.2,False)
theorem plcsN_cons(n:Nat)(b:BoxB)(bs:List BoxB):plcsN n (b :: bs)=(b.ins.map fun _=>(n,True))++(b.outs.map fun _=>(n,False))++plcsN (n+1) bs:=by
 simp[plcsN,List.zipIdx_cons]
theorem fullsL_cons(b:BoxB)(bs:List BoxB):fullsL (b :: bs)=b.ins.map (dot b.name)++b.outs.map (dot b.name)++fullsL bs:=by simp[fullsL,fullsB]
theorem plcsN_at{s:Str}:∀ {bs:List BoxB} {n k:Nat},(fullsL bs)[k]? = some s->∃ (i:Nat) (q:Prop) (b:BoxB),(plcsN n bs)[k]? = some (i,q)/\n<=i/\bs[i - n]? = some b/\((q ↔ True)/\s ∈ b.ins.map (dot b.name)\/(q ↔ False)/\s ∈ b.outs.map (dot b.name))
 | [],n,k,h=>by simp[fullsL] at h
 | b :: bs,n,k,h=>by
  rw[fullsL_cons] at h
  rw[plcsN_cons]
  by_cases h1:k<b.ins.length
  . rw[List.append_assoc,List.getElem?_append_left (by simpa using h1)] at h
    refine⟨n,True,b,?_,Nat.le_refl _,by simp,.inl ⟨Iff.rfl,List.mem_of_getElem? h⟩⟩
    rw[List.append_assoc,List.getElem?_append_left (by simpa using h1)]
    simp[List.getElem?_eq_getElem h1]
  by_cases h2:k<b.ins.length+b.outs.length
  . rw[List.getElem?_append_left (by simpa using h2),List.getElem?_append_right (by simp;omega)] at h
    refine⟨n,False,b,?_,Nat.le_refl _,by simp,.inr ⟨Iff.rfl,List.mem_of_getElem? h⟩⟩
    rw[List.getElem?_append_left (by simpa using h2),List.getElem?_append_right (by simp;omega)]
    simp only[List.length_map] at h ⊢
    have:k - b.ins.length<b.outs.length:=by omega
    simp[List.getElem?_eq_getElem this]
  . rw[List.getElem?_append_right (by simp;omega)] at h
    obtain⟨i,q,b2,e1,e2,e3,e4⟩:=plcsN_at (n:=n+1) h
    refine⟨i,q,b2,?_,by omega,?_,e4⟩
    . rw[List.getElem?_append_right (by simp;omega)]
      simp only[List.length_append,List.length_map] at e1 ⊢
      exact e1
    . rw[show i - n=(i - (n+1))+1 by omega,List.getElem?_cons_succ]
      exact e3
theorem plcs_at{bs:List BoxB}{s:Str}{k:Nat}(h:(fullsL bs)[k]? = some s):∃ (i:Nat) (q:Prop) (b:BoxB),(plcs bs)[k]? = some (i,q)/\bs[i]? = some b/\((q ↔ True)/\s ∈ b.ins.map (dot b.name)\/(q ↔ False)/\s ∈ b.outs.map (dot b.name)):=by
 obtain⟨i,q,b,e1,_,e3,e4⟩:=plcsN_at (n:=0) h
 exact⟨i,q,b,e1,by simpa using e3,e4⟩
theorem mem_fulls{bs:List BoxB}{s:Str}:s ∈ fullsL bs ↔ s ∈ fullInL bs\/s ∈ fullOutL bs:=by
 simp only[fullsL,fullInL,fullOutL,fullsB,List.mem_flatMap,List.map_append,List.mem_append]
 constructor
 . rintro⟨b,hb,h|h⟩
   . exact .inl ⟨b,hb,h⟩
   . exact .inr ⟨b,hb,h⟩
 . rintro (⟨b,hb,h⟩|⟨b,hb,h⟩)
   . exact⟨b,hb,.inl h⟩
   . exact⟨b,hb,.inr h⟩
theorem dot_inj{n n' p p':Str}(hn:46 ∉ n)(hn':46 ∉ n')(h:dot n p=dot n' p'):n=n'/\p=p':=by
 unfold dot at h
 simp only[List.append_assoc,List.singleton_append] at h
 induction n generalizing n' with
 | nil=>
  cases n' with
  | nil=>simp at h;exact⟨rfl,h⟩
  | cons c l=>simp at h;exact absurd (by rw[h.1];simp) hn'
 | cons a n ih=>
  cases n' with
  | nil=>simp at h;exact absurd (by rw[h.1];simp) hn
  | cons c l=>
   simp only[List.cons_append,List.cons.injEq] at h
   obtain⟨e1,e2⟩:=ih (fun g=>hn (by simp[g])) (fun g=>hn' (by simp[g])) h.2
   exact⟨by rw[h.1,e1],e2⟩
theorem nodup_of_take{α:Type}{l:List α}(h:∀ (i:Nat) x,l[i]? = some x->x ∉ l.take i):l.Nodup:=by
 rw[List.nodup_iff_pairwise_ne,List.pairwise_iff_getElem]
 intro i j hi hj hij e
 refine h j l[j] (List.getElem?_eq_getElem hj) ?_
 rw[<- e]
 exact List.mem_of_getElem? (i:=i) (by rw[List.getElem?_take_of_lt hij];exact List.getElem?_eq_getElem hi)
theorem name_nodot{s:Str}(h:MName s):(46:UInt8) ∉ s:=by
 intro hm
 obtain⟨i,hi⟩:=List.getElem?_of_mem hm
 have:=h.1.2.2 i 46 hi
 unfold nameAt Ltr Dgt at this
 simp at this
theorem fulls_nodup_of:∀ {bs:List BoxB},(∀ b ∈ bs,(46:UInt8) ∉ b.name/\(b.ins++b.outs).Nodup)->(bs.map BoxB.name).Nodup->(fullsL bs).Nodup
 | [],_,_=>List.nodup_nil
 | b :: bs,h,hn=>by
  obtain⟨n1,n2⟩:=List.nodup_cons.1 (by simpa using hn:(b.name :: bs.map BoxB.name).Nodup)
  have ih:=fulls_nodup_of (fun x hx=>h x (by simp[hx])) n2
  obtain⟨hb1,hb2⟩:=h b (by simp)
  have hmap:((b.ins++b.outs).map (dot b.name)).Nodup:=by
   refine List.Pairwise.map _ ?_ hb2
   intro x y hne e
   exact hne (dot_inj hb1 hb1 e).2
  rw[fullsL_cons,<- List.map_append]
  refine List.nodup_append.2 ⟨hmap,ih,fun x hx y hy e=>?_⟩
  subst e
  obtain⟨p,hp,rfl⟩:=List.mem_map.1 hx
  simp only[fullsL,fullsB,List.mem_flatMap,List.mem_map] at hy
  obtain⟨b2,hb2',p2,_,e⟩:=hy
  have:=(dot_inj (h b2 (by simp[hb2'])).1 hb1 e).1
  exact n1 (List.mem_map.2 ⟨b2,hb2',this⟩)
theorem fulls_nodup{c:ConfigB}(h:(nameO c).1=0):(fullsL c.boxes).Nodup:=by
 refine fulls_nodup_of (fun b hb=>?_) (nodup_of_take fun i x hx=>?_)
 . obtain⟨i,hi⟩:=List.getElem?_of_mem hb
   obtain⟨h1,_,h3⟩:=names_ok h hi
   exact⟨name_nodot h1,nodup_of_take fun j s hs=>(ports_new h3 hs).2⟩
 . simp only[List.getElem?_map,Option.map_eq_some_iff] at hx
   obtain⟨b,hb,rfl⟩:=hx
   rw[<- List.map_take]
   exact (names_ok h hb).2.1
theorem nodup_idx{l:List Str}(h:l.Nodup){i j:Nat}{s:Str}(hi:l[i]? = some s)(hj:l[j]? = some s):i=j:=
 (List.getElem?_inj (List.getElem?_eq_some_iff.1 hi).1 h).1 (hi.trans hj.symm)
theorem fullIn_at{s:Str}:∀ {bs:List BoxB} {n:Nat},s ∈ fullInL bs->∃ k i:Nat,(fullsL bs)[k]? = some s/\(plcsN n bs)[k]? = some (i,True)
 | [],n,h=>by simp[fullInL] at h
 | b :: bs,n,h=>by
  simp only[fullInL,List.flatMap_cons,List.mem_append] at h
  rcases h with h|h
  . obtain⟨k,hk⟩:=List.getElem?_of_mem h
    have hkl:=(List.getElem?_eq_some_iff.1 hk).1
    simp only[List.length_map] at hkl
    refine⟨k,n,?_,?_⟩
    . rw[fullsL_cons,List.append_assoc,List.getElem?_append_left (by simpa using hkl)];exact hk
    . rw[plcsN_cons,List.append_assoc,List.getElem?_append_left (by simpa using hkl)];simp[List.getElem?_eq_getElem hkl]
  . obtain⟨k,i,h1,h2⟩:=fullIn_at (bs:=bs) (n:=n+1) h
    refine⟨b.ins.length+b.outs.length+k,i,?_,?_⟩
    . rw[fullsL_cons,List.getElem?_append_right (by simp),<- h1]
      congr 1
      simp
    . rw[plcsN_cons,List.getElem?_append_right (by simp),<- h2]
      congr 1
      simp
theorem fullOut_at{s:Str}:∀ {bs:List BoxB} {n:Nat},s ∈ fullOutL bs->∃ k i:Nat,(fullsL bs)[k]? = some s/\(plcsN n bs)[k]? = some (i,False)
 | [],n,h=>by simp[fullOutL] at h
 | b :: bs,n,h=>by
  simp only[fullOutL,List.flatMap_cons,List.mem_append] at h
  rcases h with h|h
  . obtain⟨k,hk⟩:=List.getElem?_of_mem h
    have hkl:=(List.getElem?_eq_some_iff.1 hk).1
    simp only[List.length_map] at hkl
    refine⟨b.ins.length+k,n,?_,?_⟩
    . rw[fullsL_cons,List.getElem?_append_left (by simp;omega),List.getElem?_append_right (by simp)]
      simpa using hk
    . rw[plcsN_cons,List.getElem?_append_left (by simp;omega),List.getElem?_append_right (by simp)]
      simp[List.getElem?_eq_getElem hkl]
  . obtain⟨k,i,h1,h2⟩:=fullOut_at (bs:=bs) (n:=n+1) h
    refine⟨b.ins.length+b.outs.length+k,i,?_,?_⟩
    . rw[fullsL_cons,List.getElem?_append_right (by simp),<- h1]
      congr 1
      simp
    . rw[plcsN_cons,List.getElem?_append_right (by simp),<- h2]
      congr 1
      simp
theorem full_place{bs:List BoxB}(hnd:(fullsL bs).Nodup){s:Str}(hs:s ∈ fullsL bs):∃ (i:Nat) (q:Prop),(plcs bs)[(plc (fullsL bs) s).toNat]? = some (i,q)/\(q ↔ s ∈ fullInL bs)/\(¬ q ↔ s ∈ fullOutL bs):=by
 obtain⟨h0,hk⟩:=plc_at hs
 obtain⟨i,q,b,e1,e2,e3⟩:=plcs_at hk
 have hin:s ∈ fullInL bs->(q ↔ True):=fun h=>by
  obtain⟨k,j,h1,h2⟩:=fullIn_at (n:=0) h
  have:=nodup_idx hnd h1 hk
  subst this
  have h3:(plcs bs)[(plc (fullsL bs) s).toNat]? = some (j,True):=h2
  rw[e1] at h3
  cases h3
  exact Iff.rfl
 have hout:s ∈ fullOutL bs->(q ↔ False):=fun h=>by
  obtain⟨k,j,h1,h2⟩:=fullOut_at (n:=0) h
  have:=nodup_idx hnd h1 hk
  subst this
  have h3:(plcs bs)[(plc (fullsL bs) s).toNat]? = some (j,False):=h2
  rw[e1] at h3
  cases h3
  exact Iff.rfl
 refine⟨i,q,e1,⟨fun hq=>?_,fun h=>(hin h).2 trivial⟩,⟨fun hq=>?_,fun h hq=>(hout h).1 hq⟩⟩
 . rcases mem_fulls.1 hs with h|h
   . exact h
   . exact ((hout h).1 hq).elim
 . rcases mem_fulls.1 hs with h|h
   . exact absurd ((hin h).2 trivial) hq
   . exact h
end Go.Proofs.YtcglkonooeddfaaGreatDoor
namespace Go.Proofs.YtcglkonooeddfaaGreatDoor
open Go Go.Vx
theorem fullsL_len(bs:List BoxB):(fullsL bs).length=nPorts bs:=by
 induction bs with
 | nil=>rfl
 | cons b bs ih=>
  rw[fullsL_cons]
  simp only[List.length_append,List.length_map,ih,nPorts,List.map_cons,List.sum_cons]
theorem count_ok{c:ConfigB}(h:(countO c).1=0):c.boxes.length<=16/\nPorts c.boxes<=48/\c.links.length<=48/\c.slices.length<=8:=by
 rw[countO_if] at h
 split at h
 . cases h
 split at h
 . cases h
 split at h
 . cases h
 split at h
 . cases h
 split at h
 . cases h
 split at h
 . cases h
 split at h
 . cases h
 omega
theorem tx_names{c:Config}(ht:c.Tx):∀ b ∈ c.boxes.l,b.name.length<=1048576/\(∀ s ∈ b.ins.l,s.length<=1048576)/\∀ s ∈ b.outs.l,s.length<=1048576:=fun b hb=>
 ⟨(ht.boxes b hb).name,(ht.boxes b hb).ins,(ht.boxes b hb).outs⟩
structure NumOk(c:ConfigB)(lst:List (Str × Int × Nat)):Prop where
 nd:(fullsL c.boxes).Nodup
 map:NMap lst (fullsL c.boxes)
 keys:mKeys lst
theorem NumOk.some{c:ConfigB}{lst:List (Str × Int × Nat)}(h:NumOk c lst){s:Str}(hs:s ∈ fullsL c.boxes):∃ (i:Nat) (q:Prop),lk lst s=Option.some (plc (fullsL c.boxes) s)/\((plcs c.boxes).map plRow)[((lk lst s).getD 0).toNat]? = Option.some (plRow (i,q))/\0<=(lk lst s).getD 0/\(lk lst s).getD 0<((plcs c.boxes).length:Nat)/\(q ↔ s ∈ fullInL c.boxes)/\(¬ q ↔ s ∈ fullOutL c.boxes):=by
 obtain⟨i,q,h1,h2,h3⟩:=full_place h.nd hs
 have hl:=(h.map s).2 hs
 have h0:=plc_at hs
 have h4:=plc_lt (fullsL c.boxes) s
 refine⟨i,q,hl,?_,?_,?_,h2,h3⟩
 . rw[hl]
   simp only[Option.getD_some,List.getElem?_map,h1]
   rfl
 . rw[hl];exact h0.1
 . rw[hl,plcs_len];exact h4
theorem NumOk.three{c:ConfigB}{lst:List (Str × Int × Nat)}(h:NumOk c lst)(s:Str) :
    (s ∉ fullIn c/\s ∉ fullOut c/\¬ (lk lst s).isSome=true) \/
    (s ∈ fullIn c/\s ∉ fullOut c/\(lk lst s).isSome=true/\0<=(lk lst s).getD 0/\(lk lst s).getD 0<((plcs c.boxes).length:Nat)/\∃ i:Nat,((plcs c.boxes).map plRow)[((lk lst s).getD 0).toNat]? = Option.some (plRow (i,True))) \/
    (s ∉ fullIn c/\s ∈ fullOut c/\(lk lst s).isSome=true/\0<=(lk lst s).getD 0/\(lk lst s).getD 0<((plcs c.boxes).length:Nat)/\∃ i:Nat,((plcs c.boxes).map plRow)[((lk lst s).getD 0).toNat]? = Option.some (plRow (i,False))):=by
 by_cases hs:s ∈ fullsL c.boxes
 . obtain⟨i,q,h1,h2,h3,h4,h5,h6⟩:=h.some hs
   right
   have h7:(lk lst s).isSome=true:=by rw[h1];rfl
   by_cases hq:q
   . obtain rfl:q=True:=propext ⟨fun _=>trivial,fun _=>hq⟩
     exact Or.inl ⟨h5.1 trivial,fun g=>h6.2 g trivial,h7,h3,h4,i,h2⟩
   . obtain rfl:q=False:=propext ⟨fun g=>hq g,fun g=>g.elim⟩
     exact Or.inr ⟨fun g=>h5.2 g,h6.1 hq,h7,h3,h4,i,h2⟩
 . refine Or.inl ⟨fun g=>hs (mem_fulls.2 (Or.inl g)),fun g=>hs (mem_fulls.2 (Or.inr g)),?_⟩
   rw[(h.map s).1 hs]
   simp
theorem NumOk.some_iff{c:ConfigB}{lst:List (Str × Int × Nat)}(h:NumOk c lst)(s:Str):(lk lst s).isSome=true ↔ s ∈ fullsL c.boxes:=by
 constructor
 . intro g
   refine Classical.byContradiction fun hn=>?_
   rw[(h.map s).1 hn] at g
   cases g
 . intro g
   rw[(h.map s).2 g]
   rfl
theorem born_inj{κ α:Type}{l:List (κ × α × Nat)}:(l.map fun e=>e.2.2).Nodup->∀ {x y:κ × α × Nat},x ∈ l->y ∈ l->x.2.2=y.2.2->x=y:=by
 induction l with
 | nil=>intro _ x y hx;cases hx
 | cons z l ih=>
  intro h x y hx hy he
  rw[List.map_cons,List.nodup_cons] at h
  rcases List.mem_cons.1 hx with rfl|hx'<;>rcases List.mem_cons.1 hy with rfl|hy'
  . rfl
  . exact absurd (List.mem_map.2 ⟨y,hy',he.symm⟩) h.1
  . exact absurd (List.mem_map.2 ⟨x,hx',he⟩) h.1
  . exact ih h.2 hx' hy' he
theorem seen_less{κ α:Type}{l:List (κ × α × Nat)}{seen:List Nat}{e:κ × α × Nat}(he:e ∈ l)(hn:e.2.2 ∉ seen):(l.filter fun x=>decide (x.2.2 ∉ seen++[e.2.2])).length<(l.filter fun x=>decide (x.2.2 ∉ seen)).length:=by
 induction l with
 | nil=>cases he
 | cons y l ih=>
  have hsub:(l.filter fun x=>decide (x.2.2 ∉ seen++[e.2.2])).length<=(l.filter fun x=>decide (x.2.2 ∉ seen)).length:=by
   rw[<- List.countP_eq_length_filter,<- List.countP_eq_length_filter]
   exact List.countP_mono_left fun x _ h=>by simp only[decide_eq_true_eq,List.mem_append,not_or] at h ⊢;exact h.1
  rcases List.mem_cons.1 he with rfl|he
  . rw[List.filter_cons_of_neg (by simp),List.filter_cons_of_pos (by simpa using hn)]
    simp only[List.length_cons]
    omega
  . have:=ih he
    by_cases hy:y.2.2 ∈ seen
    . rw[List.filter_cons_of_neg (by simp[hy]),List.filter_cons_of_neg (by simp[hy])]
      exact this
    . have h1:(List.filter (fun x=>decide (x.2.2 ∉ seen)) (y :: l)).length=(List.filter (fun x=>decide (x.2.2 ∉ seen)) l).length+1:=by
        rw[List.filter_cons_of_pos (by simpa using hy)]
        rfl
      rw[h1]
      have h2:(List.filter (fun x=>decide (x.2.2 ∉ seen++[e.2.2])) (y :: l)).length<=(List.filter (fun x=>decide (x.2.2 ∉ seen++[e.2.2])) l).length+1:=by
       rw[List.filter_cons]
       split<;>simp
      omega
section
variable {c : ConfigB} {pre : List Link} {x : Link}
theorem linkE_frm(h:sidesI [x.frm] (fullOut c) (fullIn c) ≠ 0):linkE c pre x=(sidesI [x.frm] (fullOut c) (fullIn c),x.frm):=if_pos h
theorem linkE_to(h:¬ sidesI [x.frm] (fullOut c) (fullIn c) ≠ 0)(h2:sidesI [x.dst] (fullIn c) (fullOut c) ≠ 0):linkE c pre x=(sidesI [x.dst] (fullIn c) (fullOut c),x.dst):=by unfold linkE;rw[if_neg h,if_pos h2]
theorem linkE_cost(h:¬ sidesI [x.frm] (fullOut c) (fullIn c) ≠ 0)(h2:¬ sidesI [x.dst] (fullIn c) (fullOut c) ≠ 0)(h3:x.cost<1\/9999<x.cost):linkE c pre x=(71,x.frm):=by unfold linkE;rw[if_neg h,if_neg h2,if_pos h3]
theorem linkE_dbl(h:¬ sidesI [x.frm] (fullOut c) (fullIn c) ≠ 0)(h2:¬ sidesI [x.dst] (fullIn c) (fullOut c) ≠ 0)(h3:¬ (x.cost<1\/9999<x.cost))(h4:∃ y ∈ pre,y.frm=x.frm):linkE c pre x=(75,x.frm):=by unfold linkE;rw[if_neg h,if_neg h2,if_neg h3,if_pos h4]
theorem linkE_ok(h:¬ sidesI [x.frm] (fullOut c) (fullIn c) ≠ 0)(h2:¬ sidesI [x.dst] (fullIn c) (fullOut c) ≠ 0)(h3:¬ (x.cost<1\/9999<x.cost))(h4:¬ ∃ y ∈ pre,y.frm=x.frm):linkE c pre x=(0,[]):=by unfold linkE;rw[if_neg h,if_neg h2,if_neg h3,if_neg h4]
end
set_option maxRecDepth 100000 in
set_option maxHeartbeats 16000000 in
theorem mlinks_at(c:Config)(hc:c.Ok)(ht:c.Tx)(hn:(nameO c.b).1=0)(hcn:(countO c.b).1=0) :
    FSpecH Tryz.prog T [] 78 [.agg c.row] (fun d rows M=>(d = .tup [.i .i64 (linkO c.b).1,.s (linkO c.b).2]/\rows=[])/\M=[]):=by
 have hll:(c.links.l.map Link.row).length=c.links.l.length:=by simp
 have hL:=hc.links
 have hpn:(fullsL c.b.boxes).length<=1000:=by rw[fullsL_len];have:=(count_ok hcn).2.1;omega
 have hnum:=numbered_at c hc (tx_names ht) hpn
 have hpr:((plcs c.b.boxes).map plRow).length=(plcs c.b.boxes).length:=by simp
 refine FSpecH.of_ok0 tok Tryz.func78 rfl Tryz.call78 (by simp) ?_
 (try (conv=>whnf));repeat' (first|((first|refine⟨_,_,_,_,_,mtSI,fun _ _=>?_⟩|refine⟨_,_,_,_,_,_,_,mtSI,(by first|exact .head _|exact .tail _ (.head _)|exact .tail _ (.tail _ (.head _))|exact List.mem_append_left _ (by assumption)),fun _ _=>?_⟩);conv=>whnf)|(refine Or.inr (Or.inl ?_);(conv=>whnf);(repeat (refine aI ?_;conv=>whnf));refine⟨_,hnum , ?_⟩;rintro _ _ _ ⟨gn,lst,cn,rfl,rfl,rfl,hnm,hwf,hky⟩<;>(conv=>whnf))|refine OkM.seq ?_|(refine OkM.region tok ?_;conv=>whnf)|refine OkM.block ?_|fail)
 rename_i gf hgf gi hgi
 have hN:NumOk c.b lst:=⟨fulls_nodup hn,hnm,hky⟩
 refine OkM.loopU [1,4,5,6,23] [] 1 3 (fun (x:List (Str × Int × Nat) × Nat × List Nat)=>[]) (fun _ b=>b) (fun _ r=>r) (fun (x:List (Str × Int × Nat) × Nat × List Nat)=>[(gi,itObj gn cn x.2.2),(gf,mObj D.s fI x.1 x.2.1),(gn,mObj D.s fI lst cn)]) (fun (x:List (Str × Int × Nat) × Nat × List Nat)=>mKeys x.1/\∀ s,(lk x.1 s).isSome=true ↔ ∃ e ∈ lst,e.2.2 ∈ x.2.2/\e.1=s/\s ∈ fullOutL c.b.boxes) (fun (x:List (Str × Int × Nat) × Nat × List Nat)=>(lst.filter fun e=>decide (e.2.2 ∉ x.2.2)).length) (([],0,[])) (⟨List.nodup_nil,fun s=>by simp[lk_nil]⟩) (by first|exact .refl _|exact .cons _ (.refl _)|exact List.nil_sublist _) ?_;(conv=>whnf);refine⟨by ((conv=>whnf);first|rfl|(simp[envCat, List.take_of_length_le, SI.row, Node.row, Pfx.row, Link.row, srow, Line.row, Rule.row, Box.row, Slc.row, Config.row, plRow];done)|(simp[envCat, List.take_of_length_le, SI.row, Node.row, Pfx.row, Link.row, srow, Line.row, Rule.row, Box.row, Slc.row, Config.row, plRow];rw[IntKind.wrap_i64];omega)),?_⟩
 rintro⟨lf,cf,seen⟩ ⟨hkf,hfr⟩
 dsimp only at hkf hfr ⊢
 (conv=>whnf)
 refine OkM.seq ?_
 refine OkM.region tok ?_
 (conv=>whnf)
 refine⟨_,_,inferInstance,_,_,_,_,0,_,_,fun _=>rfl,fun _=>rfl,hwf,rfl,.tail _ (.tail _ (.head _)),?_,?_⟩
 rotate_left
 . intro e he hns
   have hle:=lk_of hky he
   have heF:e.1 ∈ fullsL c.b.boxes:=(hN.some_iff e.1).1 (by rw[hle];rfl)
   obtain⟨bi,q,h1,h2,h3,h4,h5,h6⟩:=hN.some heF
   rw[hle] at h2 h3 h4
   simp only[Option.getD_some] at h2 h3 h4
   (conv=>whnf)
   (try (conv=>whnf));repeat' (first|((first|refine⟨_,_,inferInstance,_,_,_,_,0,_,_,e,fun _=>rfl,fun _=>rfl,hwf,rfl,.tail _ (.tail _ (.head _)),he,?_⟩|refine⟨_,_,_,_,_,_,_,1,_,_,mtSI,rfl,rfl,rfl,?_⟩);conv=>whnf)|refine OkM.seq ?_|((first|refine OkM.region tok ?_|refine OkM.cond ?_);conv=>whnf)|refine OkM.block ?_|((first|refine OkM.skip ?_|refine⟨_,by assumption,?_⟩);conv=>whnf)|(refine bI ?_ ?_<;>intro<;>(conv=>whnf)<;>(try (exfalso;omega)))|(refine aJ ?_;conv=>whnf)|fail)
   . refine⟨((mput lf cf e.1 e.2.1).1,(mput lf cf e.1 e.2.1).2,seen++[e.2.2]),seen_less he hns,⟨mput_keys hkf _ _,fun s=>?_⟩,List.Sublist.refl _,?_⟩
     . dsimp only
       have hq:e.1 ∈ fullOutL c.b.boxes:=h6.1 (by assumption)
       rw[mput_lk]
       by_cases hs:s=e.1
       . rw[if_pos hs]
         exact⟨fun _=>⟨e,he,by simp,hs.symm,by rw[hs];exact hq⟩,fun _=>rfl⟩
       . rw[if_neg hs,hfr s]
         constructor
         . rintro⟨e',a1,a2,a3,a4⟩
           exact⟨e',a1,List.mem_append_left _ a2,a3,a4⟩
         . rintro⟨e',a1,a2,a3,a4⟩
           rcases List.mem_append.1 a2 with a2|a2
           . exact⟨e',a1,a2,a3,a4⟩
           . exact absurd (by rw[<- a3,born_inj hwf.1 a1 he (List.mem_singleton.1 a2)]) hs
     . (conv=>whnf);(first|rfl|simp[envCat, List.take_of_length_le, SI.row, Node.row, Pfx.row, Link.row, srow, Line.row, Rule.row, Box.row, Slc.row, Config.row, plRow])
   . refine⟨(lf,cf,seen++[e.2.2]),seen_less he hns,⟨hkf,fun s=>?_⟩,List.Sublist.refl _,?_⟩
     . dsimp only
       have hq:¬ e.1 ∈ fullOutL c.b.boxes:=fun g=>(by assumption:¬ ¬ (bi,q).2) (h6.2 g)
       rw[hfr s]
       constructor
       . rintro⟨e',a1,a2,a3,a4⟩
         exact⟨e',a1,List.mem_append_left _ a2,a3,a4⟩
       . rintro⟨e',a1,a2,a3,a4⟩
         rcases List.mem_append.1 a2 with a2|a2
         . exact⟨e',a1,a2,a3,a4⟩
         . exact absurd (by rw[<- a3,born_inj hwf.1 a1 he (List.mem_singleton.1 a2)] at a4;exact a4) hq
     . (conv=>whnf);(first|rfl|simp[envCat, List.take_of_length_le, SI.row, Node.row, Pfx.row, Link.row, srow, Line.row, Rule.row, Box.row, Slc.row, Config.row, plRow])
 . intro hall
   have hfree:∀ s,(lk lf s).isSome=true ↔ s ∈ fullOutL c.b.boxes/\∀ y ∈ c.links.l.take 0,y.frm ≠ s:=by
    intro s
    rw[hfr s]
    constructor
    . rintro⟨e,_,_,_,h⟩
      exact⟨h,fun y hy=>by simp at hy⟩
    . rintro⟨h,_⟩
      have hs:s ∈ fullsL c.b.boxes:=mem_fulls.2 (Or.inr h)
      have:=(hN.some_iff s).2 hs
      obtain⟨a,ha⟩:=Option.isSome_iff_exists.1 this
      obtain⟨n,hm⟩:=lk_mem ha
      exact⟨_,hm,hall _ hm,rfl,h⟩
   clear hfr
   (try (conv=>whnf));repeat' (first|refine OkM.seq ?_|((first|refine OkM.region tok ?_|refine OkM.cond ?_|refine OkM.exit ?_);conv=>whnf)|fail)
   refine Or.inr ?_
   (conv=>whnf)
   (try (conv=>whnf));repeat' (first|refine OkM.seq ?_|(refine OkM.region tok ?_;conv=>whnf)|refine OkM.block ?_|fail)
   refine OkM.loopU [6,9,40,41] [42] 1 3 (fun (x:Nat × List (Str × Int × Nat) × Nat)=>[.i .i64 x.1]) (fun _ b=>b) (fun _ r=>r) (fun (x:Nat × List (Str × Int × Nat) × Nat)=>[(gf,mObj D.s fI x.2.1 x.2.2),(gn,mObj D.s fI lst cn)]) (fun (x:Nat × List (Str × Int × Nat) × Nat)=>x.1<=c.links.l.length/\linkO c.b=firstE (linkE c.b) (c.links.l.take x.1) (c.links.l.drop x.1)/\mKeys x.2.1/\∀ s,(lk x.2.1 s).isSome=true ↔ s ∈ fullOutL c.b.boxes/\∀ y ∈ c.links.l.take x.1,y.frm ≠ s) (fun (x:Nat × List (Str × Int × Nat) × Nat)=>c.links.l.length - x.1) ((0,lf,cf)) (⟨Nat.zero_le _,rfl,hkf,hfree⟩) (by first|exact .refl _|exact .cons _ (.refl _)|exact List.nil_sublist _) ?_;(conv=>whnf);refine⟨by ((conv=>whnf);first|rfl|(simp[envCat, List.take_of_length_le, SI.row, Node.row, Pfx.row, Link.row, srow, Line.row, Rule.row, Box.row, Slc.row, Config.row, plRow];done)|(simp[envCat, List.take_of_length_le, SI.row, Node.row, Pfx.row, Link.row, srow, Line.row, Rule.row, Box.row, Slc.row, Config.row, plRow];rw[IntKind.wrap_i64];omega)),?_⟩
   rintro⟨k,lf,cf⟩ ⟨hk,hO,hkf,hfr⟩
   dsimp only at hk hO hkf hfr ⊢
   by_cases hlt:k<c.links.l.length
   . obtain⟨x,hx⟩:∃ x,c.links.l[k]? = some x:=⟨_,List.getElem?_eq_getElem hlt⟩
     have hxr:(c.links.l.map Link.row)[k]? = some x.row:=by rw[List.getElem?_map,hx];rfl
     (conv=>whnf)
     (try (conv=>whnf));repeat' (first|refine OkM.seq ?_|((first|refine OkM.region tok ?_|refine OkM.cond ?_);conv=>whnf)|refine OkM.block ?_|((first|refine OkM.skip ?_|refine ix _ (by assumption) ?_);conv=>whnf)|(refine bI ?_ ?_<;>intro<;>(conv=>whnf)<;>(try (exfalso;omega)))|fail)
     have hdr:linkO c.b=if (linkE c.b (c.links.l.take k) x).1 ≠ 0 then linkE c.b (c.links.l.take k) x else firstE (linkE c.b) (c.links.l.take (k+1)) (c.links.l.drop (k+1)):=by rw[hO,firstE_split hx]
     rcases hN.three x.frm with⟨a1,a2,a3⟩|⟨a1,a2,a3,a4,a5,ai,a6⟩|⟨a1,a2,a3,a4,a5,ai,a6⟩
     . have hE:linkE c.b (c.links.l.take k) x=(73,x.frm):=by
         have h1:sidesI [x.frm] (fullOut c.b) (fullIn c.b)=73:=by rw[sidesI_one,sideE_unk a2 a1]
         rw[linkE_frm (by rw[h1];decide),h1]
       refine Or.inr ?_;(conv=>whnf);refine⟨_,_,Tryz.func141,rfl,Tryz.call141,?_⟩;(conv=>whnf)
       (try (conv=>whnf));repeat' (first|(exact absurd a3 (by assumption))|(refine⟨_,_,_,_,_,_,_,_,mtSI,(by first|exact .head _|exact .tail _ (.head _)|exact .tail _ (.tail _ (.head _))|exact .tail _ (.tail _ (.tail _ (.head _)))|exact List.mem_append_left _ (by assumption)),rfl,?_⟩;conv=>whnf)|refine OkM.seq ?_|((first|refine OkM.region tok ?_|refine OkM.of_ok (Ok.region_draw tok follows (by kernel_rfl) ?_)|refine OkM.cond ?_|refine OkM.ret ?_);conv=>whnf)|(refine bI ?_ ?_<;>intro<;>(conv=>whnf)<;>(try (exfalso;omega)))|fail)
       all_goals first
        | exact absurd a3 (by assumption)
        | (refine Or.inl ?_;(conv=>whnf)
           exact⟨by rw[hdr,hE];rfl,rfl⟩)
     . have hE:linkE c.b (c.links.l.take k) x=(74,x.frm):=by
         have h1:sidesI [x.frm] (fullOut c.b) (fullIn c.b)=74:=by rw[sidesI_one,sideE_side a2 a1]
         rw[linkE_frm (by rw[h1];decide),h1]
       have a7:¬ ((ai,True).2 ↔ False):=fun h=>h.1 trivial
       refine Or.inr ?_;(conv=>whnf);refine⟨_,_,Tryz.func141,rfl,Tryz.call141,?_⟩;(conv=>whnf)
       (try (conv=>whnf));repeat' (first|(exact absurd a3 (by assumption))|(exact absurd a7 (by assumption))|(refine⟨_,_,_,_,_,_,_,_,mtSI,(by first|exact .head _|exact .tail _ (.head _)|exact .tail _ (.tail _ (.head _))|exact .tail _ (.tail _ (.tail _ (.head _)))|exact List.mem_append_left _ (by assumption)),rfl,?_⟩;conv=>whnf)|refine OkM.seq ?_|((first|refine OkM.region tok ?_|refine OkM.of_ok (Ok.region_draw tok follows (by kernel_rfl) ?_)|refine OkM.cond ?_|refine OkM.skip ?_|refine OkM.ret ?_|refine⟨_,by assumption,?_⟩);conv=>whnf)|(refine bI ?_ ?_<;>intro<;>(conv=>whnf)<;>(try (exfalso;omega)))|(refine aJ ?_;conv=>whnf)|fail)
       all_goals first
        | (refine Or.inl ?_;(conv=>whnf)
           exact⟨by rw[hdr,hE];rfl,rfl⟩)
     . have h1:¬ sidesI [x.frm] (fullOut c.b) (fullIn c.b) ≠ 0:=by rw[sidesI_one,sideE_ok a2 (by simp)];simp
       have a7:(ai,False).2 ↔ False:=Iff.rfl
       have hE3:=linkE_to (pre:=c.links.l.take k) h1
       refine Or.inr ?_;(conv=>whnf);refine⟨_,_,Tryz.func141,rfl,Tryz.call141,?_⟩;(conv=>whnf)
       (try (conv=>whnf));repeat' (first|(exact absurd a3 (by assumption))|(exact absurd a7 (by assumption))|(refine⟨_,_,_,_,_,_,_,_,mtSI,(by first|exact .head _|exact .tail _ (.head _)|exact .tail _ (.tail _ (.head _))|exact .tail _ (.tail _ (.tail _ (.head _)))|exact List.mem_append_left _ (by assumption)),rfl,?_⟩;conv=>whnf)|refine OkM.seq ?_|((first|refine OkM.region tok ?_|refine OkM.cond ?_|refine OkM.skip ?_|refine OkM.ret ?_|refine⟨_,by assumption,?_⟩);conv=>whnf)|(refine bI ?_ ?_<;>intro<;>(conv=>whnf)<;>(try (exfalso;omega)))|(refine aJ ?_;conv=>whnf)|fail)
       rcases hN.three x.dst with⟨b1,b2,b3⟩|⟨b1,b2,b3,b4,b5,bi,b6⟩|⟨b1,b2,b3,b4,b5,bi,b6⟩
       . have hE:linkE c.b (c.links.l.take k) x=(73,x.dst):=by
           have h1:sidesI [x.dst] (fullIn c.b) (fullOut c.b)=73:=by rw[sidesI_one,sideE_unk b1 b2]
           rw[hE3 (by rw[h1];decide),h1]
         refine Or.inr ?_;(conv=>whnf);refine⟨_,_,Tryz.func141,rfl,Tryz.call141,?_⟩;(conv=>whnf)
         (try (conv=>whnf));repeat' (first|(exact absurd b3 (by assumption))|(refine⟨_,_,_,_,_,_,_,_,mtSI,(by first|exact .head _|exact .tail _ (.head _)|exact .tail _ (.tail _ (.head _))|exact .tail _ (.tail _ (.tail _ (.head _)))|exact List.mem_append_left _ (by assumption)),rfl,?_⟩;conv=>whnf)|refine OkM.seq ?_|((first|refine OkM.region tok ?_|refine OkM.of_ok (Ok.region_draw tok follows (by kernel_rfl) ?_)|refine OkM.cond ?_|refine OkM.ret ?_);conv=>whnf)|(refine bI ?_ ?_<;>intro<;>(conv=>whnf)<;>(try (exfalso;omega)))|fail)
         all_goals first
          | (refine Or.inl ?_;(conv=>whnf)
             exact⟨by rw[hdr,hE];rfl,rfl⟩)
       . have h2:¬ sidesI [x.dst] (fullIn c.b) (fullOut c.b) ≠ 0:=by rw[sidesI_one,sideE_ok b1 (by simp)];simp
         have b7:(bi,True).2 ↔ True:=Iff.rfl
         refine Or.inr ?_;(conv=>whnf);refine⟨_,_,Tryz.func141,rfl,Tryz.call141,?_⟩;(conv=>whnf)
         (try (conv=>whnf));repeat' (first|(exact absurd b3 (by assumption))|(exact absurd b7 (by assumption))|((first|refine⟨_,_,_,_,_,_,_,_,mtSI,(by first|exact .head _|exact .tail _ (.head _)|exact .tail _ (.tail _ (.head _))|exact .tail _ (.tail _ (.tail _ (.head _)))|exact List.mem_append_left _ (by assumption)),rfl,?_⟩|refine⟨_,_,_,_,_,_,_,0,_,mtSI,rfl,rfl,?_⟩);conv=>whnf)|refine OkM.seq ?_|((first|refine OkM.region tok ?_|refine OkM.of_ok (Ok.region_draw tok follows (by kernel_rfl) ?_)|refine OkM.cond ?_|refine OkM.skip ?_|refine OkM.ret ?_|refine nI ?_|refine⟨_,by assumption,?_⟩);conv=>whnf)|(refine bI ?_ ?_<;>intro<;>(conv=>whnf)<;>(try (exfalso;omega)))|(refine aJ ?_;conv=>whnf)|fail)
         all_goals first
          | (have hE:=linkE_cost (c:=c.b) (pre:=c.links.l.take k) (x:=x) h1 h2 (by omega)
             refine Or.inl ?_;(conv=>whnf)
             exact⟨by rw[hdr,hE];rfl,rfl⟩)
          | (have hE:=linkE_dbl (c:=c.b) (pre:=c.links.l.take k) (x:=x) h1 h2 (by omega) (by
               refine Classical.byContradiction fun hn=>(by assumption:¬ (lk lf x.frm).isSome=true) ((hfr x.frm).2 ⟨a2,fun y hy he=>hn ⟨y,hy,he⟩⟩))
             refine Or.inl ?_;(conv=>whnf)
             exact⟨by rw[hdr,hE];rfl,rfl⟩)
          | skip
         rename_i hc1 hc2 hfs
         have hfr0:=(hfr x.frm).1 (Classical.not_not.1 hfs)
         have hE:=linkE_ok (c:=c.b) (pre:=c.links.l.take k) (x:=x) h1 h2 (by omega) (fun⟨y,hy,he⟩=>hfr0.2 y hy he)
         refine⟨(k+1,mdel lf x.frm,cf),by dsimp only;omega,⟨by dsimp only;omega,by rw[hdr,hE];rfl,mdel_keys hkf _,fun s=>?_⟩,List.Sublist.refl _,?_⟩
         . dsimp only
           rw[mdel_lk hkf,List.take_add_one,hx]
           by_cases hs:s=x.frm
           . rw[if_pos hs]
             exact⟨fun h=>by simp at h,fun h=>absurd hs.symm (h.2 x (by simp))⟩
           . rw[if_neg hs,hfr s]
             constructor
             . rintro⟨g1,g2⟩
               refine⟨g1,fun y hy=>?_⟩
               rcases List.mem_append.1 hy with hy|hy
               . exact g2 y hy
               . simp at hy
                 rw[hy]
                 exact fun h=>hs h.symm
             . rintro⟨g1,g2⟩
               exact⟨g1,fun y hy=>g2 y (List.mem_append_left _ hy)⟩
         . (conv=>whnf)
           rfl
       . have hE:linkE c.b (c.links.l.take k) x=(74,x.dst):=by
           have h1:sidesI [x.dst] (fullIn c.b) (fullOut c.b)=74:=by rw[sidesI_one,sideE_side b1 b2]
           rw[hE3 (by rw[h1];decide),h1]
         have b7:¬ ((bi,False).2 ↔ True):=fun h=>h.2 trivial
         refine Or.inr ?_;(conv=>whnf);refine⟨_,_,Tryz.func141,rfl,Tryz.call141,?_⟩;(conv=>whnf)
         (try (conv=>whnf));repeat' (first|(exact absurd b3 (by assumption))|(exact absurd b7 (by assumption))|(refine⟨_,_,_,_,_,_,_,_,mtSI,(by first|exact .head _|exact .tail _ (.head _)|exact .tail _ (.tail _ (.head _))|exact .tail _ (.tail _ (.tail _ (.head _)))|exact List.mem_append_left _ (by assumption)),rfl,?_⟩;conv=>whnf)|refine OkM.seq ?_|((first|refine OkM.region tok ?_|refine OkM.of_ok (Ok.region_draw tok follows (by kernel_rfl) ?_)|refine OkM.cond ?_|refine OkM.skip ?_|refine OkM.ret ?_|refine⟨_,by assumption,?_⟩);conv=>whnf)|(refine bI ?_ ?_<;>intro<;>(conv=>whnf)<;>(try (exfalso;omega)))|(refine aJ ?_;conv=>whnf)|fail)
         all_goals first
          | (refine Or.inl ?_;(conv=>whnf)
             exact⟨by rw[hdr,hE];rfl,rfl⟩)
   . obtain rfl:k=c.links.l.length:=by omega
     rw[firstE_nil (by simp)] at hO
     (conv=>whnf)
     (try (conv=>whnf));repeat' (first|refine OkM.seq ?_|((first|refine OkM.region tok ?_|refine OkM.cond ?_|refine OkM.exit ?_|refine OkM.ret ?_);conv=>whnf)|(refine bI ?_ ?_<;>intro<;>(conv=>whnf)<;>(try (exfalso;omega)))|fail)
     all_goals first
      | (exfalso;omega)
      | (refine Or.inl ?_;(conv=>whnf)
         exact⟨by rw[hO];rfl,rfl⟩)
end Go.Proofs.YtcglkonooeddfaaGreatDoor
namespace Go.Proofs.YtcglkonooeddfaaGreatDoor
open Go Go.Vx
section
variable {c : ConfigB} {pre : List Str} {p : Str}
theorem sportE_unk(h:p ∉ fullIn c/\p ∉ fullOut c):sportE c pre p=(73,p):=if_pos h
theorem sportE_dbl(h:¬ (p ∉ fullIn c/\p ∉ fullOut c))(h2:p ∈ pre):sportE c pre p=(72,p):=by unfold sportE;rw[if_neg h,if_pos h2]
theorem sportE_ok(h:¬ (p ∉ fullIn c/\p ∉ fullOut c))(h2:p ∉ pre):sportE c pre p=(0,[]):=by unfold sportE;rw[if_neg h,if_neg h2]
variable {pr : List SlcB} {s : SlcB}
theorem sliceE_bad(h:¬ MName s.name):sliceE c pr s=(36,s.name):=if_pos h
theorem sliceE_dbl(h:MName s.name)(h2:s.name ∈ pr.map SlcB.name):sliceE c pr s=(72,s.name):=by
 unfold sliceE
 rw[if_neg fun g=>g h,if_pos (by obtain⟨x,hx,e⟩:=List.mem_map.1 h2;exact⟨x,hx,e⟩)]
theorem sliceE_ok(h:MName s.name)(h2:s.name ∉ pr.map SlcB.name):sliceE c pr s=orE (firstE (sportE c) [] s.ports) (if chkE (fds c.fields) (nds s.whr) ≠ 0 then (77,s.name) else (0,[])):=by
 unfold sliceE
 rw[if_neg fun g=>g h,if_neg (by rintro⟨x,hx,e⟩;exact h2 (List.mem_map.2 ⟨x,hx,e⟩))]
end
end Go.Proofs.YtcglkonooeddfaaGreatDoor
