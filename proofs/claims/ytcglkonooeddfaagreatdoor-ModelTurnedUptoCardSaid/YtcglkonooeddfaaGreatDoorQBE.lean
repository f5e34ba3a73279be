/- The walks and the plain laws that a law of networks needs, part 5 of 5. -/
import Derived.Test.YtcglkonooeddfaaGreatDoorQBD
import Derived.Test.YtcglkonooeddfaaGreatDoorRows
import Derived.ProofKit
import Derived.OpenShut
import Derived.LaidMore
import Derived.Lay
import Derived.Lib.LaidTab
set_option linter.unusedVariables false
set_option linter.unusedSimpArgs false
namespace Go.Proofs.YtcglkonooeddfaaGreatDoor
open Go Go.Vx
set_option maxRecDepth 100000 in
set_option maxHeartbeats 16000000 in
theorem word_ok:WordOk:=by
 intro l r S r2 hch hS
 obtain⟨hlay,hl12⟩:=chk_lay hch
 have hSl:(S.map SI.row).length=S.length:=by simp
 have hll:(l.map frow).length=l.length:=by simp
 have hrc:=check_at l r (by omega)
 have hw:=wid_le hlay
 have hrw:=width_at l r (by omega) hlay
 have hxs:=xrep_at (wid l) (by omega)
 have hxl:(xsT (wid l)).length=wid l:=by simp[xsT]
 rw[show chkO l=(0,(chkO l).2) from by rw[<- hch]] at hrc
 refine FSpec.of_ok tok Tryz.func257 rfl Tryz.call257 (by simp) ?_
 by_cases h12:12<S.length
 . (try (conv=>whnf));repeat' (first|refine Ok.seq ?_|((first|refine Ok.region tok ?_|refine Ok.cond ?_|refine Ok.ret ?_);conv=>whnf)|(refine bI ?_ ?_<;>intro<;>(conv=>whnf)<;>(try (exfalso;omega)))|fail)
   all_goals first
    | (exfalso;omega)
    | (refine Or.inl ?_;(conv=>whnf)
       exact⟨⟨_,by rw[wordI_long h12];rfl⟩,rfl⟩)
 (try (conv=>whnf));repeat' (first|refine Ok.seq ?_|((first|refine Ok.region tok ?_|refine Ok.cond ?_);conv=>whnf)|refine Ok.block ?_|(refine Ok.skip ?_;conv=>whnf)|(refine Or.inl ?_;(conv=>whnf);(repeat (refine aI ?_;conv=>whnf));refine⟨_,hrc,rfl,?_⟩;conv=>whnf)|(refine Or.inl ?_;(conv=>whnf);(repeat (refine aI ?_;conv=>whnf));refine⟨_,hrw,rfl,?_⟩;conv=>whnf)|(refine Or.inl ?_;(conv=>whnf);(repeat (refine aI ?_;conv=>whnf));refine⟨_,hxs,rfl,?_⟩;conv=>whnf)|(refine bI ?_ ?_<;>intro<;>(conv=>whnf)<;>(try (exfalso;omega)))|(refine aJ ?_;conv=>whnf)|fail)
 all_goals first
  | (exfalso;omega)
  | skip
 have hwI:=wordI_ok h12 hch
 rw[hxl]
 refine Ok.loopU [0,1,8,35,36] [37] 1 0 (fun (x:Nat × Str)=>[.i .i64 (x.1:Nat)]) (fun _ b=>b) (fun (x:Nat × Str) (_:Vx.Rows)=>[some (Nat.add 5 BIG,x.2.map bcell)]) (fun (x:Nat × Str)=>x.1<=S.length/\x.2.length=wid l/\wordI l S=(firstE (setE l) (S.take x.1) (S.drop x.1)).1) (fun (x:Nat × Str)=>S.length - x.1) ((0,xsT (wid l))) (⟨Nat.zero_le _,hxl,hwI⟩) ?_;(conv=>whnf);refine⟨by ((conv=>whnf);first|rfl|(simp[envCat, List.take_of_length_le, SI.row, Node.row, Pfx.row, Link.row, srow, Line.row, Rule.row, Box.row, Slc.row, Config.row, frow, bcell];done)|(simp[envCat, List.take_of_length_le, SI.row, Node.row, Pfx.row, Link.row, srow, Line.row, Rule.row, Box.row, Slc.row, Config.row, frow, bcell];rw[IntKind.wrap_i64];omega)),?_⟩
 rintro⟨i,w⟩ ⟨hi,hwl,hfe⟩
 dsimp only at hi hwl hfe ⊢
 have hwb:(w.map bcell).length=wid l:=by rw[List.length_map,hwl]
 (conv=>whnf)
 by_cases hil:i<S.length
 . obtain⟨s,hs⟩:∃ s,S[i]? = some s:=⟨_,List.getElem?_eq_getElem hil⟩
   have hsI:S[((i:Nat):Int).toNat]? = some s:=hs
   have hsR:(S.map SI.row)[((i:Nat):Int).toNat]? = some s.row:=by rw[List.getElem?_map,hsI];rfl
   have htp:=find_at l r s.s (by omega)
   by_cases hu:findI s.s l 0<0
   . rw[firstE_bad hs (by rw[setE_unk hu];simp),setE_unk hu] at hfe
     (try (conv=>whnf));repeat' (first|refine Ok.seq ?_|((first|refine Ok.region tok ?_|refine Ok.cond ?_);conv=>whnf)|refine Ok.block ?_|((first|refine Ok.skip ?_|refine Ok.ret ?_|refine ix _ (by assumption) ?_);conv=>whnf)|(refine Or.inl ?_;(conv=>whnf);(repeat (refine aI ?_;conv=>whnf));refine⟨_,htp,rfl,?_⟩;conv=>whnf)|(refine bI ?_ ?_<;>intro<;>(conv=>whnf)<;>(try (exfalso;omega)))|fail)
     all_goals first
      | (exfalso;omega)
      | (refine Or.inl ?_;(conv=>whnf)
         exact⟨⟨_,by rw[hfe];rfl⟩,rfl⟩)
   obtain⟨k,hk⟩:∃ k:Nat,findI s.s l 0=k:=⟨(findI s.s l 0).toNat,by omega⟩
   have hkl:k<l.length:=by have:=(findI_ge s.s l 0).2.2;omega
   obtain⟨f,hf⟩:∃ f,l[k]? = some f:=⟨_,List.getElem?_eq_getElem hkl⟩
   have hfI:l[((k:Nat):Int).toNat]? = some f:=hf
   have hfR:(l.map frow)[((k:Nat):Int).toNat]? = some (frow f):=by rw[List.getElem?_map,hfI];rfl
   have hfb:=hlay f (List.mem_of_getElem? hf)
   rw[hk] at htp
   have hws:=widd_split hf
   have hmt:((S.map SI.row++r2).take i).drop 0=(S.take i).map SI.row:=by rw[List.drop_zero,List.take_append_of_le_length (by omega),List.map_take]
   have hml:((S.take i).map SI.row).length=i:=by simp;omega
   (try (conv=>whnf));repeat' (first|refine Ok.seq ?_|((first|refine Ok.region tok ?_|refine Ok.cond ?_);conv=>whnf)|refine Ok.block ?_|((first|refine Ok.skip ?_|refine ix _ (by assumption) ?_);conv=>whnf)|(refine Or.inl ?_;(conv=>whnf);(repeat (refine aI ?_;conv=>whnf));refine⟨_,htp,rfl,?_⟩;conv=>whnf)|(refine⟨_,_,rfl,rfl,?_⟩;conv=>whnf)|(refine bI ?_ ?_<;>intro<;>(conv=>whnf)<;>(try (exfalso;omega)))|(refine aJ ?_;conv=>whnf)|fail)
   have hnu:¬ findI s.s l 0<0:=hu
   have hml2:(((S.map SI.row++r2).take i).drop 0).length=i:=by rw[hmt,hml]
   refine Ok.loopU [0,1,8,10,11,35,36,37,50,51] [52] 1 1 (fun (j:Nat)=>[.i .i64 (j:Nat)]) (fun _ b=>b) (fun _ r=>r) (fun (j:Nat)=>j<=i/\∀ (m:Nat) q,m<j->S[m]? = some q->q.s ≠ s.s) (fun (j:Nat)=>i - j) (0) (⟨Nat.zero_le _,fun m q hm=>absurd hm (by omega)⟩) ?_;(conv=>whnf);refine⟨by ((conv=>whnf);first|rfl|(simp[envCat, List.take_of_length_le, SI.row, Node.row, Pfx.row, Link.row, srow, Line.row, Rule.row, Box.row, Slc.row, Config.row, frow, bcell];done)|(simp[envCat, List.take_of_length_le, SI.row, Node.row, Pfx.row, Link.row, srow, Line.row, Rule.row, Box.row, Slc.row, Config.row, frow, bcell];rw[IntKind.wrap_i64];omega)),?_⟩
   rintro j ⟨hj,hall⟩
   (conv=>whnf)
   by_cases hji:j<i
   . obtain⟨q,hq⟩:∃ q,S[j]? = some q:=⟨_,List.getElem?_eq_getElem (by omega)⟩
     have hqI:S[((j:Nat):Int).toNat]? = some q:=hq
     have hqR:(((S.map SI.row++r2).take i).drop 0)[((j:Nat):Int).toNat]? = some q.row:=by
      rw[hmt]
      show ((S.take i).map SI.row)[j]? = _
      rw[List.getElem?_map,List.getElem?_take_of_lt hji,hq]
      rfl
     have hqm:q ∈ S.take i:=List.mem_of_getElem? (i:=j) (by rw[List.getElem?_take_of_lt hji];exact hq)
     (try (conv=>whnf));repeat' (first|refine Ok.seq ?_|((first|refine Ok.region tok ?_|refine Ok.cond ?_);conv=>whnf)|refine Ok.block ?_|((first|refine Ok.skip ?_|refine Ok.ret ?_|refine nI ?_|refine⟨_,by assumption,?_⟩);conv=>whnf)|(refine bI ?_ ?_<;>intro<;>(conv=>whnf)<;>(try (exfalso;omega)))|(refine aJ ?_;conv=>whnf)|fail)
     . rename_i he
       rw[firstE_bad hs (by rw[setE_dup hnu ⟨q,hqm,he⟩];simp),setE_dup hnu ⟨q,hqm,he⟩] at hfe
       refine Or.inl ?_;(conv=>whnf)
       exact⟨⟨_,by rw[hfe];rfl⟩,rfl⟩
     . rename_i he
       refine⟨j+1,by omega,⟨by omega,fun m x hm hx=>?_⟩,?_⟩
       . by_cases hmj:m=j
         . subst hmj;rw[hq] at hx;cases hx;exact he
         . exact hall m x (by omega) hx
       . (conv=>whnf)
         rfl
   obtain rfl:j=i:=by omega
   have hno:¬ ∃ t ∈ S.take j,t.s=s.s:=by
    rintro⟨q,hq,h⟩
    obtain⟨m,hm⟩:=List.getElem?_of_mem hq
    have hmj:m<j:=by have:=(List.getElem?_eq_some_iff.1 hm).1;rw[List.length_take] at this;omega
    rw[List.getElem?_take_of_lt hmj] at hm
    exact hall m q hmj hm h
   have hfb2:((l[(findI s.s l 0).toNat]?).getD ⟨[],0⟩).bits=f.bits:=by rw[hk,hfI];rfl
   obtain⟨B,hB⟩:∃ B:Nat,f.bits=B:=⟨f.bits.toNat,by omega⟩
   have hBt:f.bits.toNat=B:=by omega
   have htop:=top_at B (by omega)
   rw[<- hB] at htop
   have htw:(0:Int)<tw B:=by have:=tw_pos B;omega
   have htw2:=tw62 (k:=B) (by omega)
   by_cases hv:s.n<0\/(tw B:Int) - 1<s.n
   . have hb:=setE_val hnu hno (by rw[hfb2,hBt];exact hv)
     rw[firstE_bad hs (by rw[hb];simp),hb] at hfe
     (try (conv=>whnf));repeat' (first|refine Ok.seq ?_|((first|refine Ok.region tok ?_|refine Ok.region_draw tok follows (by kernel_rfl) ?_|refine Ok.cond ?_|refine Ok.exit ?_|refine Ok.ret ?_|refine ix _ (by assumption) ?_|refine⟨_,by assumption,?_⟩);conv=>whnf)|(refine bI ?_ ?_<;>intro<;>(conv=>whnf)<;>(try (exfalso;omega)))|(refine aJ ?_;conv=>whnf)|fail)
     all_goals first
      | (exfalso;omega)
      | (refine Or.inl ?_;(conv=>whnf)
         exact⟨⟨_,by rw[hfe];rfl⟩,rfl⟩)
   have hok:=setE_ok hnu hno (by rw[hfb2,hBt];exact hv)
   rw[firstE_ok hs (by rw[hok])] at hfe
   obtain⟨v,hvn⟩:∃ v:Nat,s.n=v:=⟨s.n.toNat,by omega⟩
   have hdg:=binary_at v B B (by omega) (by omega) (by omega)
   have hbl:=binT_len v B B
   rw[<- hB,<- hvn] at hdg
   have hws':wid (l.take k)+B<=wid l:=by omega
   have hmk:((l.map frow++r).take k).drop 0=(l.take k).map frow:=by rw[List.drop_zero,List.take_append_of_le_length (by omega),List.map_take]
   have hwd:=width_at (l.take k) ((l.map frow++r).drop k) (by rw[List.length_take];omega) (fun x hx=>hlay x (List.mem_of_mem_take hx))
   rw[<- hmk] at hwd
   (try (conv=>whnf));repeat' (first|refine Ok.seq ?_|((first|refine Ok.region tok ?_|refine Ok.region_plan (id:=22) tok follows [(7,10,[]),(4,10,[]),(7,11,[10]),(4,11,[5]),(10,11,[])] [.q 0,.q 1,.q 2,.q 3,.q 6,.q 7,.q 8,.q 9,.l 4,.q 5,.l 10,.l 11] (by kernel_rfl) ?_|refine Ok.region_draw tok follows (by kernel_rfl) ?_|refine Ok.cond ?_|refine Ok.skip ?_|refine Ok.exit ?_|refine nI ?_|refine ix _ (by assumption) ?_|refine⟨_,by assumption,?_⟩);conv=>whnf)|(refine Or.inl ?_;(conv=>whnf);(repeat (refine aI ?_;conv=>whnf));refine⟨_,hdg,rfl,?_⟩;conv=>whnf)|(refine Or.inl ?_;(conv=>whnf);(repeat (refine aI ?_;conv=>whnf));refine⟨_,hwd,rfl,?_⟩;conv=>whnf)|(refine⟨_,_,rfl,rfl,?_⟩;conv=>whnf)|(refine bI ?_ ?_<;>intro<;>(conv=>whnf)<;>(try (exfalso;omega)))|((first|refine aJ ?_|refine⟨_,rfl,?_⟩);conv=>whnf)|fail)
   refine⟨(j+1,w.take (wid (l.take k))++binT v B B++w.drop (wid (l.take k)+(binT v B B).length)),by dsimp only;omega,⟨by dsimp only;omega,by simp;omega,hfe⟩,?_⟩
   dsimp only
   rw[List.map_append,List.map_append,List.map_take,List.map_drop]
   (conv=>whnf)
   rfl
 . obtain rfl:i=S.length:=by omega
   rw[firstE_nil (by simp)] at hfe
   (try (conv=>whnf));repeat' (first|(refine⟨w,by rw[List.take_of_length_le (by omega)],?_⟩;conv=>whnf)|refine Ok.seq ?_|((first|refine Ok.region tok ?_|refine Ok.cond ?_|refine Ok.exit ?_|refine Ok.ret ?_);conv=>whnf)|(refine bI ?_ ?_<;>intro<;>(conv=>whnf)<;>(try (exfalso;omega)))|(refine aJ ?_;conv=>whnf)|fail)
   all_goals first
    | (exfalso;omega)
    | (refine Or.inl ?_;(conv=>whnf)
       exact⟨⟨_,by rw[hfe];rfl⟩,rfl⟩)
end Go.Proofs.YtcglkonooeddfaaGreatDoor
namespace Go.Proofs.YtcglkonooeddfaaGreatDoor
open Go Go.Vx
theorem munum_at(n:Int):FSpec Tryz.prog T 27 [.i .i64 n] (fun d _=>d = .i .i64 n):=by
 refine FSpec.of_ok tok Tryz.func27 rfl Tryz.call27 (by simp) ?_
 (try (conv=>whnf));repeat' (first|refine Ok.seq ?_|((first|refine Ok.region tok ?_|refine Ok.ret ?_);conv=>whnf)|fail)
 refine Or.inl ?_;(conv=>whnf)
 rfl
end Go.Proofs.YtcglkonooeddfaaGreatDoor
namespace Go.Proofs.YtcglkonooeddfaaGreatDoor
open Go Go.Vx
def tinyB:Box:=⟨[82],⟨[[97]],[]⟩,⟨[[98]],[]⟩,⟨[],[]⟩,⟨[],[]⟩,⟨[],[]⟩,⟨[],[]⟩⟩
def tinyC:Config:=⟨[],⟨[⟨[102],1⟩],[]⟩,[],False,⟨[tinyB],[]⟩,⟨[⟨[82,46,98],[82,46,97],3⟩],[]⟩,⟨[],[]⟩⟩
def noC0:Config:=⟨[],⟨[],[]⟩,[],False,⟨[],[]⟩,⟨[],[]⟩,⟨[],[]⟩⟩
theorem sok0{s:Str}(h:s.length<=9):SOk s:=by unfold SOk;omega
theorem iok0{n:Int}(h:0<=n/\n<=9):IOk n:=by unfold IOk;omega
theorem noC0_ok:noC0.Ok:=⟨by decide,by decide,by decide,by decide,fun b hb=>(by cases hb),fun s hs=>(by cases hs)⟩
theorem noC0_tx:noC0.Tx:=⟨sok0 (by decide),fun x h=>(by cases h),sok0 (by decide),fun x h=>(by cases h),fun x h=>(by cases h),fun x h=>(by cases h)⟩
theorem noC0_check:checkO noC0.b=(70,[]):=by
 have h:headO noC0.b=(70,[]):=by
  unfold headO
  rw[if_neg (by decide)]
  exact if_pos (Or.inr rfl)
 unfold checkO
 rw[orE_bad (by rw[h];decide),h]
theorem tinyC_ok:tinyC.Ok:=by
 refine⟨by decide,by decide,by decide,by decide,fun b hb=>?_,fun s hs=>(by cases hs)⟩
 rw[List.mem_singleton.1 hb]
 exact⟨by decide,by decide,by decide,by decide,by decide,by decide,fun g hg=>(by cases hg),fun r hr=>(by cases hr)⟩
theorem tinyC_tx:tinyC.Tx:=by
 refine⟨sok0 (by decide),fun x h=>?_,sok0 (by decide),fun x h=>?_,fun x h=>?_,fun x h=>(by cases h)⟩
 . rw[List.mem_singleton.1 h];exact⟨sok0 (by decide),iok0 (by decide)⟩
 . rw[List.mem_singleton.1 h]
   exact⟨sok0 (by decide),fun y hy=>by rw[List.mem_singleton.1 hy];exact sok0 (by decide),fun y hy=>by rw[List.mem_singleton.1 hy];exact sok0 (by decide),fun x h=>(by cases h),fun x h=>(by cases h),fun x h=>(by cases h),fun x h=>(by cases h)⟩
 . rw[List.mem_singleton.1 h];exact⟨sok0 (by decide),sok0 (by decide),iok0 (by decide)⟩
theorem name_one{b:UInt8}(hb:nameAt 0 b):NameP [b]:=by
 refine⟨by simp,by simp,fun i x h=>?_⟩
 cases i with
 | zero=>simp at h;subst h;exact hb
 | succ i=>simp at h
theorem rsv_long{s:Str}(h:Rsv s):2<=s.length:=by
 have:∀ x ∈ resvL,2<=x.length:=by decide
 exact this s h
theorem mname_one{b:UInt8}(hb:nameAt 0 b):MName [b]:=⟨name_one hb,fun h=>by have:=rsv_long h;simp at this⟩
theorem tiny_chk:chkO [⟨[102],1⟩]=(0,0):=by
 rw[chkO_of (by decide) (by decide),chkFrom_ok]
 . rfl
 . rintro (h|h|h|⟨g,hg,_⟩|h|h|h)
   . exact h (name_one (by left;unfold Ltr;decide))
   . simp at h
   . simp at h
   . simp at hg
   . simp at h
   . simp at h
   . simp at h
theorem tiny_head:headO tinyC.b=(0,[]):=by
 unfold headO
 have h1:fds tinyC.b.fields=[⟨[102],1⟩]:=rfl
 rw[if_neg (by decide),h1,tiny_chk,if_neg (by rintro (h|h)<;>simp[tinyC,Config.b] at h),if_neg (by simp)]
 have h2:firstE resvE [] tinyC.b.fields=(0,[]):=by
  show (if (resvE [] ⟨[102],1⟩).1 ≠ 0 then _ else (0,[]))=_
  rw[if_neg]
  unfold resvE
  rw[if_neg (fun h=>by have:=rsv_long h;simp at this)]
  simp
 rw[h2,orE_ok rfl,if_neg]
 rintro (⟨h,_⟩|⟨h,_⟩)
 . exact h rfl
 . exact h
theorem tiny_count:countO tinyC.b=(0,[]):=by
 rw[countO_if]
 simp[tinyC,tinyB,Config.b,Box.b,nPorts,nLines,nRules,nRoutes]
theorem firstE_one{α:Type}{f:List α->α->Er}{x:α}(h:f [] x=(0,[])):firstE f [] [x]=(0,[]):=by
 show (if (f [] x).1 ≠ 0 then f [] x else (0,[]))=_
 rw[h,if_neg (by simp)]
theorem firstE_two{α:Type}{f:List α->α->Er}{x y:α}(h:f [] x=(0,[]))(h2:f [x] y=(0,[])):firstE f [] [x,y]=(0,[]):=by
 show (if (f [] x).1 ≠ 0 then f [] x else if (f [x] y).1 ≠ 0 then f [x] y else (0,[]))=_
 rw[h,h2,if_neg (by simp),if_neg (by simp)]
theorem tiny_name:nameO tinyC.b=(0,[]):=by
 refine firstE_one ?_
 rw[boxE_ok (mname_one (by left;unfold Ltr;decide)) (by simp)]
 exact firstE_two (portE_ok (mname_one (by left;unfold Ltr;decide)) (by simp)) (portE_ok (mname_one (by left;unfold Ltr;decide)) (by simp))
theorem tiny_deed:deedO tinyC.b=(0,[]):=by
 refine firstE_one ?_
 show orE (0,[]) (orE (0,[]) (orE (0,[]) (0,[])))=_
 rw[orE_ok rfl,orE_ok rfl,orE_ok rfl]
theorem tiny_link:linkO tinyC.b=(0,[]):=by
 refine firstE_one ?_
 have h1:fullOut tinyC.b=[[82,46,98]]:=rfl
 have h2:fullIn tinyC.b=[[82,46,97]]:=rfl
 refine linkE_ok ?_ ?_ (by decide) (by rintro⟨y,hy,_⟩;cases hy)
 . rw[h1,h2,sidesI_one,sideE_ok (by simp) (by simp)];simp
 . rw[h1,h2,sidesI_one,sideE_ok (by simp) (by simp)];simp
theorem tiny_check:checkO tinyC.b=(0,[]):=by
 unfold checkO
 rw[tiny_head,tiny_count,tiny_name,tiny_deed,tiny_link,orE_ok rfl,orE_ok rfl,orE_ok rfl,orE_ok rfl,orE_ok rfl]
 rfl
theorem tiny_find:findP tinyC.b [82,46,98]=1:=by
 unfold findP
 rw[if_neg (by rw[tiny_check];simp),if_pos (by decide)]
 decide
set_option maxRecDepth 100000 in
set_option maxHeartbeats 4000000 in
theorem tiny_at:FSpec Tryz.prog T 54 [] (fun d rows=>rows=[]/\d = .agg tinyC.row):=by
 refine FSpec.of_ok tok Tryz.func54 rfl Tryz.call54 (by simp) ?_
 (try (conv=>whnf));repeat' (first|refine Ok.seq ?_|((first|refine Ok.region tok ?_|refine Ok.ret ?_);conv=>whnf)|fail)
 refine Or.inl ?_;(conv=>whnf)
 exact⟨rfl,rfl⟩
end Go.Proofs.YtcglkonooeddfaaGreatDoor
namespace Go.Proofs.YtcglkonooeddfaaGreatDoor
open Go Go.Vx
theorem mfind_q(c:Config)(hc:c.Ok)(ht:c.Tx)(s:Str):FSpec Tryz.prog T 28 [.agg c.row,.s s] (fun d _=>d = .i .i64 (findP c.b s)):=
 FSpecH.nil ((mFind_at word_ok itoa_ok c hc ht s).mono fun _ _ _ h=>h.1.1)
set_option maxHeartbeats 8000000 in
theorem mknown_b:FSpec Tryz.prog T 24 [] (fun d _=>d = .b True):=by
 have k1:=mcheck_at word_ok itoa_ok noC0 noC0_ok noC0_tx
 have k2:=mcheck_at word_ok itoa_ok tinyC tinyC_ok tinyC_tx
 have k3:=mfind_q tinyC tinyC_ok tinyC_tx [82,46,98]
 rw[noC0_check] at k1
 rw[tiny_check] at k2
 rw[tiny_find] at k3
 refine FSpec.of_ok tok Tryz.func24 rfl Tryz.call24 (by simp) ?_
 (try (conv=>whnf));repeat' (first|refine Ok.seq ?_|((first|refine Ok.region tok ?_|refine Ok.ret ?_);conv=>whnf)|(refine Or.inl ?_;(conv=>whnf);(repeat (refine aI ?_;conv=>whnf));refine⟨_,k1,rfl,?_⟩;conv=>whnf)|(refine Or.inl ?_;(conv=>whnf);(repeat (refine aI ?_;conv=>whnf));refine⟨_,k2,rfl,?_⟩;conv=>whnf)|(refine Or.inl ?_;(conv=>whnf);(repeat (refine aI ?_;conv=>whnf));refine⟨_,k3,rfl,?_⟩;conv=>whnf)|(refine Or.inl ?_;(conv=>whnf);(repeat (refine aI ?_;conv=>whnf));refine⟨_,munum_at 70,rfl,?_⟩;conv=>whnf)|(refine Or.inl ?_;(conv=>whnf);(repeat (refine aI ?_;conv=>whnf));refine⟨_,munum_at 0,rfl,?_⟩;conv=>whnf)|(refine Or.inr (Or.inl ?_);(conv=>whnf);(repeat (refine aI ?_;conv=>whnf));refine⟨_,tiny_at,?_⟩;rintro _ _ ⟨rfl,rfl⟩<;>(conv=>whnf))|(refine bI ?_ ?_<;>intro<;>(conv=>whnf)<;>(try (exfalso;omega)))|fail)
 all_goals first
  | exact absurd rfl (by assumption)
  | (refine Or.inl ?_;(conv=>whnf)
     exact congrArg D.b (propext ⟨fun _=>trivial,fun _=>rfl⟩))
theorem mknown_at:FSpec Tryz.prog T 24 [] (fun d _=>d = .tt):=mknown_b.tt trivial
end Go.Proofs.YtcglkonooeddfaaGreatDoor
namespace Go.Proofs.YtcglkonooeddfaaGreatDoor
open Go Go.Vx
structure Prt where
 name:Str
 box:Nat
 inn:Prop
 dst:Int
def Prt.row(x:Prt):List D:=[.s x.name,.i .i64 (x.box:Nat),.b x.inn,.i .i64 x.dst]
def prtB(n:Nat)(b:BoxB):List Prt:=(b.ins.map fun s=>⟨dot b.name s,n,True,-1⟩)++(b.outs.map fun s=>⟨dot b.name s,n,False,-1⟩)
def prtsN:Nat->List BoxB->List Prt
 | _,[]=>[]
 | n,b :: bs=>prtB n b++prtsN (n+1) bs
theorem prtsN_names(n:Nat)(l:List BoxB):(prtsN n l).map Prt.name=fullsL l:=by
 induction l generalizing n with
 | nil=>rfl
 | cons b l ih=>
  rw[fullsL_cons,prtsN,List.map_append,ih]
  simp[prtB,Function.comp_def]
end Go.Proofs.YtcglkonooeddfaaGreatDoor
namespace Go.Proofs.YtcglkonooeddfaaGreatDoor
open Go Go.Vx
theorem plcsN_eq:∀ (n:Nat) (bs:List BoxB),plcsN n bs=(prtsN n bs).map fun x=>(x.box,x.inn)
 | n,[]=>rfl
 | n,b :: bs=>by
  rw[plcsN_cons,prtsN,List.map_append,<- plcsN_eq (n+1) bs]
  simp[prtB,Function.comp_def]
theorem plcs_eq(bs:List BoxB):plcs bs=(prtsN 0 bs).map fun x=>(x.box,x.inn):=plcsN_eq 0 bs
def setD(fs:List Str)(l:List Prt)(x:Link):List Prt:=match l[(plc fs x.frm).toNat]? with
 | some p=>l.set (plc fs x.frm).toNat ⟨p.name,p.box,p.inn,plc fs x.dst⟩
 | none=>l
theorem setD_some{fs:List Str}{l:List Prt}{x:Link}{p:Prt}(h:l[(plc fs x.frm).toNat]? = some p):setD fs l x=l.set (plc fs x.frm).toNat ⟨p.name,p.box,p.inn,plc fs x.dst⟩:=by unfold setD;rw[h]
theorem setD_names(fs:List Str)(l:List Prt)(x:Link):(setD fs l x).map Prt.name=l.map Prt.name:=by
 unfold setD
 split
 . rename_i p hp
   apply List.ext_getElem?
   intro i
   by_cases hi:i=(plc fs x.frm).toNat
   . subst hi
     rw[List.getElem?_map,List.getElem?_set_self (List.getElem?_eq_some_iff.1 hp).1,List.getElem?_map,hp]
     rfl
   . rw[List.getElem?_map,List.getElem?_set_ne (Ne.symm hi),List.getElem?_map]
 . rfl
noncomputable def prtsW(c:ConfigB)(k:Nat):List Prt:=(c.links.take k).foldl (setD (fullsL c.boxes)) (prtsN 0 c.boxes)
theorem prtsW_succ{c:ConfigB}{k:Nat}{x:Link}(h:c.links[k]? = some x):prtsW c (k+1)=setD (fullsL c.boxes) (prtsW c k) x:=by
 unfold prtsW
 rw[List.take_add_one,h,List.foldl_append]
 rfl
theorem foldD_names(fs:List Str):∀ (l:List Link) (P:List Prt),(l.foldl (setD fs) P).map Prt.name=P.map Prt.name
 | [],_=>rfl
 | x :: l,P=>by rw[List.foldl_cons,foldD_names fs l,setD_names]
theorem prtsW_names(c:ConfigB)(k:Nat):(prtsW c k).map Prt.name=fullsL c.boxes:=by
 unfold prtsW
 rw[foldD_names,prtsN_names]
theorem prtsN_dst:∀ (n:Nat) (bs:List BoxB),∀ p ∈ prtsN n bs,p.dst=-1
 | _,[],p,h=>by cases h
 | n,b :: bs,p,h=>by
  rcases List.mem_append.1 h with h|h
  . rcases List.mem_append.1 h with h|h <;>
    . obtain⟨_,_,rfl⟩:=List.mem_map.1 h
      rfl
  . exact prtsN_dst _ bs p h
noncomputable def prtsF(c:ConfigB):List Prt:=prtsW c c.links.length
theorem prtsW_len(c:ConfigB)(k:Nat):(prtsW c k).length=(fullsL c.boxes).length:=by rw[<- prtsW_names c k,List.length_map]
theorem link_known{c:ConfigB}(h:(linkO c).1=0){x:Link}(hx:x ∈ c.links):x.frm ∈ fullsL c.boxes/\x.dst ∈ fullsL c.boxes:=by
 obtain⟨k,hk⟩:=List.getElem?_of_mem hx
 have h1:=firstE_zero h k x hk
 refine⟨Classical.byContradiction fun hn=>?_,Classical.byContradiction fun hn=>?_⟩
 . have hI:x.frm ∉ fullIn c:=fun g=>hn (mem_fulls.2 (.inl g))
   have hU:x.frm ∉ fullOut c:=fun g=>hn (mem_fulls.2 (.inr g))
   have h2:sidesI [x.frm] (fullOut c) (fullIn c)=73:=by rw[sidesI_one,sideE_unk hU hI]
   rw[linkE_frm (by rw[h2];decide),h2] at h1
   cases h1
 . have hI:x.dst ∉ fullIn c:=fun g=>hn (mem_fulls.2 (.inl g))
   have hU:x.dst ∉ fullOut c:=fun g=>hn (mem_fulls.2 (.inr g))
   by_cases hf:sidesI [x.frm] (fullOut c) (fullIn c) ≠ 0
   . rw[linkE_frm hf] at h1
     exact hf h1
   . have h2:sidesI [x.dst] (fullIn c) (fullOut c)=73:=by rw[sidesI_one,sideE_unk hI hU]
     rw[linkE_to hf (by rw[h2];decide),h2] at h1
     cases h1
theorem setCells4{r:List D}{a b c d:D}(h:r.length=4):setCells r 0 [a,b,c,d]=[a,b,c,d]:=by
 unfold setCells
 rw[List.take_zero,List.drop_eq_nil_of_le (by simp[h])]
 rfl
def prt0:List D:=[.s [],.i .i64 0,.b False,.i .i64 0]
set_option maxRecDepth 100000 in
set_option maxHeartbeats 16000000 in
theorem mports_ok(c:Config)(hc:c.Ok)(ht:c.Tx)(h0:(checkO c.b).1=0) :
    FSpecH Tryz.prog T [] 38 [.agg c.row] (fun d rows M=>(d = .tup [.own 0 (prtsF c.b).length,.i .i64 0]/\rows=[some (89,(prtsF c.b).map Prt.row)])/\M=[]):=by
 have hck:=mcheck_at word_ok itoa_ok c hc ht
 rw[h0] at hck
 obtain⟨_,h1,h2,_,h4,_⟩:=check_parts h0
 have hpn:(fullsL c.b.boxes).length<=1000:=by rw[fullsL_len];have:=(count_ok h1).2.1;omega
 have hnum:=numbered_at c hc (tx_names ht) hpn
 have hpr:((plcs c.b.boxes).map plRow).length=(plcs c.b.boxes).length:=by simp
 have hll:(c.links.l.map Link.row).length=c.links.l.length:=by simp
 have hL:=hc.links
 have hpl:(plcs c.b.boxes).length=(fullsL c.b.boxes).length:=by rw[plcs_eq,List.length_map,<- prtsN_names 0,List.length_map]
 obtain⟨P,hP⟩:∃ P,P=prtsN 0 c.b.boxes:=⟨_,rfl⟩
 have hPn:P.map Prt.name=fullsL c.b.boxes:=by rw[hP,prtsN_names]
 have hPl:P.length=(fullsL c.b.boxes).length:=by rw[<- hPn,List.length_map]
 have hPc:(plcs c.b.boxes)=P.map fun x=>(x.box,x.inn):=by rw[hP,plcs_eq]
 refine FSpecH.of_ok0 tok Tryz.func38 rfl Tryz.call38 (by simp) ?_
 (try (conv=>whnf));repeat' (first|(refine⟨_,_,_,_,_,_,_,mtSI,(by first|exact .head _|exact .tail _ (.head _)|exact .tail _ (.tail _ (.head _))|exact List.mem_append_left _ (by assumption)),fun _ _=>?_⟩;conv=>whnf)|(refine Or.inr (Or.inl ?_);(conv=>whnf);(repeat (refine aI ?_;conv=>whnf));refine⟨_,hnum , ?_⟩;rintro _ _ _ ⟨gn,lst,cn,rfl,rfl,rfl,hnm,hwf,hky⟩<;>(conv=>whnf))|refine OkM.seq ?_|((first|refine OkM.region tok ?_|refine OkM.cond ?_);conv=>whnf)|refine OkM.block ?_|(refine OkM.skip ?_;conv=>whnf)|(refine Or.inl ?_;(conv=>whnf);refine Or.inl ?_;(conv=>whnf);(repeat (refine aI ?_;conv=>whnf));refine⟨_,hck,rfl,?_⟩;conv=>whnf)|(refine⟨_,_,rfl,rfl,?_⟩;conv=>whnf)|(refine bI ?_ ?_<;>intro<;>(conv=>whnf)<;>(try (exfalso;omega)))|((first|refine aJ ?_|refine⟨_,rfl,?_⟩);conv=>whnf)|fail)
 rename_i gi hgi
 have hN:NumOk c.b lst:=⟨fulls_nodup h2,hnm,hky⟩
 have hat:∀ s,s ∈ fullsL c.b.boxes->∃ p,P[((lk lst s).getD 0).toNat]? = some p/\p.name=s/\lk lst s=some (plc (fullsL c.b.boxes) s)/\0<=(lk lst s).getD 0/\(lk lst s).getD 0<(P.length:Nat):=by
  intro s hs
  obtain⟨_,_,e1,_⟩:=hN.some hs
  obtain⟨g0,g1⟩:=plc_at hs
  have g2:=plc_lt (fullsL c.b.boxes) s
  rw[e1]
  simp only[Option.getD_some]
  have hk:(plc (fullsL c.b.boxes) s).toNat<P.length:=by omega
  refine⟨P[(plc (fullsL c.b.boxes) s).toNat],List.getElem?_eq_getElem hk,?_,trivial,g0,by omega⟩
  have h3:=congrArg (fun l=>l[(plc (fullsL c.b.boxes) s).toNat]?) hPn
  simp only[List.getElem?_map,List.getElem?_eq_getElem hk,g1,Option.map_some,Option.some.injEq] at h3
  exact h3
 have hplr:∀ (k:Nat) p,P[k]? = some p->((plcs c.b.boxes).map plRow)[k]? = some (plRow (p.box,p.inn)):=fun k p h=>by
  rw[hPc,List.map_map,List.getElem?_map,h]
  rfl
 refine OkM.loopU [1,6,7,8,30] [] 2 1 (fun (x:List (List D) × List Nat)=>[]) (fun (x:List (List D) × List Nat) (_:List (List D))=>[c.row]) (fun (x:List (List D) × List Nat) (_:Vx.Rows)=>[some (160,(plcs c.b.boxes).map plRow),some (89,x.1)]) (fun (x:List (List D) × List Nat)=>[(gi,itObj gn cn x.2),(gn,mObj D.s fI lst cn)]) (fun (x:List (List D) × List Nat)=>(x.1.length=P.length/\∀ r ∈ x.1,r.length=4)/\∀ e ∈ lst,e.2.2 ∈ x.2->x.1[e.2.1.toNat]? = (P[e.2.1.toNat]?).map Prt.row) (fun (x:List (List D) × List Nat)=>(lst.filter fun e=>decide (e.2.2 ∉ x.2)).length) ((List.replicate (plcs c.b.boxes).length prt0,[])) (⟨⟨(List.length_replicate ..).trans (hpl.trans hPl.symm),fun r hr=>by rw[(List.mem_replicate.1 hr).2];simp[prt0]⟩,fun e _ h=>by cases h⟩) (by first|exact .refl _|exact .cons _ (.refl _)|exact List.nil_sublist _) ?_;(conv=>whnf);refine⟨by ((conv=>whnf);first|rfl|(simp[envCat, List.take_of_length_le, SI.row, Node.row, Pfx.row, Link.row, srow, Line.row, Rule.row, Box.row, Slc.row, Config.row, plRow, Prt.row];done)|(simp[envCat, List.take_of_length_le, SI.row, Node.row, Pfx.row, Link.row, srow, Line.row, Rule.row, Box.row, Slc.row, Config.row, plRow, Prt.row];rw[IntKind.wrap_i64];omega)),?_⟩
 rintro⟨R,seen⟩ ⟨⟨hRl,hR4⟩,hRs⟩
 dsimp only at hRl hR4 hRs ⊢
 (conv=>whnf)
 refine OkM.seq ?_
 refine OkM.region tok ?_
 (conv=>whnf)
 refine⟨_,_,inferInstance,_,_,_,_,0,_,_,fun _=>rfl,fun _=>rfl,hwf,rfl,.tail _ (.head _),?_,?_⟩
 rotate_left
 . intro e he hns
   have hle:=lk_of hky he
   have heF:e.1 ∈ fullsL c.b.boxes:=(hN.some_iff e.1).1 (by rw[hle];rfl)
   obtain⟨p,hp,hpn2,h6,h7,h8⟩:=hat e.1 heF
   rw[hle] at hp h6 h7 h8
   simp only[Option.getD_some] at hp h7 h8
   have hpr2:=hplr _ p hp
   obtain⟨r0,hr0⟩:∃ r0,R[e.2.1.toNat]? = some r0:=⟨_,List.getElem?_eq_getElem (by omega)⟩
   have hr4:=hR4 r0 (List.mem_of_getElem? hr0)
   (conv=>whnf)
   (try (conv=>whnf));repeat' (first|(refine⟨_,_,inferInstance,_,_,_,_,0,_,_,e,fun _=>rfl,fun _=>rfl,hwf,rfl,.tail _ (.head _),he,?_⟩;conv=>whnf)|refine OkM.seq ?_|((first|refine OkM.region tok ?_|refine OkM.of_ok (Ok.region_plan (id:=9) tok follows [(7,15,[]),(12,15,[])] [.q 0,.q 1,.q 2,.q 3,.q 4,.q 5,.q 6,.q 7,.q 8,.q 9,.q 10,.q 11,.q 12,.q 13,.q 14,.l 15] (by kernel_rfl) ?_)|refine OkM.cond ?_);conv=>whnf)|refine OkM.block ?_|((first|refine OkM.skip ?_|refine⟨_,by assumption,?_⟩|refine aJ ?_|refine⟨_,rfl,?_⟩);conv=>whnf)|fail)
   have hsc:setCells r0 0 [D.s e.1,.i .i64 (p.box:Nat),.b p.inn,.i .i64 (-1)]=p.row:=by
    rw[setCells4 hr4,<- hpn2,<- prtsN_dst 0 c.b.boxes p (List.mem_of_getElem? (by rw[<- hP];exact hp))]
    rfl
   have hlt:e.2.1.toNat<R.length:=(List.getElem?_eq_some_iff.1 hr0).1
   refine⟨(R.set e.2.1.toNat (setCells r0 0 [D.s e.1,.i .i64 (p.box:Nat),.b p.inn,.i .i64 (-1)]),seen++[e.2.2]),seen_less he hns,⟨⟨by rw[List.length_set];exact hRl,fun r hr=>?_⟩,fun e2 he2 hs2=>?_⟩,List.Sublist.refl _,?_⟩
   . rw[hsc] at hr
     rcases List.mem_or_eq_of_mem_set hr with h|h
     . exact hR4 r h
     . rw[h];rfl
   . dsimp only at hs2 ⊢
     rw[hsc]
     by_cases hk:e2.2.1.toNat=e.2.1.toNat
     . rw[hk,List.getElem?_set_self hlt,hp]
       rfl
     . rw[List.getElem?_set_ne (Ne.symm hk)]
       rcases List.mem_append.1 hs2 with h|h
       . exact hRs e2 he2 h
       . exact absurd (by rw[born_inj hwf.1 he2 he (List.mem_singleton.1 h)]) hk
   . (conv=>whnf)
     rfl
 . intro hall
   have hRP:R=P.map Prt.row:=by
    apply List.ext_getElem?
    intro k
    by_cases hk:k<P.length
    . obtain⟨s,hs⟩:∃ s,(fullsL c.b.boxes)[k]? = some s:=⟨_,List.getElem?_eq_getElem (by omega)⟩
      obtain⟨p,hp,hpn2,h6,h7,h8⟩:=hat s (List.mem_of_getElem? hs)
      obtain⟨n,hm⟩:=lk_mem h6
      have h9:=hRs _ hm (hall _ hm)
      have h10:=nodup_idx hN.nd hs (plc_at (List.mem_of_getElem? hs)).2
      dsimp only at h9
      rw[<- h10] at h9
      rw[h9,List.getElem?_map]
    . rw[List.getElem?_eq_none (by omega),List.getElem?_eq_none (by simp;omega)]
   subst hRP
   (try (conv=>whnf));repeat' (first|refine OkM.seq ?_|((first|refine OkM.region tok ?_|refine OkM.cond ?_);conv=>whnf)|refine OkM.block ?_|(refine OkM.exit ?_;conv=>whnf)|fail)
   have hw0:P=prtsW c.b 0:=by rw[hP];rfl
   have hinv:∀ k,(prtsW c.b k).length=P.length:=fun k=>by rw[prtsW_len,hPl]
   rw[hw0] at hinv ⊢
   refine OkM.loopU [7,8,52,53] [54] 2 1 (fun (k:Nat)=>[.i .i64 (k:Nat)]) (fun (k:Nat) (_:List (List D))=>[c.row]) (fun (k:Nat) (_:Vx.Rows)=>[some (160,(plcs c.b.boxes).map plRow),some (89,(prtsW c.b k).map Prt.row)]) (fun (k:Nat)=>[(gn,mObj D.s fI lst cn)]) (fun (k:Nat)=>k<=c.links.l.length) (fun (k:Nat)=>c.links.l.length - k) (0) (Nat.zero_le _) (by first|exact .refl _|exact .cons _ (.refl _)|exact List.nil_sublist _) ?_;(conv=>whnf);refine⟨by ((conv=>whnf);first|rfl|(simp[envCat, List.take_of_length_le, SI.row, Node.row, Pfx.row, Link.row, srow, Line.row, Rule.row, Box.row, Slc.row, Config.row, plRow, Prt.row];done)|(simp[envCat, List.take_of_length_le, SI.row, Node.row, Pfx.row, Link.row, srow, Line.row, Rule.row, Box.row, Slc.row, Config.row, plRow, Prt.row];rw[IntKind.wrap_i64];omega)),?_⟩
   rintro k hk
   (conv=>whnf)
   by_cases hlt:k<c.links.l.length
   . obtain⟨x,hx⟩:∃ x,c.links.l[k]? = some x:=⟨_,List.getElem?_eq_getElem hlt⟩
     have hxI:c.links.l[((k:Nat):Int).toNat]? = some x:=hx
     have hxr:(c.links.l.map Link.row)[((k:Nat):Int).toNat]? = some x.row:=by rw[List.getElem?_map,hxI];rfl
     obtain⟨hxf,hxt⟩:=link_known h4 (List.mem_of_getElem? hx)
     obtain⟨_,_,_,f1,f2,f3⟩:=hat x.frm hxf
     obtain⟨_,_,_,t1,t2,t3⟩:=hat x.dst hxt
     have hkl:((lk lst x.frm).getD 0).toNat<(prtsW c.b k).length:=by rw[prtsW_len,<- hPl];omega
     obtain⟨p,hp⟩:∃ p,(prtsW c.b k)[((lk lst x.frm).getD 0).toNat]? = some p:=⟨_,List.getElem?_eq_getElem hkl⟩
     have hpr3:((prtsW c.b k).map Prt.row)[((lk lst x.frm).getD 0).toNat]? = some p.row:=by rw[List.getElem?_map,hp];rfl
     have hwl:((prtsW c.b k).map Prt.row).length=P.length:=by rw[List.length_map,prtsW_len,hPl]
     have hs:=prtsW_succ (c:=c.b) (k:=k) (x:=x) hx
     rw[setD_some (p:=p) (by rw[f1] at hp;exact hp)] at hs
     have hsc:setCells p.row 3 [fI (lk lst x.dst)]=Prt.row ⟨p.name,p.box,p.inn,plc (fullsL c.b.boxes) x.dst⟩:=by
      rw[t1]
      rfl
     have hs2:prtsW c.b (k+1)=(prtsW c.b k).set ((lk lst x.frm).getD 0).toNat ⟨p.name,p.box,p.inn,plc (fullsL c.b.boxes) x.dst⟩:=by
      rw[hs,f1]
      rfl
     (try (conv=>whnf));repeat' (first|((first|refine st (⟨p.name,p.box,p.inn,plc (fullsL c.b.boxes) x.dst⟩:Prt) hp (by simp[Prt.row]) hsc ?_|refine⟨_,_,_,_,_,_,_,_,mtSI,(by first|exact .head _|exact .tail _ (.head _)|exact .tail _ (.tail _ (.head _))|exact .tail _ (.tail _ (.tail _ (.head _)))|exact List.mem_append_left _ (by assumption)),rfl,?_⟩);conv=>whnf)|refine OkM.seq ?_|((first|refine OkM.region tok ?_|refine OkM.cond ?_);conv=>whnf)|refine OkM.block ?_|((first|refine OkM.skip ?_|refine nI ?_|refine ix _ (by assumption) ?_);conv=>whnf)|(refine bI ?_ ?_<;>intro<;>(conv=>whnf)<;>(try (exfalso;omega)))|(refine aJ ?_;conv=>whnf)|fail)
     refine⟨k+1,by omega,by omega,List.Sublist.refl _,?_⟩
     rw[hs2]
     (conv=>whnf)
     rfl
   . obtain rfl:k=c.links.l.length:=by omega
     (try (conv=>whnf));repeat' (first|refine OkM.seq ?_|((first|refine OkM.region tok ?_|refine OkM.cond ?_|refine OkM.exit ?_|refine OkM.ret ?_);conv=>whnf)|(refine bI ?_ ?_<;>intro<;>(conv=>whnf)<;>(try (exfalso;omega)))|fail)
     refine Or.inr (Or.inl ?_);(conv=>whnf)
     exact⟨by rw[show (prtsF c.b).length=(plcs c.b.boxes).length from (prtsW_len _ _).trans hpl.symm];rfl,rfl⟩
theorem mports_bad(c:Config)(hc:c.Ok)(ht:c.Tx)(h0:(checkO c.b).1 ≠ 0) :
    FSpec Tryz.prog T 38 [.agg c.row] (fun d rows=>d = .tup [.lst 89 [] [],.i .i64 (checkO c.b).1]/\rows=[]):=by
 have hck:=mcheck_at word_ok itoa_ok c hc ht
 refine FSpec.of_ok tok Tryz.func38 rfl Tryz.call38 (by simp) ?_
 (try (conv=>whnf));repeat' (first|refine Ok.seq ?_|((first|refine Ok.region tok ?_|refine Ok.cond ?_|refine Ok.ret ?_);conv=>whnf)|(refine Or.inl ?_;(conv=>whnf);(repeat (refine aI ?_;conv=>whnf));refine⟨_,hck,rfl,?_⟩;conv=>whnf)|(refine bI ?_ ?_<;>intro<;>(conv=>whnf)<;>(try (exfalso;omega)))|fail)
 all_goals first
  | (exact absurd h0 (by assumption))
  | (refine Or.inl ?_;(conv=>whnf)
     exact⟨rfl,rfl⟩)
end Go.Proofs.YtcglkonooeddfaaGreatDoor
namespace Go.Proofs.YtcglkonooeddfaaGreatDoor
open Go Go.Vx
def shPort:List Sh:=[.s,.i .i64,.b,.i .i64]
theorem eqPort:EqT Tryz.prog 89 shPort:=EqT.of_b tok (ti:=_) rfl rfl (by kernel_rfl)
theorem take_allP(l:List Prt):(l.map Prt.row).take l.length=l.map Prt.row:=List.take_of_length_le (by simp)
theorem eqRowP(r:Prt):eqDs r.row r.row:=by simp[Prt.row,eqDs,eqD]
set_option maxRecDepth 100000 in
theorem mports_same(l:List Prt){ra sa rb sb:List (List D)}(ha:ra=l.map Prt.row)(hb:rb=l.map Prt.row):FSpec Tryz.prog T 20 [.lst 89 ra sa,.lst 89 rb sb] (fun d _=>d = .tt):=by
 subst ha hb
 refine FSpec.tt (p:=True) ?_ trivial
 refine FSpec.of_len Tryz.call20 0 rfl fun hlen=>?_
 have hml:(l.map Prt.row).length=l.length:=by simp
 refine FSpec.of_ok tok Tryz.func20 rfl Tryz.call20 (by simp) ?_
 (try (conv=>whnf));repeat' (first|refine Ok.seq ?_|((first|refine Ok.region tok ?_|refine Ok.cond ?_);conv=>whnf)|refine Ok.block ?_|(refine Ok.skip ?_;conv=>whnf)|(refine bI ?_ ?_<;>intro<;>(conv=>whnf)<;>(try (exfalso;omega)))|fail)
 refine Ok.loopU [0,1] [5] 0 0 (fun (k:Nat)=>[.i .i64 (k:Nat)]) (fun _ b=>b) (fun _ r=>r) (fun (k:Nat)=>k<=l.length) (fun (k:Nat)=>l.length - k) (0) (Nat.zero_le _) ?_;(conv=>whnf);refine⟨by ((conv=>whnf);first|rfl|(simp[envCat, List.take_of_length_le, SI.row, Node.row, Pfx.row, Link.row, srow, Line.row, Rule.row, Box.row, Slc.row, Config.row, Prt.row];done)|(simp[envCat, List.take_of_length_le, SI.row, Node.row, Pfx.row, Link.row, srow, Line.row, Rule.row, Box.row, Slc.row, Config.row, Prt.row];rw[IntKind.wrap_i64];omega)),?_⟩
 rintro k hk
 (conv=>whnf)
 by_cases hkl:k<l.length
 . obtain⟨x,hx⟩:∃ x,l[k]? = some x:=⟨_,List.getElem?_eq_getElem hkl⟩
   have hxr:(l.map Prt.row)[((k:Nat):Int).toNat]? = some x.row:=by show (l.map Prt.row)[k]? = _;rw[List.getElem?_map,hx];rfl
   (try (conv=>whnf));repeat' (first|(refine⟨_,eqPort,by kernel_rfl,?_⟩;conv=>whnf)|refine Ok.seq ?_|((first|refine Ok.region tok ?_|refine Ok.region_draw tok follows (by kernel_rfl) ?_|refine Ok.cond ?_);conv=>whnf)|refine Ok.block ?_|((first|refine Ok.skip ?_|refine Ok.ret ?_|refine nI ?_|refine ix _ (by assumption) ?_);conv=>whnf)|(refine bI ?_ ?_<;>intro<;>(conv=>whnf)<;>(try (exfalso;omega)))|fail)
   all_goals first
    | exact absurd (eqRowP x) (by assumption)
    | (refine⟨k+1,by omega,by omega,?_⟩
       (conv=>whnf);(first|rfl|simp[envCat, List.take_of_length_le, SI.row, Node.row, Pfx.row, Link.row, srow, Line.row, Rule.row, Box.row, Slc.row, Config.row, Prt.row])
       done)
 . (try (conv=>whnf));repeat' (first|refine Ok.seq ?_|((first|refine Ok.region tok ?_|refine Ok.cond ?_|refine Ok.exit ?_|refine Ok.ret ?_);conv=>whnf)|(refine bI ?_ ?_<;>intro<;>(conv=>whnf)<;>(try (exfalso;omega)))|fail)
   refine Or.inl ?_;(conv=>whnf)
   rfl
end Go.Proofs.YtcglkonooeddfaaGreatDoor
namespace Go.Proofs.YtcglkonooeddfaaGreatDoor
open Go Go.Vx
structure Eg where
 frm:Int
 dst:Int
 cost:Int
 out:Int
def Eg.row(e:Eg):List D:=[.i .i64 e.frm,.i .i64 e.dst,.i .i64 e.cost,.i .i64 e.out]
def boxAt(c:ConfigB)(k:Int):Int:=(((prtsN 0 c.boxes)[k.toNat]?).map fun p=>(p.box:Int)).getD 0
def egOf(c:ConfigB)(x:Link):Eg:=⟨boxAt c (plc (fullsL c.boxes) x.frm),boxAt c (plc (fullsL c.boxes) x.dst),x.cost,plc (fullsL c.boxes) x.frm⟩
def lkAt(c:ConfigB)(l:List Link)(k:Int):List Link:=l.filter fun x=>decide (plc (fullsL c.boxes) x.frm=k)
def egAt(c:ConfigB)(l:List Link)(k:Int):List Eg:=(lkAt c l k).map (egOf c)
def egsL(c:ConfigB)(n:Nat):List Eg:=(List.range n).flatMap fun i:Nat=>egAt c c.links (i:Int)
def egsF(c:ConfigB):List Eg:=egsL c (fullsL c.boxes).length
def egLast(c:ConfigB)(l:List Link)(k:Int):Option Eg:=((lkAt c l k).getLast?).map (egOf c)
theorem egsL_succ(c:ConfigB)(n:Nat):egsL c (n+1)=egsL c n++egAt c c.links n:=by simp[egsL,List.range_succ]
theorem lkAt_succ{c:ConfigB}{l:List Link}{i:Nat}{x:Link}(h:l[i]? = some x)(k:Int):lkAt c (l.take (i+1)) k=lkAt c (l.take i) k++if plc (fullsL c.boxes) x.frm=k then [x] else []:=by
 unfold lkAt
 rw[List.take_add_one,h,List.filter_append]
 congr 1
 by_cases hk:plc (fullsL c.boxes) x.frm=k<;>simp[hk]
theorem egLast_succ{c:ConfigB}{l:List Link}{i:Nat}{x:Link}(h:l[i]? = some x)(k:Int):egLast c (l.take (i+1)) k=if k=plc (fullsL c.boxes) x.frm then some (egOf c x) else egLast c (l.take i) k:=by
 unfold egLast
 rw[lkAt_succ h]
 by_cases hk:plc (fullsL c.boxes) x.frm=k
 . rw[if_pos hk,if_pos hk.symm]
   simp
 . rw[if_neg hk,if_neg (fun e=>hk e.symm),List.append_nil]
theorem egAt_len(c:ConfigB)(l:List Link)(k:Int):(egAt c l k).length<=l.length:=by
 unfold egAt lkAt
 rw[List.length_map]
 exact List.length_filter_le _ _
theorem egsL_len{c:ConfigB}(h:c.links.length<=48):∀ n:Nat,(egsL c n).length<=n*48
 | 0=>by simp[egsL]
 | n+1=>by
  rw[egsL_succ,List.length_append]
  have h1:=egAt_len c c.links n
  have h2:=egsL_len h n
  omega
theorem link_frm{c:ConfigB}(h:(linkO c).1=0){k:Nat}{x:Link}(hx:c.links[k]? = some x):¬ ∃ y ∈ c.links.take k,y.frm=x.frm:=by
 have h1:=firstE_zero h k x hx
 intro hy
 by_cases e1:sidesI [x.frm] (fullOut c) (fullIn c) ≠ 0
 . rw[linkE_frm e1] at h1;exact e1 h1
 by_cases e2:sidesI [x.dst] (fullIn c) (fullOut c) ≠ 0
 . rw[linkE_to e1 e2] at h1;exact e2 h1
 by_cases e3:x.cost<1\/9999<x.cost
 . rw[linkE_cost e1 e2 e3] at h1;cases h1
 . rw[linkE_dbl e1 e2 e3 hy] at h1;cases h1
theorem link_pair{c:ConfigB}(h:(linkO c).1=0):c.links.Pairwise fun x y=>plc (fullsL c.boxes) x.frm ≠ plc (fullsL c.boxes) y.frm:=by
 rw[List.pairwise_iff_getElem]
 intro i j hi hj hij he
 have hx:c.links[i]? = some c.links[i]:=List.getElem?_eq_getElem hi
 have hy:c.links[j]? = some c.links[j]:=List.getElem?_eq_getElem hj
 refine link_frm h hy ⟨c.links[i],?_,?_⟩
 . refine List.mem_of_getElem? (i:=i) ?_
   rw[List.getElem?_take_of_lt hij,hx]
 . obtain⟨_,h1⟩:=plc_at (link_known h (List.mem_of_getElem? hx)).1
   obtain⟨_,h2⟩:=plc_at (link_known h (List.mem_of_getElem? hy)).1
   rw[he,h2] at h1
   exact (Option.some.inj h1).symm
theorem egAt_last{c:ConfigB}(h:(linkO c).1=0)(k:Int):egAt c c.links k=(egLast c c.links k).toList:=by
 unfold egAt egLast
 have h1:(lkAt c c.links k).Pairwise fun x y=>plc (fullsL c.boxes) x.frm ≠ plc (fullsL c.boxes) y.frm:=(link_pair h).filter _
 have h2:∀ x ∈ lkAt c c.links k,plc (fullsL c.boxes) x.frm=k:=fun x hx=>by simpa using (List.mem_filter.1 hx).2
 generalize lkAt c c.links k=l at h1 h2
 match l with
 | []=>rfl
 | [x]=>rfl
 | x :: y :: l=>exact absurd ((h2 x (by simp)).trans (h2 y (by simp)).symm) ((List.pairwise_cons.1 h1).1 y (by simp))
end Go.Proofs.YtcglkonooeddfaaGreatDoor
namespace Go.Proofs.YtcglkonooeddfaaGreatDoor
open Go Go.Vx
def dstOf(c:ConfigB)(l:List Link)(k:Int):Int:=(((lkAt c l k).getLast?).map fun x=>plc (fullsL c.boxes) x.dst).getD (-1)
theorem dstOf_succ{c:ConfigB}{l:List Link}{i:Nat}{x:Link}(h:l[i]? = some x)(k:Int):dstOf c (l.take (i+1)) k=if plc (fullsL c.boxes) x.frm=k then plc (fullsL c.boxes) x.dst else dstOf c (l.take i) k:=by
 unfold dstOf
 rw[lkAt_succ h]
 by_cases hk:plc (fullsL c.boxes) x.frm=k
 . rw[if_pos hk,if_pos hk]
   simp
 . rw[if_neg hk,if_neg hk,List.append_nil]
theorem prtsW_get{c:ConfigB}(h:(linkO c).1=0)(n:Nat):∀ k:Nat,k<=c.links.length->(prtsW c k)[n]? = ((prtsN 0 c.boxes)[n]?).map fun p=>⟨p.name,p.box,p.inn,dstOf c (c.links.take k) n⟩
 | 0,_=>by
  show (prtsN 0 c.boxes)[n]? = _
  cases hp:(prtsN 0 c.boxes)[n]? with
  | none=>rfl
  | some p=>
   have:=prtsN_dst 0 c.boxes p (List.mem_of_getElem? hp)
   obtain⟨a,b,q,d⟩:=p
   simp only at this
   subst this
   rfl
 | k+1,hk=>by
  have ih:=prtsW_get h n k (by omega)
  have hx:c.links[k]? = some c.links[k]:=List.getElem?_eq_getElem (by omega)
  generalize c.links[k]=x at hx
  obtain⟨hf,_⟩:=link_known h (List.mem_of_getElem? hx)
  obtain⟨g0,_⟩:=plc_at hf
  have g1:=plc_lt (fullsL c.boxes) x.frm
  have hl:(plc (fullsL c.boxes) x.frm).toNat<(prtsW c k).length:=by rw[prtsW_len];omega
  have hpp:(prtsW c k)[(plc (fullsL c.boxes) x.frm).toNat]? = some _:=List.getElem?_eq_getElem hl
  rw[prtsW_succ hx,setD_some hpp,dstOf_succ hx]
  by_cases he:plc (fullsL c.boxes) x.frm=(n:Int)
  . have hn:(plc (fullsL c.boxes) x.frm).toNat=n:=by omega
    rw[if_pos he]
    have hn2:(prtsW c k)[n]? = some (prtsW c k)[(plc (fullsL c.boxes) x.frm).toNat]:=by rw[<- hpp,hn]
    rw[hn2] at ih
    cases hp:(prtsN 0 c.boxes)[n]? with
    | none=>rw[hp] at ih;cases ih
    | some p=>
     rw[hp] at ih
     have e:=Option.some.inj ih
     rw[e,hn,List.getElem?_set_self (by omega)]
     rfl
  . rw[if_neg he,List.getElem?_set_ne (by omega)]
    exact ih
theorem prtsF_get{c:ConfigB}(h:(linkO c).1=0)(n:Nat):(prtsF c)[n]? = ((prtsN 0 c.boxes)[n]?).map fun p=>⟨p.name,p.box,p.inn,dstOf c c.links n⟩:=by
 have:=prtsW_get h n c.links.length (Nat.le_refl _)
 rw[List.take_length] at this
 exact this
theorem check_zero{c:ConfigB}(h:(checkO c).1=0):checkO c=(0,[]):=by
 obtain⟨h0,h1,h2,h3,h4,h5⟩:=check_parts h
 unfold checkO
 rw[orE_ok h0,orE_ok h1,orE_ok h2,orE_ok h3,orE_ok h4]
 exact firstE_emp h5
end Go.Proofs.YtcglkonooeddfaaGreatDoor
namespace Go.Proofs.YtcglkonooeddfaaGreatDoor
open Go Go.Vx
theorem mright_at(c:Config)(hc:c.Ok)(ht:c.Tx):FSpec Tryz.prog T 25 [.agg c.row] (fun d _=>d = .b ((checkO c.b).1=0)):=by
 have r:=mcheck_at word_ok itoa_ok c hc ht
 refine FSpec.of_ok tok Tryz.func25 rfl Tryz.call25 (by simp) ?_
 by_cases h0:(checkO c.b).1=0
 . rw[check_zero h0] at r
   (try (conv=>whnf));repeat' (first|refine Ok.seq ?_|((first|refine Ok.region tok ?_|refine Ok.ret ?_);conv=>whnf)|(refine Or.inl ?_;(conv=>whnf);(repeat (refine aI ?_;conv=>whnf));refine⟨_,r,rfl,?_⟩;conv=>whnf)|(refine Or.inl ?_;(conv=>whnf);(repeat (refine aI ?_;conv=>whnf));refine⟨_,munum_at 0,rfl,?_⟩;conv=>whnf)|(refine bI ?_ ?_<;>intro<;>(conv=>whnf)<;>(try (exfalso;omega)))|fail)
   all_goals first
    | exact absurd rfl (by assumption)
    | (refine Or.inl ?_;(conv=>whnf)
       exact b_eq ⟨fun _=>h0,fun _=>by first|trivial|rfl|exact⟨rfl,rfl⟩⟩)
 . (try (conv=>whnf));repeat' (first|refine Ok.seq ?_|((first|refine Ok.region tok ?_|refine Ok.ret ?_);conv=>whnf)|(refine Or.inl ?_;(conv=>whnf);(repeat (refine aI ?_;conv=>whnf));refine⟨_,r,rfl,?_⟩;conv=>whnf)|(refine Or.inl ?_;(conv=>whnf);(repeat (refine aI ?_;conv=>whnf));refine⟨_,munum_at (checkO c.b).1,rfl,?_⟩;conv=>whnf)|(refine bI ?_ ?_<;>intro<;>(conv=>whnf)<;>(try (exfalso;omega)))|fail)
   all_goals first
    | exact absurd (by assumption) h0
    | (refine Or.inl ?_;(conv=>whnf)
       exact b_eq ⟨fun h=>h.elim,fun h=>h0 h⟩)
    | (refine Or.inl ?_;(conv=>whnf)
       exact b_eq ⟨fun h=>absurd h.1 h0,fun h=>absurd h h0⟩)
end Go.Proofs.YtcglkonooeddfaaGreatDoor
namespace Go.Proofs.YtcglkonooeddfaaGreatDoor
open Go Go.Vx
def fE(o:Option Eg):D:=.agg (o.getD ⟨0,0,0,0⟩).row
theorem mtIE:MTy Tryz.prog 161 (D.i .i64) fE:=by
 refine⟨⟨3,97,Tryz.underlying161,keyI Tryz.underlying3,fun w=>?_⟩,fun o=>rfl⟩
 kernel_rfl
theorem boxAt_of{c:ConfigB}{s:Str}(hs:s ∈ fullsL c.boxes):∃ p:Prt,(prtsN 0 c.boxes)[(plc (fullsL c.boxes) s).toNat]? = some p/\boxAt c (plc (fullsL c.boxes) s)=(p.box:Int):=by
 have h2:=plc_lt (fullsL c.boxes) s
 have h1:=(plc_at hs).1
 have hl:(prtsN 0 c.boxes).length=(fullsL c.boxes).length:=by rw[<- prtsN_names 0,List.length_map]
 have hk:(plc (fullsL c.boxes) s).toNat<(prtsN 0 c.boxes).length:=by omega
 refine⟨_,List.getElem?_eq_getElem hk,?_⟩
 unfold boxAt
 rw[List.getElem?_eq_getElem hk]
 rfl
set_option maxRecDepth 100000 in
set_option maxHeartbeats 16000000 in
theorem medges_ok(c:Config)(hc:c.Ok)(ht:c.Tx)(h0:(checkO c.b).1=0) :
    FSpecH Tryz.prog T [] 41 [.agg c.row] (fun d rows M=>(d = .tup [.own 0 (egsF c.b).length,.i .i64 0]/\rows=[some (97,(egsF c.b).map Eg.row)])/\M=[]):=by
 have hck:=mcheck_at word_ok itoa_ok c hc ht
 rw[h0] at hck
 obtain⟨_,h1,h2,_,h4,_⟩:=check_parts h0
 have hpn:(fullsL c.b.boxes).length<=48:=by rw[fullsL_len];exact (count_ok h1).2.1
 have hlk:=(count_ok h1).2.2.1
 have hnum:=numbered_at c hc (tx_names ht) (by omega)
 have hpr:((plcs c.b.boxes).map plRow).length=(plcs c.b.boxes).length:=by simp
 have hll:(c.links.l.map Link.row).length=c.links.l.length:=by simp
 have hL:=hc.links
 have hpl:(plcs c.b.boxes).length=(fullsL c.b.boxes).length:=by rw[plcs_eq,List.length_map,<- prtsN_names 0,List.length_map]
 refine FSpecH.of_ok0 tok Tryz.func41 rfl Tryz.call41 (by simp) ?_
 (try (conv=>whnf));repeat' (first|(refine⟨_,_,_,_,_,mtIE,fun _ _=>?_⟩;conv=>whnf)|(refine Or.inr (Or.inl ?_);(conv=>whnf);(repeat (refine aI ?_;conv=>whnf));refine⟨_,hnum , ?_⟩;rintro _ _ _ ⟨gn,lst,cn,rfl,rfl,rfl,hnm,hwf,hky⟩<;>(conv=>whnf))|refine OkM.seq ?_|((first|refine OkM.region tok ?_|refine OkM.cond ?_);conv=>whnf)|refine OkM.block ?_|(refine OkM.skip ?_;conv=>whnf)|(refine Or.inl ?_;(conv=>whnf);refine Or.inl ?_;(conv=>whnf);(repeat (refine aI ?_;conv=>whnf));refine⟨_,hck,rfl,?_⟩;conv=>whnf)|(refine bI ?_ ?_<;>intro<;>(conv=>whnf)<;>(try (exfalso;omega)))|fail)
 rename_i gb hgb
 have hN:NumOk c.b lst:=⟨fulls_nodup h2,hnm,hky⟩
 have hat:∀ s,s ∈ fullsL c.b.boxes->∃ p:Prt,((plcs c.b.boxes).map plRow)[((lk lst s).getD 0).toNat]? = some (plRow (p.box,p.inn))/\boxAt c.b (plc (fullsL c.b.boxes) s)=(p.box:Int)/\(lk lst s).getD 0=plc (fullsL c.b.boxes) s/\0<=(lk lst s).getD 0/\(lk lst s).getD 0<((plcs c.b.boxes).length:Nat):=by
  intro s hs
  obtain⟨_,_,e1,_⟩:=hN.some hs
  obtain⟨p,hp,hb⟩:=boxAt_of hs
  obtain⟨g0,_⟩:=plc_at hs
  have g2:=plc_lt (fullsL c.b.boxes) s
  rw[e1]
  simp only[Option.getD_some]
  refine⟨p,?_,hb,trivial,g0,by omega⟩
  rw[plcs_eq,List.map_map,List.getElem?_map,hp]
  rfl
 refine OkM.loopU [6,7,8,32,33] [34] 1 1 (fun (x:Nat × List (Int × Eg × Nat) × Nat)=>[.i .i64 (x.1:Nat)]) (fun (x:Nat × List (Int × Eg × Nat) × Nat) (_:List (List D))=>[c.row]) (fun (x:Nat × List (Int × Eg × Nat) × Nat) (_:Vx.Rows)=>[some (160,(plcs c.b.boxes).map plRow)]) (fun (x:Nat × List (Int × Eg × Nat) × Nat)=>[(gb,mObj (D.i .i64) fE x.2.1 x.2.2),(gn,mObj D.s fI lst cn)]) (fun (x:Nat × List (Int × Eg × Nat) × Nat)=>x.1<=c.links.l.length/\∀ k,lk x.2.1 k=egLast c.b (c.b.links.take x.1) k) (fun (x:Nat × List (Int × Eg × Nat) × Nat)=>c.links.l.length - x.1) ((0,[],0)) (⟨Nat.zero_le _,fun k=>rfl⟩) (by first|exact .refl _|exact .cons _ (.refl _)|exact List.nil_sublist _) ?_;(conv=>whnf);refine⟨by ((conv=>whnf);first|rfl|(simp[envCat, List.take_of_length_le, SI.row, Node.row, Pfx.row, Link.row, srow, Line.row, Rule.row, Box.row, Slc.row, Config.row, plRow, Eg.row];done)|(simp[envCat, List.take_of_length_le, SI.row, Node.row, Pfx.row, Link.row, srow, Line.row, Rule.row, Box.row, Slc.row, Config.row, plRow, Eg.row];rw[IntKind.wrap_i64];omega)),?_⟩
 rintro⟨n,lb,cb⟩ ⟨hn,hlb⟩
 dsimp only at hn hlb ⊢
 (conv=>whnf)
 by_cases hlt:n<c.links.l.length
 . obtain⟨x,hx⟩:∃ x,c.links.l[n]? = some x:=⟨_,List.getElem?_eq_getElem hlt⟩
   have hxI:c.links.l[((n:Nat):Int).toNat]? = some x:=hx
   have hxr:(c.links.l.map Link.row)[((n:Nat):Int).toNat]? = some x.row:=by rw[List.getElem?_map,hxI];rfl
   obtain⟨hxf,hxt⟩:=link_known h4 (List.mem_of_getElem? hx)
   obtain⟨p,f1,f2,f3,f4,f5⟩:=hat x.frm hxf
   obtain⟨q,t1,t2,t3,t4,t5⟩:=hat x.dst hxt
   have heg:D.agg [.i .i64 (p.box:Nat),.i .i64 (q.box:Nat),.i .i64 x.cost,.i .i64 ((lk lst x.frm).getD 0)]=fE (some (egOf c.b x)):=by
    unfold fE egOf Eg.row
    simp only[Option.getD_some,f2,f3,t2]
   (try (conv=>whnf));repeat' (first|((first|refine⟨_,_,_,_,_,_,_,0,_,egOf c.b x,mtIE,rfl,rfl,heg,?_⟩|refine⟨_,_,_,_,_,_,_,_,mtSI,(by first|exact .head _|exact .tail _ (.head _)|exact .tail _ (.tail _ (.head _))|exact .tail _ (.tail _ (.tail _ (.head _)))|exact List.mem_append_left _ (by assumption)),rfl,?_⟩);conv=>whnf)|refine OkM.seq ?_|((first|refine OkM.region tok ?_|refine OkM.region_tree (id:=9) tok follows [(2,3,[]),(6,7,[])] (.q 0 (.q 1 (.q 2 (.q 4 (.q 5 (.q 6 (.alt 3 (.q 8 (.l 7 (.q 9 .nil))) (.alt 7 (.l 3 (.q 8 (.q 9 .nil))) .nil)))))))) (by kernel_rfl) ?_|refine OkM.region_tree (id:=10) tok follows [(6,16,[]),(11,16,[]),(13,16,[])] (.q 0 (.q 1 (.q 2 (.q 3 (.q 4 (.q 5 (.q 6 (.q 7 (.q 8 (.q 9 (.q 10 (.q 11 (.q 12 (.q 13 (.q 14 (.q 15 (.l 16 .nil))))))))))))))))) (by kernel_rfl) ?_|refine OkM.cond ?_);conv=>whnf)|refine OkM.block ?_|((first|refine OkM.skip ?_|refine nI ?_|refine ix _ (by assumption) ?_|refine⟨_,by assumption,?_⟩);conv=>whnf)|(refine bI ?_ ?_<;>intro<;>(conv=>whnf)<;>(try (exfalso;omega)))|(refine aJ ?_;conv=>whnf)|(exact True.intro)|(refine And.intro ?_ ?_<;>(conv=>whnf))|fail)
   all_goals
    refine⟨(n+1,(mput lb cb ((lk lst x.frm).getD 0) (egOf c.b x)).1,(mput lb cb ((lk lst x.frm).getD 0) (egOf c.b x)).2),by dsimp only;omega,⟨by dsimp only;omega,fun k=>?_⟩,List.Sublist.refl _,?_⟩
    . dsimp only
      rw[mput_lk,egLast_succ (l:=c.b.links) (x:=x) hx k,hlb,f3]
    . (conv=>whnf)
      rfl
 . obtain rfl:n=c.links.l.length:=by omega
   have htl:c.b.links.take c.links.l.length=c.b.links:=List.take_of_length_le (Nat.le_refl _)
   rw[htl] at hlb
   (try (conv=>whnf));repeat' (first|refine OkM.seq ?_|((first|refine OkM.region tok ?_|refine OkM.cond ?_);conv=>whnf)|refine OkM.block ?_|(refine OkM.exit ?_;conv=>whnf)|(refine bI ?_ ?_<;>intro<;>(conv=>whnf)<;>(try (exfalso;omega)))|fail)
   refine OkM.ghost 13 97 rfl ?_
   (conv=>whnf)
   have hel:∀ k:Nat,k<=(plcs c.b.boxes).length->(egsL c.b k).length<=2304:=fun k hk=>by have:=egsL_len (c:=c.b) hlk k;omega
   refine OkM.loopU [8,64] [13,65] 2 1 (fun (k:Nat)=>[.own 1 (egsL c.b k).length,.i .i64 (k:Nat)]) (fun (k:Nat) (_:List (List D))=>[c.row]) (fun (k:Nat) (_:Vx.Rows)=>[some (160,(plcs c.b.boxes).map plRow),some (97,(egsL c.b k).map Eg.row)]) (fun (k:Nat)=>[(gb,mObj (D.i .i64) fE lb cb),(gn,mObj D.s fI lst cn)]) (fun (k:Nat)=>k<=(plcs c.b.boxes).length) (fun (k:Nat)=>(plcs c.b.boxes).length - k) (0) (Nat.zero_le _) (by first|exact .refl _|exact .cons _ (.refl _)|exact List.nil_sublist _) ?_;(conv=>whnf);refine⟨by ((conv=>whnf);first|rfl|(simp[envCat, List.take_of_length_le, SI.row, Node.row, Pfx.row, Link.row, srow, Line.row, Rule.row, Box.row, Slc.row, Config.row, plRow, Eg.row];done)|(simp[envCat, List.take_of_length_le, SI.row, Node.row, Pfx.row, Link.row, srow, Line.row, Rule.row, Box.row, Slc.row, Config.row, plRow, Eg.row];rw[IntKind.wrap_i64];omega)),?_⟩
   rintro k hk
   (conv=>whnf)
   have hem:((egsL c.b k).map Eg.row).length=(egsL c.b k).length:=by simp
   have hek:=hel k hk
   by_cases hkl:k<(plcs c.b.boxes).length
   . have hlbk:=hlb k
     cases he:egLast c.b c.b.links k with
     | none=>
      rw[he] at hlbk
      have hes:egsL c.b (k+1)=egsL c.b k:=by rw[egsL_succ,egAt_last h4,he];simp
      (try (conv=>whnf));repeat' (first|(refine⟨_,_,_,_,_,_,_,_,mtIE,(by first|exact .head _|exact .tail _ (.head _)|exact .tail _ (.tail _ (.head _))|exact .tail _ (.tail _ (.tail _ (.head _)))|exact List.mem_append_left _ (by assumption)),rfl,?_⟩;conv=>whnf)|refine OkM.seq ?_|((first|refine OkM.region tok ?_|refine OkM.cond ?_);conv=>whnf)|refine OkM.block ?_|((first|refine OkM.skip ?_|refine nI ?_|refine Alt2.l (aI ?_)|refine⟨_,.inl ⟨rfl,rfl⟩,?_⟩|refine⟨_,_,rfl,rfl,?_⟩);conv=>whnf)|(refine bI ?_ ?_<;>intro<;>(conv=>whnf)<;>(try (exfalso;omega)))|(refine aJ ?_;conv=>whnf)|fail)
      all_goals first
       | (exfalso;rename_i hx;rw[hlbk] at hx;cases hx;done)
       | (refine⟨k+1,by omega,by omega,List.Sublist.refl _,?_⟩
          rw[hes]
          (conv=>whnf)
          rfl)
     | some e=>
      rw[he] at hlbk
      have hes:egsL c.b (k+1)=egsL c.b k++[e]:=by rw[egsL_succ,egAt_last h4,he];simp
      (try (conv=>whnf));repeat' (first|(refine⟨_,_,_,_,_,_,_,_,mtIE,(by first|exact .head _|exact .tail _ (.head _)|exact .tail _ (.tail _ (.head _))|exact .tail _ (.tail _ (.tail _ (.head _)))|exact List.mem_append_left _ (by assumption)),rfl,?_⟩;conv=>whnf)|refine OkM.seq ?_|((first|refine OkM.region tok ?_|refine OkM.cond ?_);conv=>whnf)|refine OkM.block ?_|((first|refine OkM.skip ?_|refine nI ?_|refine Alt2.l (aI ?_)|refine⟨_,.inl ⟨rfl,rfl⟩,?_⟩|refine⟨_,_,rfl,rfl,?_⟩);conv=>whnf)|(refine bI ?_ ?_<;>intro<;>(conv=>whnf)<;>(try (exfalso;omega)))|(refine aJ ?_;conv=>whnf)|fail)
      all_goals first
       | (exfalso;rename_i hx;exact hx (by rw[hlbk];rfl))
       | (refine⟨k+1,by omega,by omega,List.Sublist.refl _,?_⟩
          rw[hes,hlbk]
          (conv=>whnf);(first|rfl|simp[envCat, List.take_of_length_le, SI.row, Node.row, Pfx.row, Link.row, srow, Line.row, Rule.row, Box.row, Slc.row, Config.row, plRow, Eg.row])
          done)
   . obtain rfl:k=(plcs c.b.boxes).length:=by omega
     (try (conv=>whnf));repeat' (first|refine OkM.seq ?_|((first|refine OkM.region tok ?_|refine OkM.cond ?_|refine OkM.exit ?_|refine OkM.ret ?_);conv=>whnf)|(refine bI ?_ ?_<;>intro<;>(conv=>whnf)<;>(try (exfalso;omega)))|fail)
     refine Or.inr (Or.inl ?_);(conv=>whnf)
     refine⟨?_,?_⟩<;>(rw[hpl];rfl)
theorem medges_bad(c:Config)(hc:c.Ok)(ht:c.Tx)(h0:(checkO c.b).1 ≠ 0) :
    FSpec Tryz.prog T 41 [.agg c.row] (fun d rows=>d = .tup [.lst 97 [] [],.i .i64 (checkO c.b).1]/\rows=[]):=by
 have hck:=mcheck_at word_ok itoa_ok c hc ht
 refine FSpec.of_ok tok Tryz.func41 rfl Tryz.call41 (by simp) ?_
 (try (conv=>whnf));repeat' (first|refine Ok.seq ?_|((first|refine Ok.region tok ?_|refine Ok.cond ?_|refine Ok.ret ?_);conv=>whnf)|(refine Or.inl ?_;(conv=>whnf);(repeat (refine aI ?_;conv=>whnf));refine⟨_,hck,rfl,?_⟩;conv=>whnf)|(refine bI ?_ ?_<;>intro<;>(conv=>whnf)<;>(try (exfalso;omega)))|fail)
 all_goals first
  | (exact absurd h0 (by assumption))
  | (refine Or.inl ?_;(conv=>whnf)
     exact⟨rfl,rfl⟩)
end Go.Proofs.YtcglkonooeddfaaGreatDoor
namespace Go.Proofs.YtcglkonooeddfaaGreatDoor
open Go Go.Vx
def shEdge:List Sh:=[.i .i64,.i .i64,.i .i64,.i .i64]
theorem eqEdge:EqT Tryz.prog 97 shEdge:=EqT.of_b tok (ti:=_) rfl rfl (by kernel_rfl)
theorem take_allE(l:List Eg):(l.map Eg.row).take l.length=l.map Eg.row:=List.take_of_length_le (by simp)
theorem eqRowE(r:Eg):eqDs r.row r.row:=by simp[Eg.row,eqDs,eqD]
set_option maxRecDepth 100000 in
theorem medges_same(l:List Eg){ra sa rb sb:List (List D)}(ha:ra=l.map Eg.row)(hb:rb=l.map Eg.row):FSpec Tryz.prog T 21 [.lst 97 ra sa,.lst 97 rb sb] (fun d _=>d = .tt):=by
 subst ha hb
 refine FSpec.tt (p:=True) ?_ trivial
 refine FSpec.of_len Tryz.call21 0 rfl fun hlen=>?_
 have hml:(l.map Eg.row).length=l.length:=by simp
 refine FSpec.of_ok tok Tryz.func21 rfl Tryz.call21 (by simp) ?_
 (try (conv=>whnf));repeat' (first|refine Ok.seq ?_|((first|refine Ok.region tok ?_|refine Ok.cond ?_);conv=>whnf)|refine Ok.block ?_|(refine Ok.skip ?_;conv=>whnf)|(refine bI ?_ ?_<;>intro<;>(conv=>whnf)<;>(try (exfalso;omega)))|fail)
 refine Ok.loopU [0,1] [5] 0 0 (fun (k:Nat)=>[.i .i64 (k:Nat)]) (fun _ b=>b) (fun _ r=>r) (fun (k:Nat)=>k<=l.length) (fun (k:Nat)=>l.length - k) (0) (Nat.zero_le _) ?_;(conv=>whnf);refine⟨by ((conv=>whnf);first|rfl|(simp[envCat, List.take_of_length_le, SI.row, Node.row, Pfx.row, Link.row, srow, Line.row, Rule.row, Box.row, Slc.row, Config.row, Eg.row];done)|(simp[envCat, List.take_of_length_le, SI.row, Node.row, Pfx.row, Link.row, srow, Line.row, Rule.row, Box.row, Slc.row, Config.row, Eg.row];rw[IntKind.wrap_i64];omega)),?_⟩
 rintro k hk
 (conv=>whnf)
 by_cases hkl:k<l.length
 . obtain⟨x,hx⟩:∃ x,l[k]? = some x:=⟨_,List.getElem?_eq_getElem hkl⟩
   have hxr:(l.map Eg.row)[((k:Nat):Int).toNat]? = some x.row:=by show (l.map Eg.row)[k]? = _;rw[List.getElem?_map,hx];rfl
   (try (conv=>whnf));repeat' (first|(refine⟨_,eqEdge,by kernel_rfl,?_⟩;conv=>whnf)|refine Ok.seq ?_|((first|refine Ok.region tok ?_|refine Ok.region_draw tok follows (by kernel_rfl) ?_|refine Ok.cond ?_);conv=>whnf)|refine Ok.block ?_|((first|refine Ok.skip ?_|refine Ok.ret ?_|refine nI ?_|refine ix _ (by assumption) ?_);conv=>whnf)|(refine bI ?_ ?_<;>intro<;>(conv=>whnf)<;>(try (exfalso;omega)))|fail)
   all_goals first
    | exact absurd (eqRowE x) (by assumption)
    | (refine⟨k+1,by omega,by omega,?_⟩
       (conv=>whnf);(first|rfl|simp[envCat, List.take_of_length_le, SI.row, Node.row, Pfx.row, Link.row, srow, Line.row, Rule.row, Box.row, Slc.row, Config.row, Eg.row])
       done)
 . (try (conv=>whnf));repeat' (first|refine Ok.seq ?_|((first|refine Ok.region tok ?_|refine Ok.cond ?_|refine Ok.exit ?_|refine Ok.ret ?_);conv=>whnf)|(refine bI ?_ ?_<;>intro<;>(conv=>whnf)<;>(try (exfalso;omega)))|fail)
   refine Or.inl ?_;(conv=>whnf)
   rfl
end Go.Proofs.YtcglkonooeddfaaGreatDoor
namespace Go.Proofs.YtcglkonooeddfaaGreatDoor
open Go Go.Vx
theorem lkAt_one{c:ConfigB}(h:(linkO c).1=0){x:Link}(hx:x ∈ c.links):lkAt c c.links (plc (fullsL c.boxes) x.frm)=[x]:=by
 have h1:(lkAt c c.links (plc (fullsL c.boxes) x.frm)).Pairwise fun x y=>plc (fullsL c.boxes) x.frm ≠ plc (fullsL c.boxes) y.frm:=(link_pair h).filter _
 have h2:∀ y ∈ lkAt c c.links (plc (fullsL c.boxes) x.frm),plc (fullsL c.boxes) y.frm=plc (fullsL c.boxes) x.frm:=fun y hy=>by simpa using (List.mem_filter.1 hy).2
 have h3:x ∈ lkAt c c.links (plc (fullsL c.boxes) x.frm):=List.mem_filter.2 ⟨hx,by simp⟩
 generalize lkAt c c.links (plc (fullsL c.boxes) x.frm)=l at h1 h2 h3
 match l with
 | []=>cases h3
 | [y]=>rw[List.mem_singleton.1 h3]
 | y :: z :: l=>exact absurd ((h2 y (by simp)).trans (h2 z (by simp)).symm) ((List.pairwise_cons.1 h1).1 z (by simp))
end Go.Proofs.YtcglkonooeddfaaGreatDoor
namespace Go.Proofs.YtcglkonooeddfaaGreatDoor
open Go Go.Vx
section
variable {α β : Type} {f : List α → α → Er} {A : α → Prop} {key : α → β}
theorem firstE_iff(h:∀ pre x,(f pre x).1=0 ↔ A x/\∀ y ∈ pre,key y ≠ key x):∀ (l pre:List α),(firstE f pre l).1=0 ↔ (∀ x ∈ l,A x)/\(∀ y ∈ pre,∀ x ∈ l,key y ≠ key x)/\l.Pairwise fun x y=>key x ≠ key y
 | [],pre=>by simp[firstE]
 | x :: l,pre=>by
  unfold firstE
  have ih:=firstE_iff h l (pre++[x])
  by_cases h0:(f pre x).1=0
  . rw[if_neg (by simpa using h0),ih,List.pairwise_cons]
    have h1:=(h pre x).1 h0
    constructor
    . rintro⟨a,b,d⟩
      refine⟨fun y hy=>?_,fun y hy z hz=>?_,fun z hz=>b x (by simp) z hz,d⟩
      . rcases List.mem_cons.1 hy with rfl|hy
        . exact h1.1
        . exact a y hy
      . rcases List.mem_cons.1 hz with rfl|hz
        . exact h1.2 y hy
        . exact b y (by simp[hy]) z hz
    . rintro⟨a,b,d,e⟩
      refine⟨fun y hy=>a y (by simp[hy]),fun y hy z hz=>?_,e⟩
      rcases List.mem_append.1 hy with hy|hy
      . exact b y hy z (by simp[hz])
      . rw[List.mem_singleton.1 hy]
        exact d z hz
  . rw[if_pos h0]
    constructor
    . intro h;exact absurd h h0
    . rintro⟨a,b,_⟩
      exact absurd ((h pre x).2 ⟨a x (by simp),fun y hy=>b y hy x (by simp)⟩) h0
theorem firstE_turn(h:∀ pre x,(f pre x).1=0 ↔ A x/\∀ y ∈ pre,key y ≠ key x){l:List α}(h0:(firstE f [] l).1=0):(firstE f [] l.reverse).1=0:=by
 obtain⟨a,_,b⟩:=(firstE_iff h l []).1 h0
 exact (firstE_iff h l.reverse []).2 ⟨fun x hx=>a x (List.mem_reverse.1 hx),fun y hy=>(by cases hy),List.pairwise_reverse.2 (b.imp fun h=>Ne.symm h)⟩
end
def turnB(c:ConfigB):ConfigB:={ c with links:=c.links.reverse,slices:=c.slices.reverse }
theorem turnB_turnB(c:ConfigB):turnB (turnB c)=c:=by simp[turnB]
theorem check_of{c:ConfigB}(h0:(headO c).1=0)(h1:(countO c).1=0)(h2:(nameO c).1=0)(h3:(deedO c).1=0)(h4:(linkO c).1=0)(h5:(sliceO c).1=0):(checkO c).1=0:=by
 unfold checkO
 rw[orE_ok h0,orE_ok h1,orE_ok h2,orE_ok h3,orE_ok h4]
 exact h5
theorem linkE_iff(c:ConfigB)(pre:List Link)(x:Link):(linkE c pre x).1=0 ↔ (sidesI [x.frm] (fullOut c) (fullIn c)=0/\sidesI [x.dst] (fullIn c) (fullOut c)=0/\¬ (x.cost<1\/9999<x.cost))/\∀ y ∈ pre,y.frm ≠ x.frm:=by
 by_cases e1:sidesI [x.frm] (fullOut c) (fullIn c) ≠ 0
 . rw[linkE_frm e1]
   exact⟨fun h=>absurd h e1,fun h=>absurd h.1.1 e1⟩
 by_cases e2:sidesI [x.dst] (fullIn c) (fullOut c) ≠ 0
 . rw[linkE_to e1 e2]
   exact⟨fun h=>absurd h e2,fun h=>absurd h.1.2.1 e2⟩
 by_cases e3:x.cost<1\/9999<x.cost
 . rw[linkE_cost e1 e2 e3]
   exact⟨fun h=>(by cases h),fun h=>absurd e3 h.1.2.2⟩
 by_cases e4:∃ y ∈ pre,y.frm=x.frm
 . rw[linkE_dbl e1 e2 e3 e4]
   obtain⟨y,hy,he⟩:=e4
   exact⟨fun h=>(by cases h),fun h=>absurd he (h.2 y hy)⟩
 . rw[linkE_ok e1 e2 e3 e4]
   exact⟨fun _=>⟨⟨by simpa using e1,by simpa using e2,e3⟩,fun y hy he=>e4 ⟨y,hy,he⟩⟩,fun _=>rfl⟩
theorem sliceE_iff(c:ConfigB)(pre:List SlcB)(s:SlcB):(sliceE c pre s).1=0 ↔ (MName s.name/\(orE (firstE (sportE c) [] s.ports) (if chkE (fds c.fields) (nds s.whr) ≠ 0 then (77,s.name) else (0,[]))).1=0)/\∀ y ∈ pre,y.name ≠ s.name:=by
 unfold sliceE
 by_cases e1:MName s.name
 . rw[if_neg (fun h=>h e1)]
   by_cases e2:∃ x ∈ pre,x.name=s.name
   . rw[if_pos e2]
     obtain⟨y,hy,he⟩:=e2
     exact⟨fun h=>(by cases h),fun h=>absurd he (h.2 y hy)⟩
   . rw[if_neg e2]
     exact⟨fun h=>⟨⟨e1,h⟩,fun y hy he=>e2 ⟨y,hy,he⟩⟩,fun h=>h.1.2⟩
 . rw[if_pos e1]
   exact⟨fun h=>(by cases h),fun h=>absurd h.1.1 e1⟩
theorem turn_check{c:ConfigB}(h:(checkO c).1=0):(checkO (turnB c)).1=0:=by
 obtain⟨h0,h1,h2,h3,h4,h5⟩:=check_parts h
 refine check_of h0 ?_ h2 h3 ?_ ?_
 . unfold countO cntL turnB at *
   simpa using h1
 . exact firstE_turn (f:=linkE (turnB c)) (l:=c.links) (linkE_iff (turnB c)) h4
 . exact firstE_turn (f:=sliceE (turnB c)) (l:=c.slices) (sliceE_iff (turnB c)) h5
theorem turn_check_iff(c:ConfigB):(checkO (turnB c)).1=0 ↔ (checkO c).1=0:=
 ⟨fun h=>by have:=turn_check h;rwa [turnB_turnB] at this,turn_check⟩
theorem lkAt_short{c:ConfigB}(h:(linkO c).1=0)(k:Int):lkAt c c.links k=[]\/∃ x,lkAt c c.links k=[x]:=by
 cases hl:lkAt c c.links k with
 | nil=>exact .inl rfl
 | cons x l=>
  have hx:x ∈ lkAt c c.links k:=by rw[hl];simp
  obtain⟨hm,hk⟩:=List.mem_filter.1 hx
  have hk:plc (fullsL c.boxes) x.frm=k:=by simpa using hk
  have:=lkAt_one h hm
  rw[hk,hl] at this
  exact .inr ⟨x,this⟩
theorem lkAt_turn{c:ConfigB}(h:(linkO c).1=0)(k:Int):lkAt (turnB c) (turnB c).links k=lkAt c c.links k:=by
 have e:lkAt (turnB c) (turnB c).links k=(lkAt c c.links k).reverse:=by
  unfold lkAt turnB
  rw[List.filter_reverse]
 rw[e]
 rcases lkAt_short h k with h|⟨x,h⟩<;>rw[h]<;>rfl
theorem prts_turn{c:ConfigB}(h:(checkO c).1=0):prtsF (turnB c)=prtsF c:=by
 obtain⟨_,_,_,_,h4,_⟩:=check_parts h
 obtain⟨_,_,_,_,h4',_⟩:=check_parts (turn_check h)
 apply List.ext_getElem?
 intro n
 rw[prtsF_get h4',prtsF_get h4]
 unfold dstOf
 rw[lkAt_turn h4]
 rfl
theorem egs_turn{c:ConfigB}(h:(checkO c).1=0):egsF (turnB c)=egsF c:=by
 obtain⟨_,_,_,_,h4,_⟩:=check_parts h
 unfold egsF egsL egAt
 have e:∀ k,lkAt (turnB c) (turnB c).links k=lkAt c c.links k:=lkAt_turn h4
 simp only[e]
 rfl
end Go.Proofs.YtcglkonooeddfaaGreatDoor
namespace Go.Proofs.YtcglkonooeddfaaGreatDoor
open Go Go.Vx
def turnD(c:Config):Config:=⟨c.title,⟨c.fields.l,[]⟩,c.routing,c.slim,⟨c.boxes.l.map boxC,[]⟩,⟨c.links.l.reverse,[]⟩,⟨c.slices.l.reverse,[]⟩⟩
theorem turnD_b(c:Config):(turnD c).b=turnB c.b:=by simp[turnD,turnB,Config.b,Function.comp_def,boxC_b]
theorem boxC_ok{x:Box}(h:x.Ok):(boxC x).Ok:=by
 refine⟨h.ins,h.outs,by simpa[boxC] using h.guards,by simpa[boxC] using h.rules,h.owns,h.routes,fun g hg=>?_,fun r hr=>?_⟩
 . obtain⟨y,hy,rfl⟩:=List.mem_map.1 hg
   exact⟨(h.line y hy).mtch⟩
 . obtain⟨y,hy,rfl⟩:=List.mem_map.1 hr
   have:=h.rule y hy
   exact⟨this.frm,this.mtch,this.sets,this.dst⟩
theorem boxC_tx{x:Box}(h:x.Tx):(boxC x).Tx:=by
 refine⟨h.name,h.ins,h.outs,fun g hg=>?_,fun r hr=>?_,h.owns,h.routes⟩
 . obtain⟨y,hy,rfl⟩:=List.mem_map.1 hg
   exact⟨(h.guards y hy).port,(h.guards y hy).mtch⟩
 . obtain⟨y,hy,rfl⟩:=List.mem_map.1 hr
   have:=h.rules y hy
   exact⟨this.prio,this.frm,this.mtch,this.sets,this.dst⟩
theorem turnD_ok{c:Config}(h:c.Ok):(turnD c).Ok:=by
 refine⟨h.fields,by simpa[turnD] using h.boxes,by simpa[turnD] using h.links,by simpa[turnD] using h.slices,fun b hb=>?_,fun s hs=>h.slc s (List.mem_reverse.1 hs)⟩
 obtain⟨y,hy,rfl⟩:=List.mem_map.1 hb
 exact boxC_ok (h.box y hy)
theorem turnD_tx{c:Config}(h:c.Tx):(turnD c).Tx:=by
 refine⟨h.title,h.fields,h.routing,fun b hb=>?_,fun x hx=>h.links x (List.mem_reverse.1 hx),fun s hs=>h.slices s (List.mem_reverse.1 hs)⟩
 obtain⟨y,hy,rfl⟩:=List.mem_map.1 hb
 exact boxC_tx (h.boxes y hy)
def halfT{α:Type}(l m:List α)(i:Nat):List α:=l.reverse.take i++m.drop i
theorem halfT_0{α:Type}(l m:List α):halfT l m 0=m:=rfl
theorem halfT_len{α:Type}{l m:List α}(h:m.length=l.length){i:Nat}(hi:i<=l.length):(halfT l m i).length=l.length:=by simp[halfT];omega
theorem halfT_all{α:Type}{l m:List α}(h:m.length=l.length):halfT l m l.length=l.reverse:=by
 unfold halfT
 rw[List.take_of_length_le (by simp),List.drop_of_length_le (by omega),List.append_nil]
theorem halfT_set{α:Type}{l m:List α}(h:m.length=l.length){i:Nat}{x:α}(hi:i<l.length)(hx:l[l.length - 1 - i]? = some x):(halfT l m i).set i x=halfT l m (i+1):=by
 have hr:l.reverse[i]? = some x:=by rw[List.getElem?_reverse hi];exact hx
 unfold halfT
 have ht:(l.reverse.take i).length=i:=by simp;omega
 obtain⟨y,hy⟩:∃ y,m[i]? = some y:=⟨_,List.getElem?_eq_getElem (by omega)⟩
 have hd:m.drop i=y :: m.drop (i+1):=by
  rw[List.drop_eq_getElem_cons (by omega)]
  rw[List.getElem?_eq_getElem (by omega)] at hy
  rw[Option.some.inj hy]
 rw[hd,List.set_append_right _ _ (by omega),ht,Nat.sub_self,List.set_cons_zero,List.take_add_one,hr]
 simp
theorem turnD_row(c:Config){nf nb nl ns:Nat}(hf:nf=c.fields.l.length)(hb:nb=c.boxes.l.length)(hl:nl=c.links.l.length)(hs:ns=c.slices.l.length) :
    (turnD c).row=[.s c.title,.lst 127 ((c.fields.l.map SI.row).take nf) ((c.fields.l.map SI.row).drop nf),.s c.routing,.b c.slim,.lst 87 ((c.boxes.l.map fun x=>(boxC x).row).take nb) ((c.boxes.l.map fun x=>(boxC x).row).drop nb),
     .lst 91 ((c.links.l.reverse.map Link.row).take nl) ((c.links.l.reverse.map Link.row).drop nl),.lst 54 ((c.slices.l.reverse.map Slc.row).take ns) ((c.slices.l.reverse.map Slc.row).drop ns)]:=by
 subst hf hb hl hs
 rw[take_all,drop_all,List.take_of_length_le (by simp),List.drop_of_length_le (by simp),List.take_of_length_le (by simp),List.drop_of_length_le (by simp),List.take_of_length_le (by simp),List.drop_of_length_le (by simp)]
 simp[turnD,Config.row,Function.comp_def]
set_option maxRecDepth 100000 in
set_option maxHeartbeats 16000000 in
theorem mturned_law(c:Config)(hc:c.Ok)(ht:c.Tx):FSpec Tryz.prog T 11 [.agg c.row] (fun d _=>d = .b True):=by
 have r1:=mright_at c hc ht
 have r2:=mright_at (turnD c) (turnD_ok hc) (turnD_tx ht)
 rw[turnD_b,propext (turn_check_iff c.b),turnD_row c rfl rfl rfl rfl] at r2
 have hbl:(c.boxes.l.map fun x=>(boxC x).row).length=c.boxes.l.length:=by simp
 have hfl:(c.fields.l.map SI.row).length=c.fields.l.length:=by simp
 have hll:(c.links.l.map Link.row).length=c.links.l.length:=by simp
 have hsl:(c.slices.l.map Slc.row).length=c.slices.l.length:=by simp
 have hL:=hc.links
 have hS:=hc.slices
 have hms:(c.slices.l.map slcC).length=c.slices.l.length:=by simp
 refine FSpec.of_ok tok Tryz.func11 rfl Tryz.call11 (by simp) ?_
 (try (conv=>whnf));repeat' (first|refine Ok.seq ?_|(refine Ok.region tok ?_;conv=>whnf)|refine Ok.block ?_|(refine Or.inr (Or.inl ?_);(conv=>whnf);(repeat (refine aI ?_;conv=>whnf));refine⟨_,Copy_at c hc,?_⟩;rintro _ _ ⟨rfl,rfl⟩;conv=>whnf)|fail)
 refine Ok.loopU [1,3] [4] 4 2 (fun (i:Nat)=>[.i .i64 (i:Nat)]) (fun (i:Nat) (_:List (List D))=>[c.row,[.s c.title,.own 0 c.fields.l.length,.s c.routing,.b c.slim,.own 1 c.boxes.l.length,.own 2 c.links.l.length,.own 3 c.slices.l.length]]) (fun (i:Nat) (_:Vx.Rows)=>[some (127,c.fields.l.map SI.row),some (87,c.boxes.l.map fun x=>(boxC x).row),some (91,(halfT c.links.l c.links.l i).map Link.row),some (54,c.slices.l.map fun x=>(slcC x).row)]) (fun (i:Nat)=>i<=c.links.l.length) (fun (i:Nat)=>c.links.l.length - i) (0) (Nat.zero_le _) ?_;(conv=>whnf);refine⟨by ((conv=>whnf);first|rfl|(simp[envCat, List.take_of_length_le, SI.row, Node.row, Pfx.row, Link.row, srow, Line.row, Rule.row, Box.row, Slc.row, Config.row, Prt.row, Eg.row, Function.comp_def, halfT_0];done)|(simp[envCat, List.take_of_length_le, SI.row, Node.row, Pfx.row, Link.row, srow, Line.row, Rule.row, Box.row, Slc.row, Config.row, Prt.row, Eg.row, Function.comp_def, halfT_0];rw[IntKind.wrap_i64];omega)),?_⟩
 rintro i hi
 (conv=>whnf)
 have hlm:((halfT c.links.l c.links.l i).map Link.row).length=c.links.l.length:=by rw[List.length_map,halfT_len rfl hi]
 by_cases hil:i<c.links.l.length
 . obtain⟨x,hx⟩:∃ x,c.links.l[c.links.l.length - 1 - i]? = some x:=⟨_,List.getElem?_eq_getElem (by omega)⟩
   obtain⟨y,hy⟩:∃ y,(halfT c.links.l c.links.l i)[i]? = some y:=⟨_,List.getElem?_eq_getElem (by rw[halfT_len rfl hi];omega)⟩
   have hxI:c.links.l[(((c.links.l.map Link.row).length:Int) - 1 - (i:Nat)).toNat]? = some x:=by
    rw[show (((c.links.l.map Link.row).length:Int) - 1 - (i:Nat)).toNat=c.links.l.length - 1 - i by omega,hx]
   have hset:(halfT c.links.l c.links.l i).set ((i:Nat):Int).toNat x=_:=halfT_set (l:=c.links.l) (m:=c.links.l) rfl hil hx
   (try (conv=>whnf));repeat' (first|(refine st x hy (by simp[Link.row]) (by simp[setCells,Link.row]) ?_;conv=>whnf)|refine Ok.seq ?_|((first|refine Ok.region tok ?_|refine Ok.region_plan (id:=5) tok follows [(1,14,[]),(4,14,[]),(6,14,[]),(12,14,[])] [.q 0,.q 1,.q 2,.q 3,.q 4,.q 5,.q 6,.q 7,.q 8,.q 9,.q 10,.q 11,.q 12,.q 13,.l 14] (by kernel_rfl) ?_|refine Ok.cond ?_);conv=>whnf)|refine Ok.block ?_|((first|refine Ok.skip ?_|refine nI ?_|refine ixI (by omega) (by assumption) ?_);conv=>whnf)|(refine bI ?_ ?_<;>intro<;>(conv=>whnf)<;>(try (exfalso;omega)))|(refine aJ ?_;conv=>whnf)|fail)
   refine⟨i+1,by omega,by omega,?_⟩
   rw[hset]
   (conv=>whnf)
   rfl
 obtain rfl:i=c.links.l.length:=by omega
 rw[halfT_all rfl]
 (conv=>whnf)
 (try (conv=>whnf));repeat' (first|refine Ok.seq ?_|((first|refine Ok.region tok ?_|refine Ok.cond ?_);conv=>whnf)|refine Ok.block ?_|(refine Ok.exit ?_;conv=>whnf)|(refine bI ?_ ?_<;>intro<;>(conv=>whnf)<;>(try (exfalso;omega)))|fail)
 refine Ok.loopU [1,3] [5] 4 2 (fun (i:Nat)=>[.i .i64 (i:Nat)]) (fun (i:Nat) (_:List (List D))=>[c.row,[.s c.title,.own 0 c.fields.l.length,.s c.routing,.b c.slim,.own 1 c.boxes.l.length,.own 2 c.links.l.length,.own 3 c.slices.l.length]]) (fun (i:Nat) (_:Vx.Rows)=>[some (127,c.fields.l.map SI.row),some (87,c.boxes.l.map fun x=>(boxC x).row),some (91,c.links.l.reverse.map Link.row),some (54,(halfT c.slices.l (c.slices.l.map slcC) i).map Slc.row)]) (fun (i:Nat)=>i<=c.slices.l.length) (fun (i:Nat)=>c.slices.l.length - i) (0) (Nat.zero_le _) ?_;(conv=>whnf);refine⟨by ((conv=>whnf);first|rfl|(simp[envCat, List.take_of_length_le, SI.row, Node.row, Pfx.row, Link.row, srow, Line.row, Rule.row, Box.row, Slc.row, Config.row, Prt.row, Eg.row, Function.comp_def, halfT_0];done)|(simp[envCat, List.take_of_length_le, SI.row, Node.row, Pfx.row, Link.row, srow, Line.row, Rule.row, Box.row, Slc.row, Config.row, Prt.row, Eg.row, Function.comp_def, halfT_0];rw[IntKind.wrap_i64];omega)),?_⟩
 rintro i hi
 (conv=>whnf)
 have hlm:((halfT c.slices.l (c.slices.l.map slcC) i).map Slc.row).length=c.slices.l.length:=by rw[List.length_map,halfT_len hms hi]
 by_cases hil:i<c.slices.l.length
 . obtain⟨x,hx⟩:∃ x,c.slices.l[c.slices.l.length - 1 - i]? = some x:=⟨_,List.getElem?_eq_getElem (by omega)⟩
   obtain⟨y,hy⟩:∃ y,(halfT c.slices.l (c.slices.l.map slcC) i)[i]? = some y:=⟨_,List.getElem?_eq_getElem (by rw[halfT_len hms hi];omega)⟩
   have hxI:c.slices.l[(((c.slices.l.map Slc.row).length:Int) - 1 - (i:Nat)).toNat]? = some x:=by
    rw[show (((c.slices.l.map Slc.row).length:Int) - 1 - (i:Nat)).toNat=c.slices.l.length - 1 - i by omega,hx]
   have hset:(halfT c.slices.l (c.slices.l.map slcC) i).set ((i:Nat):Int).toNat x=_:=halfT_set (m:=c.slices.l.map slcC) hms hil hx
   (try (conv=>whnf));repeat' (first|(refine st x hy (by simp[Slc.row]) (by simp[setCells,Slc.row]) ?_;conv=>whnf)|refine Ok.seq ?_|((first|refine Ok.region tok ?_|refine Ok.region_plan (id:=9) tok follows [(1,14,[]),(4,14,[]),(6,14,[]),(12,14,[])] [.q 0,.q 1,.q 2,.q 3,.q 4,.q 5,.q 6,.q 7,.q 8,.q 9,.q 10,.q 11,.q 12,.q 13,.l 14] (by kernel_rfl) ?_|refine Ok.cond ?_);conv=>whnf)|refine Ok.block ?_|((first|refine Ok.skip ?_|refine nI ?_|refine ixI (by omega) (by assumption) ?_);conv=>whnf)|(refine bI ?_ ?_<;>intro<;>(conv=>whnf)<;>(try (exfalso;omega)))|(refine aJ ?_;conv=>whnf)|fail)
   refine⟨i+1,by omega,by omega,?_⟩
   rw[hset]
   (conv=>whnf)
   rfl
 obtain rfl:i=c.slices.l.length:=by omega
 rw[halfT_all hms]
 (conv=>whnf)
 refine Ok.pub 0 ?_
 (conv=>whnf)
 refine Ok.pub 1 ?_
 (conv=>whnf)
 refine Ok.pub 2 ?_
 (conv=>whnf)
 refine Ok.pub 3 ?_
 (conv=>whnf)
 by_cases h0:(checkO c.b).1=0
 . have p1:=FSpecH.nil ((mports_ok c hc ht h0).mono fun _ _ _ h=>h.1)
   have p2:=FSpecH.nil ((mports_ok (turnD c) (turnD_ok hc) (turnD_tx ht) (by rw[turnD_b];exact turn_check h0)).mono fun _ _ _ h=>h.1)
   have e1:=FSpecH.nil ((medges_ok c hc ht h0).mono fun _ _ _ h=>h.1)
   have e2:=FSpecH.nil ((medges_ok (turnD c) (turnD_ok hc) (turnD_tx ht) (by rw[turnD_b];exact turn_check h0)).mono fun _ _ _ h=>h.1)
   rw[turnD_b,prts_turn h0,turnD_row c rfl rfl rfl rfl] at p2
   rw[turnD_b,egs_turn h0,turnD_row c rfl rfl rfl rfl] at e2
   generalize prtsF c.b=P at p1 p2
   generalize egsF c.b=E at e1 e2
   have hpm:(P.map Prt.row).length=P.length:=by simp
   have hem:(E.map Eg.row).length=E.length:=by simp
   (try (conv=>whnf));repeat' (first|refine Ok.seq ?_|((first|refine Ok.region tok ?_|refine Ok.region_draw tok follows (by kernel_rfl) ?_|refine Ok.cond ?_|refine Ok.skip ?_|refine Ok.exit ?_|refine Ok.ret ?_|refine⟨_,by assumption,?_⟩);conv=>whnf)|(refine Or.inl ?_;(conv=>whnf);(repeat (refine aI ?_;conv=>whnf));refine⟨_,r1,rfl,?_⟩;conv=>whnf)|(refine Or.inl ?_;(conv=>whnf);(repeat (refine aI ?_;conv=>whnf));refine⟨_,munum_at 0,rfl,?_⟩;conv=>whnf)|(refine Or.inl ?_;(conv=>whnf);(repeat (refine aI ?_;conv=>whnf));refine⟨_,mports_same P (take_allP _) (take_allP _),rfl,?_⟩;conv=>whnf)|(refine Or.inl ?_;(conv=>whnf);(repeat (refine aI ?_;conv=>whnf));refine⟨_,medges_same E (take_allE _) (take_allE _),rfl,?_⟩;conv=>whnf)|(refine Or.inl ?_;(conv=>whnf);(repeat (refine aI ?_;conv=>whnf));refine⟨_,mknown_at,rfl,?_⟩;conv=>whnf)|(refine Or.inr (Or.inr (Or.inr (Or.inl ?_)));(conv=>whnf);(repeat (refine aI ?_;conv=>whnf));refine⟨_,p1,?_⟩;rintro _ _ ⟨rfl,rfl⟩<;>(refine And.intro (by simp[gRowsP, grounds, D.ground, SI.row, Node.row, Pfx.row, Link.row, srow, Line.row, Rule.row, Box.row, Slc.row, Config.row, Prt.row, Eg.row, Function.comp_def, halfT_0]) ?_;conv=>whnf))|(refine Or.inr (Or.inr (Or.inr (Or.inl ?_)));(conv=>whnf);(repeat (refine aI ?_;conv=>whnf));refine⟨_,p2,?_⟩;rintro _ _ ⟨rfl,rfl⟩<;>(refine And.intro (by simp[gRowsP, grounds, D.ground, SI.row, Node.row, Pfx.row, Link.row, srow, Line.row, Rule.row, Box.row, Slc.row, Config.row, Prt.row, Eg.row, Function.comp_def, halfT_0]) ?_;conv=>whnf))|(refine Or.inr (Or.inr (Or.inr (Or.inl ?_)));(conv=>whnf);(repeat (refine aI ?_;conv=>whnf));refine⟨_,e1,?_⟩;rintro _ _ ⟨rfl,rfl⟩<;>(refine And.intro (by simp[gRowsP, grounds, D.ground, SI.row, Node.row, Pfx.row, Link.row, srow, Line.row, Rule.row, Box.row, Slc.row, Config.row, Prt.row, Eg.row, Function.comp_def, halfT_0]) ?_;conv=>whnf))|(refine Or.inr (Or.inr (Or.inr (Or.inl ?_)));(conv=>whnf);(repeat (refine aI ?_;conv=>whnf));refine⟨_,e2,?_⟩;rintro _ _ ⟨rfl,rfl⟩<;>(refine And.intro (by simp[gRowsP, grounds, D.ground, SI.row, Node.row, Pfx.row, Link.row, srow, Line.row, Rule.row, Box.row, Slc.row, Config.row, Prt.row, Eg.row, Function.comp_def, halfT_0]) ?_;conv=>whnf))|(refine bI ?_ ?_<;>intro<;>(conv=>whnf)<;>(try (exfalso;omega)))|(refine aJ ?_;conv=>whnf)|fail)
   all_goals first
    | exact absurd rfl (by assumption)
    | exact absurd h0 (by assumption)
    | (refine Or.inl ?_;(conv=>whnf)
       rfl)
 . have p1:=mports_bad c hc ht h0
   have p2:=mports_bad (turnD c) (turnD_ok hc) (turnD_tx ht) (by rw[turnD_b];exact fun h=>h0 ((turn_check_iff _).1 h))
   have e1:=medges_bad c hc ht h0
   have e2:=medges_bad (turnD c) (turnD_ok hc) (turnD_tx ht) (by rw[turnD_b];exact fun h=>h0 ((turn_check_iff _).1 h))
   rw[turnD_row c rfl rfl rfl rfl] at p2 e2
   (try (conv=>whnf));repeat' (first|refine Ok.seq ?_|((first|refine Ok.region tok ?_|refine Ok.region_draw tok follows (by kernel_rfl) ?_|refine Ok.cond ?_|refine Ok.skip ?_|refine Ok.exit ?_|refine Ok.ret ?_|refine⟨_,by assumption,?_⟩);conv=>whnf)|(refine Or.inl ?_;(conv=>whnf);(repeat (refine aI ?_;conv=>whnf));refine⟨_,r1,rfl,?_⟩;conv=>whnf)|(refine Or.inl ?_;(conv=>whnf);(repeat (refine aI ?_;conv=>whnf));refine⟨_,mknown_at,rfl,?_⟩;conv=>whnf)|(refine Or.inr (Or.inl ?_);(conv=>whnf);(repeat (refine aI ?_;conv=>whnf));refine⟨_,p1,?_⟩;rintro _ _ ⟨rfl,rfl⟩<;>(conv=>whnf))|(refine Or.inr (Or.inl ?_);(conv=>whnf);(repeat (refine aI ?_;conv=>whnf));refine⟨_,p2,?_⟩;rintro _ _ ⟨rfl,rfl⟩<;>(conv=>whnf))|(refine Or.inr (Or.inl ?_);(conv=>whnf);(repeat (refine aI ?_;conv=>whnf));refine⟨_,e1,?_⟩;rintro _ _ ⟨rfl,rfl⟩<;>(conv=>whnf))|(refine Or.inr (Or.inl ?_);(conv=>whnf);(repeat (refine aI ?_;conv=>whnf));refine⟨_,e2,?_⟩;rintro _ _ ⟨rfl,rfl⟩<;>(conv=>whnf))|(refine bI ?_ ?_<;>intro<;>(conv=>whnf)<;>(try (exfalso;omega)))|(refine aJ ?_;conv=>whnf)|fail)
   all_goals first
    | exact absurd (by assumption) h0
    | (refine Or.inl ?_;(conv=>whnf)
       rfl)
theorem modelTurned_ats:∃ ls,shapes T 9 [27]=some ls/\∀ xs,TyAs T 1048576 [27] ls xs->FSpec Tryz.prog T 11 xs (fun d _=>d = .b True):=by
 refine⟨_,rfl,fun xs h=>?_⟩
 obtain⟨_,_,rfl,h0,h⟩:=as_cons h
 obtain rfl:=as_nil h
 obtain⟨r0,rfl,g0⟩:=agg_of h0 rfl
 obtain⟨c,rfl,hc,ht⟩:=config_of g0
 exact mturned_law c hc ht
end Go.Proofs.YtcglkonooeddfaaGreatDoor
namespace Go.Proofs.YtcglkonooeddfaaGreatDoor
open Go Go.Vx
theorem len4{α:Type}{l:List α}(h:l.length=4):∃ a b c d,l=[a,b,c,d]:=match l,h with|[a,b,c,d],_=>⟨a,b,c,d,rfl⟩
theorem len5{α:Type}{l:List α}(h:l.length=5):∃ a b c d e,l=[a,b,c,d,e]:=match l,h with|[a,b,c,d,e],_=>⟨a,b,c,d,e,rfl⟩
theorem len20{α:Type}{l:List α}(h:l.length=20):∃ v0 v1 v2 v3 v4 v5 v6 v7 v8 v9 v10 v11 v12 v13 v14 v15 v16 v17 v18 v19,l=[v0,v1,v2,v3,v4,v5,v6,v7,v8,v9,v10,v11,v12,v13,v14,v15,v16,v17,v18,v19]:=match l,h with|[v0,v1,v2,v3,v4,v5,v6,v7,v8,v9,v10,v11,v12,v13,v14,v15,v16,v17,v18,v19],_=>⟨v0,v1,v2,v3,v4,v5,v6,v7,v8,v9,v10,v11,v12,v13,v14,v15,v16,v17,v18,v19,rfl⟩
theorem st4{W:World}{fuel:Nat}{cs:List Value}{y:DataW Unit × List MemPlace}{a b c d:Bool}(h:DataW.trod (fun _=>()) Tryz.prog W 0 (fun _=>true) false fuel 347 cs=some y)
    (hy:y.1 = .agg [.lit (.bool a),.lit (.bool b),.lit (.bool c),.lit (.bool d)]):cs=[.bool a,.bool b,.bool c,.bool d]:=by
 obtain⟨xs,n,_,rfl,hl,hlen,hf⟩:=DataW.trod_struct Tryz.underlying347 h
 have hc4:Tryz.prog.cellsOf 347=4:=by kernel_rfl
 have hcb:Tryz.prog.cellsOf 4=1:=by kernel_rfl
 rw[hc4] at hl
 have hx4:xs.length=4:=hlen
 obtain⟨z0,z1,z2,z3,rfl⟩:=len4 hx4
 obtain⟨v0,v1,v2,v3,rfl⟩:=len4 hl
 ·
  simp only[List.map_cons,List.map_nil,DataW.agg.injEq,List.cons.injEq,and_true] at hy
  obtain⟨e0,e1,e2,e3⟩:=hy
  have f0:DataW.trod (fun _=>()) Tryz.prog W 0 (fun _=>true) false n 4 (List.take (Tryz.prog.cellsOf 4) (List.drop 0 [v0,v1,v2,v3]))=some z0:=hf 0 _ rfl
  rw[hcb,show List.take 1 (List.drop 0 [v0,v1,v2,v3])=[v0] from rfl] at f0
  have f1:DataW.trod (fun _=>()) Tryz.prog W 0 (fun _=>true) false n 4 (List.take (Tryz.prog.cellsOf 4) (List.drop 1 [v0,v1,v2,v3]))=some z1:=hf 1 _ rfl
  rw[hcb,show List.take 1 (List.drop 1 [v0,v1,v2,v3])=[v1] from rfl] at f1
  have f2:DataW.trod (fun _=>()) Tryz.prog W 0 (fun _=>true) false n 4 (List.take (Tryz.prog.cellsOf 4) (List.drop 2 [v0,v1,v2,v3]))=some z2:=hf 2 _ rfl
  rw[hcb,show List.take 1 (List.drop 2 [v0,v1,v2,v3])=[v2] from rfl] at f2
  have f3:DataW.trod (fun _=>()) Tryz.prog W 0 (fun _=>true) false n 4 (List.take (Tryz.prog.cellsOf 4) (List.drop 3 [v0,v1,v2,v3]))=some z3:=hf 3 _ rfl
  rw[hcb,show List.take 1 (List.drop 3 [v0,v1,v2,v3])=[v3] from rfl] at f3
  obtain⟨b0,h0,rfl⟩:=DataW.trod_bool Tryz.underlying4 f0
  obtain⟨b1,h1,rfl⟩:=DataW.trod_bool Tryz.underlying4 f1
  obtain⟨b2,h2,rfl⟩:=DataW.trod_bool Tryz.underlying4 f2
  obtain⟨b3,h3,rfl⟩:=DataW.trod_bool Tryz.underlying4 f3
  clear hf h
  simp only[List.cons.injEq,and_true] at h0 h1 h2 h3
  simp only[DataW.lit.injEq,Lit.bool.injEq] at e0 e1 e2 e3
  rw[h0,h1,h2,h3,e0,e1,e2,e3]
theorem used_of{W:World}{fuel:Nat}{cs:List Value}{p:List MemPlace}(h:DataW.trod (fun _=>()) Tryz.prog W 0 (fun _=>true) false fuel 348 cs=some (Rows.laid_reach_field_used,p)) :
    cs=[.bool false,.bool false,.bool false,.bool false,.bool true,.bool false,.bool false,.bool false,.bool true,.bool false,.bool true,.bool false,.bool true,.bool true,.bool false,.bool false,.bool false,.bool false,.bool false,.bool true]:=by
 obtain⟨xs,m,_,hx,hl,hxl,hf⟩:=DataW.trod_array Tryz.underlying348 h
 have hc:Tryz.prog.cellsOf 348=20:=by kernel_rfl
 have hc4:Tryz.prog.cellsOf 347=4:=by kernel_rfl
 rw[hc] at hl
 rw[hc4] at hf
 have hx1:=(Prod.mk.inj hx).1
 unfold Rows.laid_reach_field_used at hx1
 obtain⟨y0,y1,y2,y3,y4,rfl⟩:=len5 hxl
 obtain⟨v0,v1,v2,v3,v4,v5,v6,v7,v8,v9,v10,v11,v12,v13,v14,v15,v16,v17,v18,v19,rfl⟩:=len20 hl
 ·
  simp only[List.map_cons,List.map_nil,DataW.agg.injEq,List.cons.injEq,and_true] at hx1
  obtain⟨e0,e1,e2,e3,e4⟩:=hx1
  have g0:=st4 (hf 0 (by decide)) e0.symm
  have g1:=st4 (hf 1 (by decide)) e1.symm
  have g2:=st4 (hf 2 (by decide)) e2.symm
  have g3:=st4 (hf 3 (by decide)) e3.symm
  have g4:=st4 (hf 4 (by decide)) e4.symm
  simp at g0 g1 g2 g3 g4
  simp[g0,g1,g2,g3,g4]
theorem gl_of_gt{W:World}(h:GT W):GlOk W:=by
 refine⟨fun pp v hp=>?_,h⟩
 unfold glV at hp
 obtain⟨b,o,sp⟩:=pp
 cases sp with
 | some _=>cases hp
 | none=>
  dsimp only at hp
  cases hg:glD b with
  | none=>rw[hg] at hp;cases hp
  | some cs=>
   rw[hg] at hp
   dsimp only at hp
   obtain⟨_,a,c,hw⟩:=h b cs hg
   show W.cell? ⟨b,o,none⟩=some v
   simp only[World.cell?,hw]
   simpa using hp
theorem heap_of{W:World}{name:String}{g:Nat}{cs:Array Value}(hg:Tryz.prog.globalNamed name=some g)(h:W.var? Tryz.prog name=some cs):∃ a b,W.heap[g]? = some (.cells cs a b):=by
 simp only[World.var?,hg,Option.bind_some] at h
 split at h
 . rename_i cs' a b hh
   cases h
   exact⟨a,b,hh⟩
 . cases h
def VarIs(W:World)(name:String)(g:Nat):Prop:=∃ cs:Array Value,W.var? Tryz.prog name=some cs/\∃ ds,glD g=some ds/\cs.toList=ds.map valD
theorem gt_of{W:World}(h1:VarIs W "reach/field.used" 1)(h5:VarIs W "internal/strconv.uint64pow10" 5):GT W:=by
 have one:∀ name g,Tryz.prog.globalNamed name=some g → VarIs W name g → ∀ cs,glD g=some cs → ∃ a b,W.heap[g]? = some (.cells (cs.map valD).toArray a b):=by
  rintro name g hn ⟨cs,hv,ds,hd,he⟩ cs' hc
  rw[hd] at hc
  cases hc
  obtain⟨a,b,hh⟩:=heap_of hn hv
  exact⟨a,b,by rw[hh,← he]⟩
 intro g cs hg
 match g,hg with
 | 1,hg=>exact⟨by cases hg;simp,one _ 1 (by kernel_rfl) h1 cs hg⟩
 | 5,hg=>exact⟨by cases hg;simp,one _ 5 (by kernel_rfl) h5 cs hg⟩
 | 0,hg=>cases hg
 | 2,hg=>cases hg
 | 3,hg=>cases hg
 | 4,hg=>cases hg
 | n+6,hg=>cases hg
theorem type_of{name:String}{g:Nat}{t t':TypeId}(hg0:Tryz.prog.globalNamed name=some g)(ht0:(Tryz.prog.globals[g]?).map (·.type)=some t){g':Nat}(hg:Tryz.prog.globalNamed name=some g')(ht:(Tryz.prog.globals[g']?).map (·.type)=some t'):g'=g/\t'=t:=by
 obtain rfl:=Option.some.inj (hg0.symm.trans hg)
 exact⟨rfl,(Option.some.inj (ht0.symm.trans ht)).symm⟩
theorem glM{W:World}(h:laidMetH Tryz.prog Rows.modelNumbersUptoRow.laid W):GlOk W:=by
 rw[MakeChecks.laidMetH_plain _ _ _ (by kernel_rfl)] at h
 obtain⟨ps,⟨_,_,_,_,_,_,_,_,_,_,⟨_,_,_,_,_,_,_,_,_,_,⟨g5,t5,c5,f5,p5,q5,hg5,ht5,hv5,hd5,⟨_,_,_,_,_,_,_,_,_,_,⟨g1,t1,c1,f1,p1,q1,hg1,ht1,hv1,hd1,_,_⟩,_⟩,_⟩,_⟩,_⟩,_⟩:=h
 obtain⟨rfl,rfl⟩:=type_of (g:=5) (t:=410) (by kernel_rfl) (by kernel_rfl) hg5 ht5
 obtain⟨rfl,rfl⟩:=type_of (g:=1) (t:=348) (by kernel_rfl) (by kernel_rfl) hg1 ht1
 refine gl_of_gt (gt_of ⟨c1,hv1,_,rfl,?_⟩ ⟨c5,hv5,_,rfl,?_⟩)
 . exact used_of hd1
 . exact Lib.cells_of_tab (zs:=Lib.pow10Tab) Tryz.underlying410 Tryz.underlying134 (by kernel_rfl) (by kernel_rfl) hd5
end Go.Proofs.YtcglkonooeddfaaGreatDoor
