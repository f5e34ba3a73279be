/- The walks and the plain laws that a law of spaces needs, part 5 of 7. -/
import Derived.Test.YtaiondckookpiaaGreatDoorQED
import Derived.Tactics
import Derived.Tactics2
set_option linter.unusedVariables false
set_option linter.unusedSimpArgs false
namespace Go.Proofs.YtaiondckookpiaaGreatDoor
open Go Go.Vx
set_option maxRecDepth 100000 in
set_option maxHeartbeats 16000000 in
theorem text2_at(n:Nat)(l:List TR){rl room:List (List D)}(hok:SpOk n l)(h:rl=l.map trow):FSpec Tryz.prog T 59 [.agg [.i .i64 (n:Int),.lst 112 rl room]] (fun d _=>d = .s (textS (l.map TR.t))):=by
 subst h
 have hll:(l.map trow).length=l.length:=by simp
 have hln:=hok.len
 have hn:=hok.n256
 refine FSpec.of_ok tok Tryz.func59 rfl Tryz.call59 (by simp) ?_
 (try (conv=>whnf));repeat' (first|refine Ok.seq ?_|((first|refine Ok.region tok ?_|refine Ok.cond ?_);conv=>whnf)|refine Ok.block ?_|((first|refine Ok.skip ?_|refine Ok.ret ?_);conv=>whnf)|(refine bI ?_ ?_<;>intro<;>(conv=>whnf)<;>(try (exfalso;omega)))|fail)
 . rename_i h
   refine Or.inl ?_;(conv=>whnf)
   have:l=[]:=List.eq_nil_of_length_eq_zero (by omega)
   subst this
   unfold textS
   rw[if_pos (by rfl)]
   rfl
 . rename_i h
   have hne:l.map TR.t ≠ []:=fun e=>h (by have:=congrArg List.length e;simp at this;simp[this])
   have hl0:l ≠ []:=fun e=>hne (by rw[e];rfl)
   have hpos:=hok.pos hl0
   refine Ok.ghostB 1 1 5 rfl rfl ?_
   (conv=>whnf)
   refine Ok.loopU [1,3,12,13] [14] 1 2 (fun (i:Nat)=>[.i .i64 (i:Nat)]) (fun (i:Nat) (_:List (List D))=>[[.i .i64 (n:Int),.lst 112 (l.map trow) room],[bcl i,.own 0 (sepT ((l.map TR.t).take i)).length]]) (fun (i:Nat) (_:Vx.Rows)=>[some (5,(sepT ((l.map TR.t).take i)).map bcell)]) (fun (i:Nat)=>i<=l.length) (fun (i:Nat)=>l.length - i) (0) (Nat.zero_le _) ?_;(conv=>whnf);refine⟨by ((conv=>whnf);first|rfl|(simp[envCat,List.take_of_length_le,srow,drow,trow,bcell,sepT_nil,tTail_nil];done)|(simp[envCat,List.take_of_length_le,srow,drow,trow,bcell,sepT_nil,tTail_nil];rw[IntKind.wrap_i64];omega)),?_⟩
   rintro i hi
   have hsl:=hok.sep i
   have hsm:((sepT ((l.map TR.t).take i)).map bcell).length=(sepT ((l.map TR.t).take i)).length:=List.length_map _
   by_cases hil:i<l.length
   . obtain⟨x,hx⟩:∃ x,l[i]? = some x:=⟨_,List.getElem?_eq_getElem hil⟩
     have hxm:=List.mem_of_getElem? hx
     have hxw:=hok.wide x hxm
     have hpl:x.t.p.length<=256:=by rw[hxw.1];exact hn
     have hxl:(x.t.less.map crow).length=x.t.less.length:=by simp
     have hxn:=hok.less hxm
     have hxt:(l.map TR.t)[i]? = some x.t:=by simp[hx]
     have hstep:=sepT_step hxt
     have hpre:=hok.pre i
     have hkl:x.t.key.length=n*(x.t.less.length+1):=key_len hxw.1 hxw.2
     have hkb:n*(x.t.less.length+1)<=256*1048577:=Nat.mul_le_mul hn (by omega)
     have hkn:n<=n*(x.t.less.length+1):=Nat.le_mul_of_pos_right n (by omega)
     have hkh:x.t.p=(x.t.key.take n).drop 0:=by rw[List.drop_zero];exact (key_head hxw.1).symm
     have hka:∀ (j:Nat) (m:Str),x.t.less[j]? = some m->m=(x.t.key.take (n*(j+1)+n)).drop (n*(j+1)):=fun j m hm=>(key_at hxw.1 hxw.2 hm).symm
     by_cases hi0:i=0
     . have hp0:preT (l.map TR.t) i=[]:=by rw[hi0];rfl
       have hs0:sepT ((l.map TR.t).take i)=[]:=by rw[hi0];rfl
       have hb0:bcl i = .nilB 146:=by rw[hi0];rfl
       rw[hs0] at hsl hsm ⊢
       rw[hb0]
       rw[hp0] at hpre hstep
       (conv=>whnf)
       (try (conv=>whnf));repeat' (first|refine Ok.seq ?_|((first|refine Ok.region tok ?_|refine Ok.cond ?_);conv=>whnf)|refine Ok.block ?_|((first|refine Ok.skip ?_|refine ix _ (by assumption) ?_|refine⟨_,by assumption,?_⟩|refine⟨_,_,rfl,rfl,?_⟩);conv=>whnf)|(refine bI ?_ ?_<;>intro<;>(conv=>whnf)<;>(try (exfalso;omega)))|(refine aJ ?_;conv=>whnf)|fail)
       refine Or.inr (Or.inr (Or.inl ?_));(conv=>whnf);refine⟨_,_,Tryz.func110,rfl,Tryz.call110,?_⟩;(conv=>whnf)
       (try (conv=>whnf));repeat' (first|refine Ok.seq ?_|(refine Ok.region tok ?_;conv=>whnf)|fail)
       refine Or.inr (Or.inr (Or.inr (Or.inr ?_)))
       (conv=>whnf)
       refine effW_fresh copyAt rfl ?_
       (conv=>whnf)
       (try (conv=>whnf));repeat' (first|((refine And.intro byteT ?_);conv=>whnf)|refine Ok.seq ?_|(refine Ok.region tok ?_;conv=>whnf)|refine Ok.block ?_|((first|refine Ok.ret ?_|refine⟨_,_,rfl,rfl,?_⟩|refine aJ ?_);conv=>whnf)|fail)
       refine Ok.loopU [1,3,5,12,13,14] [6] 1 3 (fun (j:Nat)=>[.i .i64 (n*(j+1):Nat)]) (fun (j:Nat) (_:List (List D))=>[[.i .i64 (n:Int),.lst 112 (l.map trow) room],[.bp 1 0,.own 0 (([]:Str)++x.t.p++tTail (x.t.less.take j)).length],trow x]) (fun (j:Nat) (_:Vx.Rows)=>[some (5,(([]:Str)++x.t.p++tTail (x.t.less.take j)).map bcell)]) (fun (j:Nat)=>j<=x.t.less.length) (fun (j:Nat)=>x.t.less.length - j) (0) (Nat.zero_le _) ?_;(conv=>whnf);refine⟨by ((conv=>whnf);first|rfl|(simp[envCat,List.take_of_length_le,srow,drow,trow,bcell,sepT_nil,tTail_nil];done)|(simp[envCat,List.take_of_length_le,srow,drow,trow,bcell,sepT_nil,tTail_nil];rw[IntKind.wrap_i64];omega)),?_⟩
       rintro j hj
       have htl:=hok.tail hxm j
       have hFl:(([]:Str)++x.t.p++tTail (x.t.less.take j)).length<=257*1048576+1+256+257*1048576:=by rw[List.length_append,List.length_append];omega
       have hFm:((([]:Str)++x.t.p++tTail (x.t.less.take j)).map bcell).length=(([]:Str)++x.t.p++tTail (x.t.less.take j)).length:=List.length_map _
       have hjn:n*(j+1+1)=n*(j+1)+n:=Nat.mul_succ n (j+1)
       (conv=>whnf)
       by_cases hjl:j<x.t.less.length
       . obtain⟨m,hm⟩:∃ m,x.t.less[j]? = some m:=⟨_,List.getElem?_eq_getElem hjl⟩
         have hml:m.length<=256:=by rw[hxw.2 m (List.mem_of_getElem? hm)];exact hn
         have hts:=tTail_snoc hm
         have hj2:n*(j+1)+n<=n*(x.t.less.length+1):=by rw[<- hjn];exact Nat.mul_le_mul_left n (by omega)
         have hma:=hka j m hm
         generalize hF:([]:Str)++x.t.p++tTail (x.t.less.take j)=F at *
         have hF2:((F++[45]).map bcell).length=(F++[45]).length:=List.length_map _
         generalize hJ:n*(j+1)=J at *
         (try (conv=>whnf));repeat' (first|refine Ok.seq ?_|((first|refine Ok.region tok ?_|refine Ok.cond ?_);conv=>whnf)|refine Ok.block ?_|(refine Ok.skip ?_;conv=>whnf)|(refine bI ?_ ?_<;>intro<;>(conv=>whnf)<;>(try (exfalso;omega)))|fail)
         refine Or.inr (Or.inr (Or.inl ?_));(conv=>whnf);refine⟨_,_,Tryz.func109,rfl,Tryz.call109,?_⟩;(conv=>whnf)
         (try (conv=>whnf));repeat' (first|refine Ok.seq ?_|(refine Ok.region tok ?_;conv=>whnf)|fail)
         refine Or.inr (Or.inr (Or.inr (Or.inr ?_)))
         (conv=>whnf)
         refine effW_used copyAt rfl ?_
         (conv=>whnf)
         (try (conv=>whnf));repeat' (first|refine Ok.seq ?_|((first|refine Ok.region tok ?_|refine Ok.ret ?_|refine nI ?_|refine⟨_,by assumption,?_⟩|refine Alt2.l (aI ?_)|refine⟨_,.inl ⟨rfl,rfl⟩,?_⟩|refine⟨_,_,rfl,rfl,?_⟩|refine aJ ?_);conv=>whnf)|fail)
         try refine⟨J,J+n,rfl,(by show ((J:Nat):Int)+(n:Int)=((J+n:Nat):Int);omega),by omega,by omega,m,hma,?_⟩
         (try (conv=>whnf));repeat' (first|fail)
         refine Or.inr (Or.inr (Or.inl ?_));(conv=>whnf);refine⟨_,_,Tryz.func110,rfl,Tryz.call110,?_⟩;(conv=>whnf)
         (try (conv=>whnf));repeat' (first|refine Ok.seq ?_|(refine Ok.region tok ?_;conv=>whnf)|fail)
         refine Or.inr (Or.inr (Or.inr (Or.inr ?_)))
         (conv=>whnf)
         refine effW_used copyAt rfl ?_
         (conv=>whnf)
         (try (conv=>whnf));repeat' (first|((refine And.intro byteT ?_);conv=>whnf)|refine Ok.seq ?_|((first|refine Ok.region tok ?_|refine Ok.ret ?_|refine nI ?_|refine⟨_,_,rfl,rfl,?_⟩|refine aJ ?_);conv=>whnf)|fail)
         refine⟨j+1,by omega,by omega,?_⟩
         rw[hjn,hts,<- List.append_assoc,<- List.append_assoc,hF]
         (conv=>whnf)
         simp[envCat,bcell]
       . have hje:j=x.t.less.length:=by omega
         subst hje
         rw[List.take_length]
         (try (conv=>whnf));repeat' (first|refine Ok.seq ?_|((first|refine Ok.region tok ?_|refine Ok.cond ?_|refine Ok.exit ?_|refine nI ?_);conv=>whnf)|(refine bI ?_ ?_<;>intro<;>(conv=>whnf)<;>(try (exfalso;omega)))|fail)
         refine⟨i+1,by omega,by omega,?_⟩
         rw[hstep]
         unfold ttxt
         rw[<- List.append_assoc]
         (conv=>whnf)
         rfl
     . have hp0:preT (l.map TR.t) i=sepT ((l.map TR.t).take i)++[43]:=by unfold preT;rw[if_neg hi0]
       have hb0:bcl i = .bp 1 0:=by cases i with|zero=>exact absurd rfl hi0|succ k=>rfl
       rw[hb0]
       rw[hp0] at hpre hstep
       have hpre2:((sepT ((l.map TR.t).take i)++[43]).map bcell).length=(sepT ((l.map TR.t).take i)++[43]).length:=List.length_map _
       (conv=>whnf)
       (try (conv=>whnf));repeat' (first|refine Ok.seq ?_|((first|refine Ok.region tok ?_|refine Ok.cond ?_);conv=>whnf)|refine Ok.block ?_|((first|refine Ok.skip ?_|refine ix _ (by assumption) ?_);conv=>whnf)|(refine bI ?_ ?_<;>intro<;>(conv=>whnf)<;>(try (exfalso;omega)))|fail)
       refine Or.inr (Or.inr (Or.inl ?_));(conv=>whnf);refine⟨_,_,Tryz.func109,rfl,Tryz.call109,?_⟩;(conv=>whnf)
       (try (conv=>whnf));repeat' (first|refine Ok.seq ?_|(refine Ok.region tok ?_;conv=>whnf)|fail)
       refine Or.inr (Or.inr (Or.inr (Or.inr ?_)))
       (conv=>whnf)
       refine effW_used copyAt rfl ?_
       (conv=>whnf)
       (try (conv=>whnf));repeat' (first|refine Ok.seq ?_|((first|refine Ok.region tok ?_|refine Ok.ret ?_|refine⟨_,by assumption,?_⟩|refine Alt2.l (aI ?_)|refine⟨_,.inl ⟨rfl,rfl⟩,?_⟩|refine⟨_,_,rfl,rfl,?_⟩|refine aJ ?_);conv=>whnf)|fail)
       refine Or.inr (Or.inr (Or.inl ?_));(conv=>whnf);refine⟨_,_,Tryz.func110,rfl,Tryz.call110,?_⟩;(conv=>whnf)
       (try (conv=>whnf));repeat' (first|refine Ok.seq ?_|(refine Ok.region tok ?_;conv=>whnf)|fail)
       refine Or.inr (Or.inr (Or.inr (Or.inr ?_)))
       (conv=>whnf)
       refine effW_used copyAt rfl ?_
       (conv=>whnf)
       (try (conv=>whnf));repeat' (first|((refine And.intro byteT ?_);conv=>whnf)|refine Ok.seq ?_|(refine Ok.region tok ?_;conv=>whnf)|refine Ok.block ?_|((first|refine Ok.ret ?_|refine⟨_,_,rfl,rfl,?_⟩|refine aJ ?_);conv=>whnf)|fail)
       refine Ok.loopU [1,3,5,12,13,14] [6] 1 3 (fun (j:Nat)=>[.i .i64 (n*(j+1):Nat)]) (fun (j:Nat) (_:List (List D))=>[[.i .i64 (n:Int),.lst 112 (l.map trow) room],[.bp 1 0,.own 0 ((sepT ((l.map TR.t).take i)++[43])++x.t.p++tTail (x.t.less.take j)).length],trow x]) (fun (j:Nat) (_:Vx.Rows)=>[some (5,((sepT ((l.map TR.t).take i)++[43])++x.t.p++tTail (x.t.less.take j)).map bcell)]) (fun (j:Nat)=>j<=x.t.less.length) (fun (j:Nat)=>x.t.less.length - j) (0) (Nat.zero_le _) ?_;(conv=>whnf);refine⟨by ((conv=>whnf);first|rfl|(simp[envCat,List.take_of_length_le,srow,drow,trow,bcell,sepT_nil,tTail_nil];done)|(simp[envCat,List.take_of_length_le,srow,drow,trow,bcell,sepT_nil,tTail_nil];rw[IntKind.wrap_i64];omega)),?_⟩
       rintro j hj
       have htl:=hok.tail hxm j
       have hFl:((sepT ((l.map TR.t).take i)++[43])++x.t.p++tTail (x.t.less.take j)).length<=257*1048576+1+256+257*1048576:=by rw[List.length_append,List.length_append];omega
       have hFm:(((sepT ((l.map TR.t).take i)++[43])++x.t.p++tTail (x.t.less.take j)).map bcell).length=((sepT ((l.map TR.t).take i)++[43])++x.t.p++tTail (x.t.less.take j)).length:=List.length_map _
       have hjn:n*(j+1+1)=n*(j+1)+n:=Nat.mul_succ n (j+1)
       (conv=>whnf)
       by_cases hjl:j<x.t.less.length
       . obtain⟨m,hm⟩:∃ m,x.t.less[j]? = some m:=⟨_,List.getElem?_eq_getElem hjl⟩
         have hml:m.length<=256:=by rw[hxw.2 m (List.mem_of_getElem? hm)];exact hn
         have hts:=tTail_snoc hm
         have hj2:n*(j+1)+n<=n*(x.t.less.length+1):=by rw[<- hjn];exact Nat.mul_le_mul_left n (by omega)
         have hma:=hka j m hm
         generalize hF:(sepT ((l.map TR.t).take i)++[43])++x.t.p++tTail (x.t.less.take j)=F at *
         have hF2:((F++[45]).map bcell).length=(F++[45]).length:=List.length_map _
         generalize hJ:n*(j+1)=J at *
         (try (conv=>whnf));repeat' (first|refine Ok.seq ?_|((first|refine Ok.region tok ?_|refine Ok.cond ?_);conv=>whnf)|refine Ok.block ?_|(refine Ok.skip ?_;conv=>whnf)|(refine bI ?_ ?_<;>intro<;>(conv=>whnf)<;>(try (exfalso;omega)))|fail)
         refine Or.inr (Or.inr (Or.inl ?_));(conv=>whnf);refine⟨_,_,Tryz.func109,rfl,Tryz.call109,?_⟩;(conv=>whnf)
         (try (conv=>whnf));repeat' (first|refine Ok.seq ?_|(refine Ok.region tok ?_;conv=>whnf)|fail)
         refine Or.inr (Or.inr (Or.inr (Or.inr ?_)))
         (conv=>whnf)
         refine effW_used copyAt rfl ?_
         (conv=>whnf)
         (try (conv=>whnf));repeat' (first|refine Ok.seq ?_|((first|refine Ok.region tok ?_|refine Ok.ret ?_|refine nI ?_|refine⟨_,by assumption,?_⟩|refine Alt2.l (aI ?_)|refine⟨_,.inl ⟨rfl,rfl⟩,?_⟩|refine⟨_,_,rfl,rfl,?_⟩|refine aJ ?_);conv=>whnf)|fail)
         try refine⟨J,J+n,rfl,(by show ((J:Nat):Int)+(n:Int)=((J+n:Nat):Int);omega),by omega,by omega,m,hma,?_⟩
         (try (conv=>whnf));repeat' (first|fail)
         refine Or.inr (Or.inr (Or.inl ?_));(conv=>whnf);refine⟨_,_,Tryz.func110,rfl,Tryz.call110,?_⟩;(conv=>whnf)
         (try (conv=>whnf));repeat' (first|refine Ok.seq ?_|(refine Ok.region tok ?_;conv=>whnf)|fail)
         refine Or.inr (Or.inr (Or.inr (Or.inr ?_)))
         (conv=>whnf)
         refine effW_used copyAt rfl ?_
         (conv=>whnf)
         (try (conv=>whnf));repeat' (first|((refine And.intro byteT ?_);conv=>whnf)|refine Ok.seq ?_|((first|refine Ok.region tok ?_|refine Ok.ret ?_|refine nI ?_|refine⟨_,_,rfl,rfl,?_⟩|refine aJ ?_);conv=>whnf)|fail)
         refine⟨j+1,by omega,by omega,?_⟩
         rw[hjn,hts,<- List.append_assoc,<- List.append_assoc,hF]
         (conv=>whnf)
         simp[envCat,bcell]
       . have hje:j=x.t.less.length:=by omega
         subst hje
         rw[List.take_length]
         (try (conv=>whnf));repeat' (first|refine Ok.seq ?_|((first|refine Ok.region tok ?_|refine Ok.cond ?_|refine Ok.exit ?_|refine nI ?_);conv=>whnf)|(refine bI ?_ ?_<;>intro<;>(conv=>whnf)<;>(try (exfalso;omega)))|fail)
         refine⟨i+1,by omega,by omega,?_⟩
         rw[hstep]
         unfold ttxt
         rw[<- List.append_assoc]
         (conv=>whnf)
         rfl
   . have hie:i=l.length:=by omega
     subst hie
     rw[List.take_of_length_le (by simp)] at hsl hsm ⊢
     have hbl:bcl l.length = .bp 1 0:=by
      have:=List.length_pos_iff.2 hl0
      cases hh:l.length with
      | zero=>omega
      | succ k=>rfl
     rw[hbl]
     (conv=>whnf)
     have htne:sepT (l.map TR.t) ≠ []:=by
      obtain⟨x,hx⟩:∃ x,l[l.length - 1]? = some x:=⟨_,List.getElem?_eq_getElem (by have:=List.length_pos_iff.2 hl0;omega)⟩
      have hxt:(l.map TR.t)[l.length - 1]? = some x.t:=by simp[hx]
      have h1:=sepT_step hxt
      rw[show l.length - 1+1=l.length by have:=List.length_pos_iff.2 hl0;omega,List.take_of_length_le (by simp)] at h1
      rw[h1]
      intro e
      have h2:=(List.append_eq_nil_iff.1 (List.append_eq_nil_iff.1 e).2).1
      have h3:=(hok.wide x (List.mem_of_getElem? hx)).1
      rw[h2] at h3
      simp at h3
      omega
     (try (conv=>whnf));repeat' (first|refine Ok.seq ?_|((first|refine Ok.region tok ?_|refine Ok.cond ?_|refine Ok.exit ?_);conv=>whnf)|(refine bI ?_ ?_<;>intro<;>(conv=>whnf)<;>(try (exfalso;omega)))|fail)
     refine Or.inr (Or.inr (Or.inr (Or.inr ?_)))
     (conv=>whnf)
     refine effW_of_effK (effK_string strAt rfl rfl rfl (by rw[hsm];exact Nat.le_refl _) (take_all bcell _) htne ?_)
     (conv=>whnf)
     (try (conv=>whnf));repeat' (first|(refine Ok.ret ?_;conv=>whnf)|fail)
     refine Or.inl ?_;(conv=>whnf)
     unfold textS
     rw[if_neg hne]
     rfl
end Go.Proofs.YtaiondckookpiaaGreatDoor
namespace Go.Proofs.YtaiondckookpiaaGreatDoor
open Go Go.Vx
theorem cutL_len(c:UInt8):∀ l:Str,(cutL c l).length<=l.length+1
 | []=>by simp[cutL]
 | b :: r=>by
  have ih:=cutL_len c r
  unfold cutL
  split
  . simp;omega
  . split
    . rename_i h;rw[h] at ih;simp at ih ⊢;omega
    . simp
theorem cutL_mem(c:UInt8):∀ {l p:Str},p ∈ cutL c l->p.length<=l.length
 | [],p,h=>by simp[cutL] at h;simp[h]
 | b :: r,p,h=>by
  unfold cutL at h
  split at h
  . rcases List.mem_cons.1 h with rfl|h
    . simp
    . have:=cutL_mem c h;simp;omega
  . split at h
    . rename_i x t hx
      rcases List.mem_cons.1 h with rfl|h
      . have:x ∈ cutL c r:=by rw[hx];simp
        have:=cutL_mem c this
        simp;omega
      . have:p ∈ cutL c r:=by rw[hx];simp[h]
        have:=cutL_mem c this
        simp;omega
    . simp at h;subst h;simp
theorem cut_step{c:UInt8}{s:Str}{i f:Nat}(hf:f<=i)(hi:s[i]? = some c)(hno:c ∉ (s.take i).drop f):cutL c (s.drop f)=(s.take i).drop f :: cutL c (s.drop (i+1)):=by
 obtain⟨hl,e⟩:=List.getElem?_eq_some_iff.1 hi
 have h1:s.drop f=(s.take i).drop f++c :: s.drop (i+1):=by
  conv=>lhs;rw[<- List.take_append_drop i s,List.drop_append_of_le_length (by simp;omega),List.drop_eq_getElem_cons hl,e]
 rw[h1,cutL_at hno]
theorem cut_more{c b:UInt8}{s:Str}{i f:Nat}(hf:f<=i)(hi:s[i]? = some b)(hb:b ≠ c)(hno:c ∉ (s.take i).drop f):c ∉ (s.take (i+1)).drop f:=by
 obtain⟨hl,e⟩:=List.getElem?_eq_some_iff.1 hi
 rw[take_snoc hi,List.drop_append_of_le_length (by simp;omega)]
 intro h
 rcases List.mem_append.1 h with h|h
 . exact hno h
 . simp at h;exact hb h.symm
theorem cut_last{c:UInt8}{s:Str}{f:Nat}(hno:c ∉ (s.take s.length).drop f):cutL c (s.drop f)=[(s.take s.length).drop f]:=by
 rw[List.take_length] at hno ⊢
 exact cutL_none hno
def pieces(s:Str):List (List Str):=(cutL 43 s).map (cutL 45)
def OkW(n:Int)(w:Str):Prop:=(w.length:Int)=n/\okC w
def OkP(n:Int)(ms:List (List Str)):Prop:=∀ m ∈ ms,∀ w ∈ m,OkW n w
def cntP(ms:List (List Str)):Nat:=(ms.map List.length).sum
noncomputable def trm(m:List Str):Option Term:=termT (m.headD []) m.tail
noncomputable def trms(ms:List (List Str)):List Term:=ms.filterMap trm
open Classical in
noncomputable def parO(b:Int)(s:Str):Int × Int × List Term:=
 if 33024<s.length then (2,0,[]) else if b<1\/256<b then (1,0,[]) else if s=[110,111,110,101] then (0,b,[])
 else if ¬ OkP b (pieces s) then (20,0,[]) else if 128<cntP (pieces s) then (3,0,[]) else (0,b,formT (trms (pieces s)))
theorem cntP_take{ms:List (List Str)}{i:Nat}{m:List Str}(h:ms[i]? = some m):cntP (ms.take (i+1))=cntP (ms.take i)+m.length:=by
 rw[take_snoc h];simp[cntP]
theorem cntP_le{ms:List (List Str)}{k:Nat}(h:∀ m ∈ ms,m.length<=k)(i:Nat):cntP (ms.take i)<=ms.length*k:=by
 have go:∀ ms:List (List Str),(∀ m ∈ ms,m.length<=k)->cntP ms<=ms.length*k:=by
  intro ms
  induction ms with
  | nil=>intro _;simp[cntP]
  | cons m ms ih=>
   intro h
   have h1:=ih fun x hx=>h x (by simp[hx])
   have h2:=h m (by simp)
   simp only[cntP,List.map_cons,List.sum_cons,List.length_cons] at h1 ⊢
   rw[Nat.add_mul];omega
 refine Nat.le_trans (go _ fun m hm=>h m (List.mem_of_mem_take hm)) (Nat.mul_le_mul_right _ (by simp;omega))
theorem trms_some{ms:List (List Str)}{i:Nat}{m:List Str}{t:Term}(h:ms[i]? = some m)(ht:trm m=some t):trms (ms.take (i+1))=trms (ms.take i)++[t]:=by
 rw[take_snoc h];simp[trms,ht]
theorem trms_none{ms:List (List Str)}{i:Nat}{m:List Str}(h:ms[i]? = some m)(ht:trm m=none):trms (ms.take (i+1))=trms (ms.take i):=by
 rw[take_snoc h];simp[trms,ht]
theorem pieces_len(s:Str):(pieces s).length<=s.length+1:=by
 unfold pieces;rw[List.length_map];exact cutL_len _ _
theorem pieces_mem{s:Str}{m:List Str}(h:m ∈ pieces s):m ≠ []/\m.length<=s.length+1/\∀ w ∈ m,w.length<=s.length:=by
 obtain⟨p,hp,rfl⟩:=List.mem_map.1 h
 have h1:=cutL_mem _ hp
 have h2:=cutL_len 45 p
 exact⟨cutL_ne _ _,by omega,fun w hw=>Nat.le_trans (cutL_mem _ hw) h1⟩
theorem szT_sub{l k:List Term}(h:l.Sublist k):szT l<=szT k:=by
 induction h with
 | slnil=>exact Nat.le_refl _
 | cons a _ ih=>simp only[szT,List.map_cons,List.sum_cons] at ih ⊢;omega
 | cons_cons a _ ih=>simp only[szT,List.map_cons,List.sum_cons] at ih ⊢;omega
theorem szT_perm{l k:List Term}(h:l.Perm k):szT l=szT k:=(h.map _).sum_nat
theorem grG_sublist{α:Type}(R:α->α->Prop)(l:List α):(grG R l).Sublist l:=by
 have go:∀ (l k l0:List α),k.Sublist l0->(l.foldl (addG R) k).Sublist (l0++l):=by
  intro l
  induction l with
  | nil=>intro k l0 h;simpa using h
  | cons x l ih=>
   intro k l0 h
   have hx:(addG R k x).Sublist (l0++[x]):=by
    unfold addG
    split
    . exact h.trans (List.sublist_append_left _ _)
    . exact (List.filter_sublist.trans h).append (List.Sublist.refl _)
   have:=ih _ _ hx
   simpa[List.append_assoc] using this
 have h:=go l [] [] (List.Sublist.refl _)
 rw[List.nil_append] at h
 exact h
theorem szT_form(l:List Term):szT (formT l)<=szT l:=by
 unfold formT
 rw[szT_perm (srt_perm aheadT _)]
 exact szT_sub (grG_sublist _ _)
theorem termT_sz{p:Str}{less:List Str}{t:Term}(h:termT p less=some t):t.less.length<=less.length:=by
 by_cases hk:PK p less=[p]
 . rw[termT_pk0 hk] at h;cases h
 . rw[termT_pk1 hk] at h
   cases h
   have:=PK_len p less less.length
   rwa [List.take_length] at this
theorem trm_sz{m:List Str}{t:Term}(hm:m ≠ [])(h:trm m=some t):1+t.less.length<=m.length:=by
 have:=termT_sz h
 cases m with
 | nil=>exact absurd rfl hm
 | cons a m=>simp at this ⊢;omega
theorem szT_trms{ms:List (List Str)}(h:∀ m ∈ ms,m ≠ []):szT (trms ms)<=cntP ms:=by
 induction ms with
 | nil=>simp[trms,szT,cntP]
 | cons m ms ih=>
  have h1:=ih fun x hx=>h x (by simp[hx])
  unfold trms cntP at *
  cases ht:trm m with
  | none=>rw[List.filterMap_cons_none ht];simp;omega
  | some t=>
   rw[List.filterMap_cons_some ht]
   have:=trm_sz (h m (by simp)) ht
   simp only[szT,List.map_cons,List.sum_cons] at h1 ⊢
   omega
structure GoodT(n:Nat)(t:Term):Prop where
 ok:t.Ok n
 p:CN t.p
 less:∀ m ∈ t.less,CN m
theorem metL_mem{p:Str}{less:List Str}{m:Str}(h:m ∈ metL p less):∃ x ∈ less,meetT x p=some m:=by
 obtain⟨x,hx,hm⟩:=List.mem_filterMap.1 h
 exact⟨x,hx,hm⟩
theorem termT_good{p:Str}{less:List Str}{t:Term}{n:Nat}(hp:CN p)(hn:p.length=n)(hl:∀ m ∈ less,CT m)(h:termT p less=some t):GoodT n t/\t.p=p:=by
 have h0:=termT_ok hp.2 h
 subst hn
 refine⟨⟨h0.1,by rw[h0.2];exact hp,fun m hm=>?_⟩,h0.2⟩
 by_cases hk:PK p less=[p]
 . rw[termT_pk0 hk] at h;cases h
 . rw[termT_pk1 hk] at h
   cases h
   obtain⟨x,hx,hm2⟩:=metL_mem (PK_mem hm)
   have h3:=meetT_ct hm2 (hl x hx) hp.1
   exact⟨h3.1,fun e=>h3.2.2 (List.eq_nil_of_length_eq_zero (by rw[<- h3.2.1,e];rfl))⟩
structure Fine(n:Int)(ts:List Term):Prop where
 n0:0<=n
 n1:n<=256
 good:∀ t ∈ ts,GoodT n.toNat t
 sz:szT ts<=128
theorem Fine.nil{n:Int}(h0:0<=n)(h1:n<=256):Fine n []:=⟨h0,h1,by simp,by simp[szT]⟩
theorem szT_len(l:List Term):l.length<=szT l:=szS_len l
theorem szT_mem{l:List Term}{t:Term}(h:t ∈ l):1+t.less.length<=szT l:=szS_mem h
theorem Fine.len{n:Int}{ts:List Term}(h:Fine n ts):ts.length<=128:=Nat.le_trans (szT_len _) h.sz
theorem Fine.less{n:Int}{ts:List Term}(h:Fine n ts){t:Term}(ht:t ∈ ts):t.less.length<=127:=by
 have:=szT_mem ht
 have:=h.sz
 omega
theorem GoodT.tn{n:Nat}{x:TR}(h:GoodT n x.t)(hl:x.t.less.length<=1048576):TN x:=⟨h.p,h.less,hl⟩
theorem GoodT.to{n:Nat}{x:TR}(h:GoodT n x.t)(hl:x.t.less.length<=1048576):TO n x:=⟨h.tn hl,h.ok⟩
theorem GoodT.rn{n:Nat}{x:TR}(h:GoodT n x.t)(hl:x.t.less.length<=1048576):RN2 x/\x.t.Ok n:=
 ⟨⟨⟨h.p.2,h.p.1.len⟩,fun m hm=>⟨(h.less m hm).2,(h.less m hm).1.len⟩,hl⟩,h.ok⟩
theorem mem_of_map{l:List TR}{ts:List Term}(e:l.map TR.t=ts){x:TR}(hx:x ∈ l):x.t ∈ ts:=by rw[<- e];exact List.mem_map_of_mem hx
theorem Fine.to{n:Int}{ts:List Term}(h:Fine n ts){l:List TR}(e:l.map TR.t=ts):∀ x ∈ l,TO n.toNat x:=fun x hx=>
 (h.good _ (mem_of_map e hx)).to (Nat.le_trans (h.less (mem_of_map e hx)) (by decide))
theorem Fine.rn{n:Int}{ts:List Term}(h:Fine n ts){l:List TR}(e:l.map TR.t=ts):∀ x ∈ l,RN2 x/\x.t.Ok n.toNat:=fun x hx=>
 (h.good _ (mem_of_map e hx)).rn (Nat.le_trans (h.less (mem_of_map e hx)) (by decide))
theorem Fine.sp{n:Int}{ts:List Term}(h:Fine n ts){l:List TR}(e:l.map TR.t=ts):SpOk n.toNat l:=by
 refine⟨by have:=h.n1;omega,?_,fun x hx=>(h.good _ (mem_of_map e hx)).ok.wide,fun hne=>?_⟩
 . rw[<- szS_eq,e];exact Nat.le_trans h.sz (by decide)
 . cases l with
   | nil=>exact absurd rfl hne
   | cons x l=>exact (h.good _ (mem_of_map e (List.mem_cons_self ..))).ok.pos
theorem Fine.form{n:Int}{l:List Term}(h0:0<=n)(h1:n<=256)(hg:∀ t ∈ l,GoodT n.toNat t)(hs:szT (formT l)<=128):Fine n (formT l):=
 ⟨h0,h1,fun t ht=>hg t (formT_mem ht),hs⟩
theorem headD_mem{m:List Str}(h:m ≠ []):m.headD [] ∈ m:=by
 cases m with
 | nil=>exact absurd rfl h
 | cons a m=>simp
theorem trms_good{n:Int}{ms:List (List Str)}(h:∀ m ∈ ms,m ≠ [])(ho:OkP n ms):∀ t ∈ trms ms,GoodT n.toNat t:=by
 intro t ht
 obtain⟨m,hm,hmt⟩:=List.mem_filterMap.1 ht
 have h1:=ho m hm _ (headD_mem (h m hm))
 exact (termT_good ⟨h1.2.1,h1.2.2⟩ (by have:=h1.1;omega) (fun w hw=>(ho m hm w (List.mem_of_mem_tail hw)).2.1) hmt).1
theorem parO_fine(b:Int)(s:Str):Fine (parO b s).2.1 (parO b s).2.2:=by
 unfold parO
 split
 . exact .nil (by decide) (by decide)
 . split
   . exact .nil (by decide) (by decide)
   . rename_i hb
     split
     . exact .nil (by show 0<=b;omega) (by show b<=256;omega)
     . split
       . exact .nil (by decide) (by decide)
       . rename_i ho
         split
         . exact .nil (by decide) (by decide)
         . rename_i hc
           refine .form (by show 0<=b;omega) (by show b<=256;omega) (trms_good (fun m hm=>(pieces_mem hm).1) (Classical.not_not.1 ho)) ?_
           have:=szT_form (trms (pieces s))
           have:=szT_trms (ms:=pieces s) fun m hm=>(pieces_mem hm).1
           omega
end Go.Proofs.YtaiondckookpiaaGreatDoor
namespace Go.Proofs.YtaiondckookpiaaGreatDoor
open Go Go.Vx
set_option maxHeartbeats 4000000 in
theorem rcube_at(s:Str):FSpec Tryz.prog T 85 [.s s] (fun r _=>r = .b (okC s)):=by
 refine FSpec.of_ok tok Tryz.func85 rfl Tryz.call85 (by simp) ?_
 (try (conv=>whnf));repeat' (first|refine Ok.seq ?_|((first|refine Ok.region tok ?_|refine Ok.cond ?_);conv=>whnf)|refine Ok.block ?_|((first|refine Ok.skip ?_|refine Ok.ret ?_);conv=>whnf)|(refine bI ?_ ?_<;>intro<;>(conv=>whnf)<;>(try (exfalso;omega)))|fail)
 . rename_i h
   refine Or.inl ?_;(conv=>whnf)
   show D.b False=_
   exact congrArg D.b (propext ⟨fun h=>h.elim,fun h2=>h2.2 (List.eq_nil_of_length_eq_zero (by omega))⟩)
 . rename_i h h2
   refine Or.inl ?_;(conv=>whnf)
   show D.b False=_
   exact congrArg D.b (propext ⟨fun h=>h.elim,fun h3=>absurd h3.1.len (by omega)⟩)
 . rename_i h h2
   have hl:s.length<=256:=by omega
   have hne:s ≠ []:=fun e=>by rw[e] at h;simp at h
   refine Ok.loopU [0] [3] 0 0 (fun (i:Nat)=>[.i .i64 (i:Nat)]) (fun _ b=>b) (fun _ r=>r) (fun (i:Nat)=>i<=s.length/\cubOk (s.take i)) (fun (i:Nat)=>s.length - i) (0) (⟨Nat.zero_le _,by simp[cubOk]⟩) ?_;(conv=>whnf);refine⟨by ((conv=>whnf);first|rfl|(simp[envCat,List.take_of_length_le,srow];done)|(simp[envCat,List.take_of_length_le,srow];rw[IntKind.wrap_i64];omega)),?_⟩
   rintro i ⟨hi,hall⟩
   (conv=>whnf)
   by_cases hil:i<s.length
   . obtain⟨a,ha⟩:∃ a,s[i]? = some a:=⟨_,List.getElem?_eq_getElem hil⟩
     have haI:s[((i:Nat):Int).toNat]? = some a:=ha
     by_cases hb1:a=48\/a=49\/a=120
     . have hb3:((a.toNat:Nat):Int)=48\/((a.toNat:Nat):Int)=49\/((a.toNat:Nat):Int)=120:=by
         rcases hb1 with rfl|rfl|rfl
         . exact .inl rfl
         . exact .inr (.inl rfl)
         . exact .inr (.inr rfl)
       (try (conv=>whnf));repeat' (first|refine Ok.seq ?_|((first|refine Ok.region tok ?_|refine Ok.cond ?_);conv=>whnf)|refine Ok.block ?_|((first|refine Ok.skip ?_|refine nI ?_|refine⟨_,by assumption,?_⟩);conv=>whnf)|(refine bI ?_ ?_<;>intro<;>(conv=>whnf)<;>(try (exfalso;omega)))|((first|refine aJ ?_|refine num_any ?_);conv=>whnf)|fail)
       all_goals
        refine⟨i+1,by omega,⟨by omega,cubOk_step hall ha hb1⟩,?_⟩
        (conv=>whnf)
        rfl
     . have hb3:=u8_ne (fun e=>hb1 (.inl e):a ≠ 48)
       have hb4:=u8_ne (fun e=>hb1 (.inr (.inl e)):a ≠ 49)
       have hb5:=u8_ne (fun e=>hb1 (.inr (.inr e)):a ≠ 120)
       rw[show (((48:UInt8).toNat:Nat):Int)=48 from rfl] at hb3
       rw[show (((49:UInt8).toNat:Nat):Int)=49 from rfl] at hb4
       rw[show (((120:UInt8).toNat:Nat):Int)=120 from rfl] at hb5
       (try (conv=>whnf));repeat' (first|refine Ok.seq ?_|((first|refine Ok.region tok ?_|refine Ok.cond ?_);conv=>whnf)|refine Ok.block ?_|((first|refine Ok.skip ?_|refine Ok.ret ?_|refine⟨_,by assumption,?_⟩);conv=>whnf)|(refine bI ?_ ?_<;>intro<;>(conv=>whnf)<;>(try (exfalso;omega)))|((first|refine aJ ?_|refine num_any ?_);conv=>whnf)|fail)
       all_goals
        refine Or.inl ?_;(conv=>whnf)
        show D.b False=_
        exact congrArg D.b (propext ⟨fun h=>h.elim,fun h3=>hb1 (h3.1.cub a (List.mem_of_getElem? ha))⟩)
   . have hie:i=s.length:=by omega
     subst hie
     rw[List.take_length] at hall
     (try (conv=>whnf));repeat' (first|refine Ok.seq ?_|((first|refine Ok.region tok ?_|refine Ok.cond ?_|refine Ok.exit ?_|refine Ok.ret ?_);conv=>whnf)|(refine bI ?_ ?_<;>intro<;>(conv=>whnf)<;>(try (exfalso;omega)))|fail)
     refine Or.inl ?_;(conv=>whnf)
     show D.b True=_
     exact congrArg D.b (propext ⟨fun _=>⟨⟨hl,hall⟩,hne⟩,fun _=>trivial⟩)
set_option maxHeartbeats 4000000 in
theorem rcut_at(s:Str)(c:UInt8){k:Int}(hk:k=((c.toNat:Nat):Int))(hs:s.length<=100000):FSpec Tryz.prog T 112 [.s s,.i .u8 k] (fun d rows=>∃ rm,d = .lst 9 ((cutL c s).map srow) rm/\rows=[]):=by
 subst hk
 refine FSpec.of_ok tok Tryz.func112 rfl Tryz.call112 (by simp) ?_
 (try (conv=>whnf));repeat' (first|refine Ok.seq ?_|(refine Ok.region tok ?_;conv=>whnf)|refine Ok.block ?_|fail)
 refine Ok.ghost 5 9 rfl ?_
 (conv=>whnf)
 refine Ok.loopU [0,1] [5,6,7] 1 0 (fun (x:Nat × Nat × List Str)=>[.own 0 x.2.2.length,.i .i64 (x.2.1:Nat),.i .i64 (x.1:Nat)]) (fun _ b=>b) (fun (x:Nat × Nat × List Str) (_:Vx.Rows)=>[some (9,x.2.2.map srow)]) (fun (x:Nat × Nat × List Str)=>x.1<=s.length+1/\x.2.2.length<=x.1/\((x.1<=s.length/\x.2.1<=x.1/\c ∉ (s.take x.1).drop x.2.1/\cutL c s=x.2.2++cutL c (s.drop x.2.1))\/(x.1=s.length+1/\x.2.2=cutL c s))) (fun (x:Nat × Nat × List Str)=>s.length+1 - x.1) ((0,0,[])) (⟨Nat.zero_le _,Nat.zero_le _,.inl ⟨Nat.zero_le _,Nat.zero_le _,by simp,by simp⟩⟩) ?_;(conv=>whnf);refine⟨by ((conv=>whnf);first|rfl|(simp[envCat,List.take_of_length_le,srow];done)|(simp[envCat,List.take_of_length_le,srow];rw[IntKind.wrap_i64];omega)),?_⟩
 rintro⟨i,f,dn⟩ ⟨hi,hdl,hI⟩
 dsimp only at hi hdl hI ⊢
 have hdm:(dn.map srow).length=dn.length:=by simp
 (conv=>whnf)
 rcases hI with⟨hi1,hf,hno,hcut⟩|⟨hie,hdn⟩
 . by_cases hil:i<s.length
   . obtain⟨a,ha⟩:∃ a,s[i]? = some a:=⟨_,List.getElem?_eq_getElem hil⟩
     have haI:s[((i:Nat):Int).toNat]? = some a:=ha
     by_cases hac:a=c
     . subst hac
       have hst:=cut_step hf ha hno
       (try (conv=>whnf));repeat' (first|refine Ok.seq ?_|((first|refine Ok.region tok ?_|refine Ok.cond ?_);conv=>whnf)|refine Ok.block ?_|((first|refine Ok.skip ?_|refine nI ?_|refine⟨_,by assumption,?_⟩|refine Alt2.l (aI ?_)|refine⟨_,.inl ⟨rfl,rfl⟩,?_⟩|refine⟨_,_,rfl,rfl,?_⟩);conv=>whnf)|(refine bI ?_ ?_<;>intro<;>(conv=>whnf)<;>(try (exfalso;omega)))|((first|refine aJ ?_|refine num_any ?_|refine⟨_,rfl,?_⟩);conv=>whnf)|fail)
       refine⟨(i+1,i+1,dn++[(s.take i).drop f]),by dsimp only;omega,⟨by dsimp only;omega,by simp;omega,.inl ⟨by dsimp only;omega,Nat.le_refl _,by simp,?_⟩⟩,?_⟩
       . dsimp only
         rw[hcut,hst]
         simp
       . (conv=>whnf)
         simp[envCat]
     . have hb3:=u8_ne hac
       have hmr:=cut_more hf ha hac hno
       (try (conv=>whnf));repeat' (first|refine Ok.seq ?_|((first|refine Ok.region tok ?_|refine Ok.cond ?_);conv=>whnf)|refine Ok.block ?_|((first|refine Ok.skip ?_|refine nI ?_|refine⟨_,by assumption,?_⟩);conv=>whnf)|(refine bI ?_ ?_<;>intro<;>(conv=>whnf)<;>(try (exfalso;omega)))|((first|refine aJ ?_|refine num_any ?_);conv=>whnf)|fail)
       refine⟨(i+1,f,dn),by dsimp only;omega,⟨by dsimp only;omega,by dsimp only;omega,.inl ⟨by dsimp only;omega,by dsimp only;omega,hmr,hcut⟩⟩,?_⟩
       (conv=>whnf)
       rfl
   . have hie:i=s.length:=by omega
     subst hie
     have hst:=cut_last hno
     (try (conv=>whnf));repeat' (first|refine Ok.seq ?_|((first|refine Ok.region tok ?_|refine Ok.cond ?_);conv=>whnf)|refine Ok.block ?_|((first|refine Ok.skip ?_|refine nI ?_|refine Alt2.l (aI ?_)|refine⟨_,.inl ⟨rfl,rfl⟩,?_⟩|refine⟨_,_,rfl,rfl,?_⟩);conv=>whnf)|(refine bI ?_ ?_<;>intro<;>(conv=>whnf)<;>(try (exfalso;omega)))|((first|refine aJ ?_|refine⟨_,rfl,?_⟩);conv=>whnf)|fail)
     refine⟨(s.length+1,s.length+1,dn++[(s.take s.length).drop f]),by dsimp only;omega,⟨by dsimp only;omega,by simp;omega,.inr ⟨rfl,?_⟩⟩,?_⟩
     . dsimp only
       rw[hcut,hst]
     . (conv=>whnf)
       simp[envCat]
 . subst hie
   (try (conv=>whnf));repeat' (first|refine Ok.seq ?_|((first|refine Ok.region tok ?_|refine Ok.cond ?_|refine Ok.exit ?_|refine Ok.ret ?_);conv=>whnf)|(refine bI ?_ ?_<;>intro<;>(conv=>whnf)<;>(try (exfalso;omega)))|fail)
   refine Or.inl ?_;(conv=>whnf)
   refine⟨[],?_,rfl⟩
   rw[hdn,List.take_of_length_le (by simp),List.drop_of_length_le (by simp)]
   rfl
end Go.Proofs.YtaiondckookpiaaGreatDoor
namespace Go.Proofs.YtaiondckookpiaaGreatDoor
open Go Go.Vx
theorem parO_long{b:Int}{s:Str}(h:33024<s.length):parO b s=(2,0,[]):=by unfold parO;rw[if_pos h]
theorem parO_arg{b:Int}{s:Str}(h:¬ 33024<s.length)(h2:b<1\/256<b):parO b s=(1,0,[]):=by unfold parO;rw[if_neg h,if_pos h2]
theorem parO_none{b:Int}{s:Str}(h:¬ 33024<s.length)(h2:¬ (b<1\/256<b))(h3:s=[110,111,110,101]):parO b s=(0,b,[]):=by unfold parO;rw[if_neg h,if_neg h2,if_pos h3]
theorem parO_word{b:Int}{s:Str}(h:¬ 33024<s.length)(h2:¬ (b<1\/256<b))(h3:¬ s=[110,111,110,101])(h4:¬ OkP b (pieces s)):parO b s=(20,0,[]):=by
 unfold parO;rw[if_neg h,if_neg h2,if_neg h3,if_pos h4]
theorem parO_many{b:Int}{s:Str}(h:¬ 33024<s.length)(h2:¬ (b<1\/256<b))(h3:¬ s=[110,111,110,101])(h4:OkP b (pieces s))(h5:128<cntP (pieces s)):parO b s=(3,0,[]):=by
 unfold parO;rw[if_neg h,if_neg h2,if_neg h3,if_neg (fun q=>q h4),if_pos h5]
theorem parO_form{b:Int}{s:Str}(h:¬ 33024<s.length)(h2:¬ (b<1\/256<b))(h3:¬ s=[110,111,110,101])(h4:OkP b (pieces s))(h5:¬ 128<cntP (pieces s)):parO b s=(0,b,formT (trms (pieces s))):=by
 unfold parO;rw[if_neg h,if_neg h2,if_neg h3,if_neg (fun q=>q h4),if_neg h5]
theorem okP_take{b:Int}{ms:List (List Str)}{i:Nat}{m:List Str}(h:ms[i]? = some m)(h1:OkP b (ms.take i))(h2:∀ w ∈ m,OkW b w):OkP b (ms.take (i+1)):=by
 intro x hx
 rw[take_snoc h] at hx
 rcases List.mem_append.1 hx with hx|hx
 . exact h1 x hx
 . simp at hx;subst hx;exact h2
theorem pieces_get{s:Str}{i:Nat}{x:Str}(h:(cutL 43 s)[i]? = some x):(pieces s)[i]? = some (cutL 45 x):=by unfold pieces;rw[List.getElem?_map,h];rfl
theorem pieces_all{s:Str}:(pieces s).take (cutL 43 s).length=pieces s:=List.take_of_length_le (by simp[pieces])
def DSp(n:Int)(ts:List Term)(d:D):Prop:=∃ (ks:List TR) (rm:List (List D)),d = .agg [.i .i64 n,.lst 120 (ks.map drow) rm]/\ks.map TR.t=ts
def DOut(o:Int × Int × List Term)(d:D)(rows:Vx.Rows):Prop:=rows=[]/\∃ a,d = .tup [a,.i .i64 o.1]/\DSp o.2.1 o.2.2 a
theorem DSp.nil(n:Int):DSp n [] (.agg [.i .i64 n,.lst 120 [] []]):=⟨[],[],rfl,rfl⟩
set_option maxRecDepth 100000 in
set_option maxHeartbeats 8000000 in
theorem rparse_at(b:Int)(s:Str):FSpec Tryz.prog T 61 [.i .i64 b,.s s] (DOut (parO b s)):=by
 refine FSpec.of_ok tok Tryz.func61 rfl Tryz.call61 (by simp) ?_
 by_cases hlong:33024<s.length
 . rw[parO_long hlong]
   (try (conv=>whnf));repeat' (first|refine Ok.seq ?_|refine OkL.cons ?_|((first|refine Ok.region tok ?_|refine Ok.region_tree (id:=26) tok follows [(2,5,[]),(2,10,[]),(5,10,[]),(9,10,[])] (.q 0 (.q 1 (.q 2 (.q 3 (.q 4 (.alt 5 (.q 6 (.q 7 (.q 8 (.l 9 (.l 10 (.q 11 .nil)))))) (.alt 9 (.l 5 (.q 6 (.q 7 (.q 8 (.l 10 (.q 11 .nil)))))) .nil))))))) (by kernel_rfl) ?_|refine Ok.region_draw tok follows (by kernel_rfl) ?_|refine Ok.cond ?_);conv=>whnf)|refine Ok.block ?_|((first|refine Ok.skip ?_|refine Ok.exit ?_|refine Ok.ret ?_|refine nI ?_|refine ix _ (by assumption) ?_|refine ixI (by omega) (by assumption) ?_|refine ix_new _ (by omega) fun _ _=>?_|refine ixI_new (by omega) (by omega) fun _ _=>?_|refine⟨_,by assumption,?_⟩|refine Alt2.l (aI ?_)|refine Alt2.r (aI ?_));conv=>whnf)|(refine Ok.scope ?_)|((first|refine Ok.label ?_|refine rd rfl (by assumption) ?_|refine⟨_,.inl ⟨rfl,rfl⟩,?_⟩|refine⟨_,_,rfl,rfl,?_⟩);conv=>whnf)|(refine bI ?_ ?_<;>intro<;>(conv=>whnf)<;>(try (exfalso;omega)))|((first|refine aJ ?_|refine num_any ?_|refine⟨_,rfl,?_⟩);conv=>whnf)|(exact True.intro)|(refine And.intro ?_ ?_<;>(conv=>whnf))|fail)
   refine Or.inl ?_;(conv=>whnf)
   exact⟨rfl,_,rfl,DSp.nil 0⟩
 by_cases hb:b<1\/256<b
 . rw[parO_arg hlong hb]
   (try (conv=>whnf));repeat' (first|refine Ok.seq ?_|refine OkL.cons ?_|((first|refine Ok.region tok ?_|refine Ok.region_tree (id:=26) tok follows [(2,5,[]),(2,10,[]),(5,10,[]),(9,10,[])] (.q 0 (.q 1 (.q 2 (.q 3 (.q 4 (.alt 5 (.q 6 (.q 7 (.q 8 (.l 9 (.l 10 (.q 11 .nil)))))) (.alt 9 (.l 5 (.q 6 (.q 7 (.q 8 (.l 10 (.q 11 .nil)))))) .nil))))))) (by kernel_rfl) ?_|refine Ok.region_draw tok follows (by kernel_rfl) ?_|refine Ok.cond ?_);conv=>whnf)|refine Ok.block ?_|((first|refine Ok.skip ?_|refine Ok.exit ?_|refine Ok.ret ?_|refine nI ?_|refine ix _ (by assumption) ?_|refine ixI (by omega) (by assumption) ?_|refine ix_new _ (by omega) fun _ _=>?_|refine ixI_new (by omega) (by omega) fun _ _=>?_|refine⟨_,by assumption,?_⟩|refine Alt2.l (aI ?_)|refine Alt2.r (aI ?_));conv=>whnf)|(refine Ok.scope ?_)|((first|refine Ok.label ?_|refine rd rfl (by assumption) ?_|refine⟨_,.inl ⟨rfl,rfl⟩,?_⟩|refine⟨_,_,rfl,rfl,?_⟩);conv=>whnf)|(refine bI ?_ ?_<;>intro<;>(conv=>whnf)<;>(try (exfalso;omega)))|((first|refine aJ ?_|refine num_any ?_|refine⟨_,rfl,?_⟩);conv=>whnf)|(exact True.intro)|(refine And.intro ?_ ?_<;>(conv=>whnf))|fail)
   all_goals
    refine Or.inl ?_;(conv=>whnf)
    exact⟨rfl,_,rfl,DSp.nil 0⟩
 by_cases hnn:s=[110,111,110,101]
 . rw[parO_none hlong hb hnn]
   (try (conv=>whnf));repeat' (first|refine Ok.seq ?_|refine OkL.cons ?_|((first|refine Ok.region tok ?_|refine Ok.region_tree (id:=26) tok follows [(2,5,[]),(2,10,[]),(5,10,[]),(9,10,[])] (.q 0 (.q 1 (.q 2 (.q 3 (.q 4 (.alt 5 (.q 6 (.q 7 (.q 8 (.l 9 (.l 10 (.q 11 .nil)))))) (.alt 9 (.l 5 (.q 6 (.q 7 (.q 8 (.l 10 (.q 11 .nil)))))) .nil))))))) (by kernel_rfl) ?_|refine Ok.region_draw tok follows (by kernel_rfl) ?_|refine Ok.cond ?_);conv=>whnf)|refine Ok.block ?_|((first|refine Ok.skip ?_|refine Ok.exit ?_|refine Ok.ret ?_|refine nI ?_|refine ix _ (by assumption) ?_|refine ixI (by omega) (by assumption) ?_|refine ix_new _ (by omega) fun _ _=>?_|refine ixI_new (by omega) (by omega) fun _ _=>?_|refine⟨_,by assumption,?_⟩|refine Alt2.l (aI ?_)|refine Alt2.r (aI ?_));conv=>whnf)|(refine Ok.scope ?_)|((first|refine Ok.label ?_|refine rd rfl (by assumption) ?_|refine⟨_,.inl ⟨rfl,rfl⟩,?_⟩|refine⟨_,_,rfl,rfl,?_⟩);conv=>whnf)|(refine bI ?_ ?_<;>intro<;>(conv=>whnf)<;>(try (exfalso;omega)))|((first|refine aJ ?_|refine num_any ?_|refine⟨_,rfl,?_⟩);conv=>whnf)|(exact True.intro)|(refine And.intro ?_ ?_<;>(conv=>whnf))|fail)
   . refine Or.inl ?_;(conv=>whnf)
     exact⟨rfl,_,rfl,DSp.nil b⟩
   . exact absurd hnn (by assumption)
 have hLn:=cutL_len 43 s
 have hLl:((cutL 43 s).map srow).length=(cutL 43 s).length:=by simp
 have hLm:∀ x ∈ cutL 43 s,x.length<=s.length:=fun x hx=>cutL_mem 43 hx
 have hcl:∀ i,cntP ((pieces s).take i)<=(pieces s).length*(s.length+1):=cntP_le fun m hm=>(pieces_mem hm).2.1
 have hpl:=pieces_len s
 have hmul:(pieces s).length*(s.length+1)<=33025*33025:=Nat.mul_le_mul (by omega) (by omega)
 (try (conv=>whnf));repeat' (first|refine Ok.seq ?_|refine OkL.cons ?_|((first|refine Ok.region tok ?_|refine Ok.region_tree (id:=26) tok follows [(2,5,[]),(2,10,[]),(5,10,[]),(9,10,[])] (.q 0 (.q 1 (.q 2 (.q 3 (.q 4 (.alt 5 (.q 6 (.q 7 (.q 8 (.l 9 (.l 10 (.q 11 .nil)))))) (.alt 9 (.l 5 (.q 6 (.q 7 (.q 8 (.l 10 (.q 11 .nil)))))) .nil))))))) (by kernel_rfl) ?_|refine Ok.region_draw tok follows (by kernel_rfl) ?_|refine Ok.cond ?_);conv=>whnf)|refine Ok.block ?_|((first|refine Ok.skip ?_|refine Ok.exit ?_|refine Ok.ret ?_|refine nI ?_|refine ix _ (by assumption) ?_|refine ixI (by omega) (by assumption) ?_|refine ix_new _ (by omega) fun _ _=>?_|refine ixI_new (by omega) (by omega) fun _ _=>?_|refine⟨_,by assumption,?_⟩);conv=>whnf)|(refine Or.inr (Or.inl ?_);(conv=>whnf);(repeat (refine aI ?_;conv=>whnf));refine⟨_,rcut_at s 43 rfl (by omega) , ?_⟩;rintro _ _ ⟨rm,rfl,rfl⟩<;>(conv=>whnf))|((first|refine Alt2.l (aI ?_)|refine Alt2.r (aI ?_));conv=>whnf)|(refine Ok.scope ?_)|((first|refine Ok.label ?_|refine rd rfl (by assumption) ?_|refine⟨_,.inl ⟨rfl,rfl⟩,?_⟩|refine⟨_,_,rfl,rfl,?_⟩);conv=>whnf)|(refine bI ?_ ?_<;>intro<;>(conv=>whnf)<;>(try (exfalso;omega)))|((first|refine aJ ?_|refine num_any ?_|refine⟨_,rfl,?_⟩);conv=>whnf)|(exact True.intro)|(refine And.intro ?_ ?_<;>(conv=>whnf))|fail)
 . exact absurd (by assumption) hnn
 refine Ok.loopU [0,4,7] [6,8] 0 1 (fun (i:Nat)=>[.i .i64 (cntP ((pieces s).take i):Nat),.i .i64 (i:Nat)]) (fun _ b=>b) (fun _ r=>r) (fun (i:Nat)=>i<=(cutL 43 s).length/\OkP b ((pieces s).take i)) (fun (i:Nat)=>(cutL 43 s).length - i) (0) (⟨Nat.zero_le _,by simp[OkP]⟩) ?_;(conv=>whnf);refine⟨by ((conv=>whnf);first|rfl|(simp[envCat,List.take_of_length_le,srow,drow];done)|(simp[envCat,List.take_of_length_le,srow,drow];rw[IntKind.wrap_i64];omega)),?_⟩
 rintro i ⟨hi,hok⟩
 have hci:=hcl i
 (conv=>whnf)
 by_cases hil:i<(cutL 43 s).length
 . obtain⟨x,hx⟩:∃ x,(cutL 43 s)[i]? = some x:=⟨_,List.getElem?_eq_getElem hil⟩
   have hpx:=pieces_get hx
   have hxl:=hLm x (List.mem_of_getElem? hx)
   have hnx:=cntP_take hpx
   have hml:=cutL_len 45 x
   have hmm:((cutL 45 x).map srow).length=(cutL 45 x).length:=by simp
   have hokx:=okP_take (b:=b) hpx hok
   have hwl:∀ w ∈ cutL 45 x,w.length<=x.length:=fun w hw=>cutL_mem 45 hw
   have hbad:∀ w ∈ cutL 45 x,¬ OkW b w->¬ OkP b (pieces s):=fun w hw h q=>h (q _ (List.mem_of_getElem? hpx) w hw)
   (try (conv=>whnf));repeat' (first|refine Ok.seq ?_|refine OkL.cons ?_|((first|refine Ok.region tok ?_|refine Ok.region_tree (id:=26) tok follows [(2,5,[]),(2,10,[]),(5,10,[]),(9,10,[])] (.q 0 (.q 1 (.q 2 (.q 3 (.q 4 (.alt 5 (.q 6 (.q 7 (.q 8 (.l 9 (.l 10 (.q 11 .nil)))))) (.alt 9 (.l 5 (.q 6 (.q 7 (.q 8 (.l 10 (.q 11 .nil)))))) .nil))))))) (by kernel_rfl) ?_|refine Ok.region_draw tok follows (by kernel_rfl) ?_|refine Ok.cond ?_);conv=>whnf)|refine Ok.block ?_|((first|refine Ok.skip ?_|refine Ok.exit ?_|refine Ok.ret ?_|refine nI ?_|refine ix _ (by assumption) ?_|refine ixI (by omega) (by assumption) ?_|refine ix_new _ (by omega) fun _ _=>?_|refine ixI_new (by omega) (by omega) fun _ _=>?_|refine⟨_,by assumption,?_⟩);conv=>whnf)|(refine Or.inr (Or.inl ?_);(conv=>whnf);(repeat (refine aI ?_;conv=>whnf));refine⟨_,rcut_at x 45 rfl (by omega) , ?_⟩;rintro _ _ ⟨rm2,rfl,rfl⟩<;>(conv=>whnf))|((first|refine Alt2.l (aI ?_)|refine Alt2.r (aI ?_));conv=>whnf)|(refine Ok.scope ?_)|((first|refine Ok.label ?_|refine rd rfl (by assumption) ?_|refine⟨_,.inl ⟨rfl,rfl⟩,?_⟩|refine⟨_,_,rfl,rfl,?_⟩);conv=>whnf)|(refine bI ?_ ?_<;>intro<;>(conv=>whnf)<;>(try (exfalso;omega)))|((first|refine aJ ?_|refine num_any ?_|refine⟨_,rfl,?_⟩);conv=>whnf)|(exact True.intro)|(refine And.intro ?_ ?_<;>(conv=>whnf))|fail)
   generalize cutL 45 x=M at *
   generalize cntP ((pieces s).take i)=K at *
   refine Ok.loopU [0,4,6,7,8,9] [10] 0 1 (fun (j:Nat)=>[.i .i64 (j:Nat)]) (fun _ b=>b) (fun _ r=>r) (fun (j:Nat)=>j<=M.length/\∀ w ∈ M.take j,OkW b w) (fun (j:Nat)=>M.length - j) (0) (⟨Nat.zero_le _,by simp⟩) ?_;(conv=>whnf);refine⟨by ((conv=>whnf);first|rfl|(simp[envCat,List.take_of_length_le,srow,drow];done)|(simp[envCat,List.take_of_length_le,srow,drow];rw[IntKind.wrap_i64];omega)),?_⟩
   rintro j ⟨hj,hw⟩
   (conv=>whnf)
   by_cases hjl:j<M.length
   . obtain⟨y,hy⟩:∃ y,M[j]? = some y:=⟨_,List.getElem?_eq_getElem hjl⟩
     have hyI:M[((j:Nat):Int).toNat]? = some y:=hy
     have hym:=List.mem_of_getElem? hy
     have hyl:=hwl y hym
     by_cases hgood:OkW b y
     . have hg1:=hgood.1
       have hg2:=hgood.2
       (try (conv=>whnf));repeat' (first|refine Ok.seq ?_|refine OkL.cons ?_|((first|refine Ok.region tok ?_|refine Ok.region_tree (id:=26) tok follows [(2,5,[]),(2,10,[]),(5,10,[]),(9,10,[])] (.q 0 (.q 1 (.q 2 (.q 3 (.q 4 (.alt 5 (.q 6 (.q 7 (.q 8 (.l 9 (.l 10 (.q 11 .nil)))))) (.alt 9 (.l 5 (.q 6 (.q 7 (.q 8 (.l 10 (.q 11 .nil)))))) .nil))))))) (by kernel_rfl) ?_|refine Ok.region_draw tok follows (by kernel_rfl) ?_|refine Ok.cond ?_);conv=>whnf)|refine Ok.block ?_|((first|refine Ok.skip ?_|refine Ok.exit ?_|refine Ok.ret ?_|refine nI ?_|refine ix _ (by assumption) ?_|refine ixI (by omega) (by assumption) ?_|refine ix_new _ (by omega) fun _ _=>?_|refine ixI_new (by omega) (by omega) fun _ _=>?_|refine⟨_,by assumption,?_⟩);conv=>whnf)|(refine Or.inl ?_;(conv=>whnf);(repeat (refine aI ?_;conv=>whnf));refine⟨_,rcube_at y,rfl,?_⟩;conv=>whnf)|(refine⟨_,rcube_at y,rfl,?_⟩;conv=>whnf)|(refine Or.inr (Or.inl ?_);(conv=>whnf);(repeat (refine aI ?_;conv=>whnf));refine⟨_,rcube_at y,?_⟩;rintro _ _ ⟨rfl,rfl⟩;conv=>whnf)|((first|refine Alt2.l (aI ?_)|refine Alt2.r (aI ?_));conv=>whnf)|(refine Ok.scope ?_)|((first|refine Ok.label ?_|refine rd rfl (by assumption) ?_|refine⟨_,.inl ⟨rfl,rfl⟩,?_⟩|refine⟨_,_,rfl,rfl,?_⟩);conv=>whnf)|(refine bI ?_ ?_<;>intro<;>(conv=>whnf)<;>(try (exfalso;omega)))|((first|refine aJ ?_|refine num_any ?_|refine⟨_,rfl,?_⟩);conv=>whnf)|(exact True.intro)|(refine And.intro ?_ ?_<;>(conv=>whnf))|fail)
       . exact absurd hg2 (by assumption)
       . refine⟨j+1,by omega,⟨by omega,fun w hw2=>?_⟩,?_⟩
         . rw[take_snoc hy] at hw2
           rcases List.mem_append.1 hw2 with h|h
           . exact hw w h
           . simp at h;rw[h];exact hgood
         . (conv=>whnf)
           rfl
     . have hno:=hbad y hym hgood
       (try (conv=>whnf));repeat' (first|refine Ok.seq ?_|refine OkL.cons ?_|((first|refine Ok.region tok ?_|refine Ok.region_tree (id:=26) tok follows [(2,5,[]),(2,10,[]),(5,10,[]),(9,10,[])] (.q 0 (.q 1 (.q 2 (.q 3 (.q 4 (.alt 5 (.q 6 (.q 7 (.q 8 (.l 9 (.l 10 (.q 11 .nil)))))) (.alt 9 (.l 5 (.q 6 (.q 7 (.q 8 (.l 10 (.q 11 .nil)))))) .nil))))))) (by kernel_rfl) ?_|refine Ok.region_draw tok follows (by kernel_rfl) ?_|refine Ok.cond ?_);conv=>whnf)|refine Ok.block ?_|((first|refine Ok.skip ?_|refine Ok.exit ?_|refine Ok.ret ?_|refine nI ?_|refine ix _ (by assumption) ?_|refine ixI (by omega) (by assumption) ?_|refine ix_new _ (by omega) fun _ _=>?_|refine ixI_new (by omega) (by omega) fun _ _=>?_|refine⟨_,by assumption,?_⟩);conv=>whnf)|(refine Or.inl ?_;(conv=>whnf);(repeat (refine aI ?_;conv=>whnf));refine⟨_,rcube_at y,rfl,?_⟩;conv=>whnf)|(refine⟨_,rcube_at y,rfl,?_⟩;conv=>whnf)|(refine Or.inr (Or.inl ?_);(conv=>whnf);(repeat (refine aI ?_;conv=>whnf));refine⟨_,rcube_at y,?_⟩;rintro _ _ ⟨rfl,rfl⟩;conv=>whnf)|((first|refine Alt2.l (aI ?_)|refine Alt2.r (aI ?_));conv=>whnf)|(refine Ok.scope ?_)|((first|refine Ok.label ?_|refine rd rfl (by assumption) ?_|refine⟨_,.inl ⟨rfl,rfl⟩,?_⟩|refine⟨_,_,rfl,rfl,?_⟩);conv=>whnf)|(refine bI ?_ ?_<;>intro<;>(conv=>whnf)<;>(try (exfalso;omega)))|((first|refine aJ ?_|refine num_any ?_|refine⟨_,rfl,?_⟩);conv=>whnf)|(exact True.intro)|(refine And.intro ?_ ?_<;>(conv=>whnf))|fail)
       . rw[parO_word hlong hb hnn hno]
         refine Or.inl ?_;(conv=>whnf)
         exact⟨rfl,_,rfl,DSp.nil 0⟩
       . rw[parO_word hlong hb hnn hno]
         refine Or.inl ?_;(conv=>whnf)
         exact⟨rfl,_,rfl,DSp.nil 0⟩
       . rename_i h1 h2
         exact absurd ⟨by omega,Classical.not_not.1 h2⟩ hgood
   . have hje:j=M.length:=by omega
     subst hje
     rw[List.take_length] at hw
     have hok2:=hokx hw
     (try (conv=>whnf));repeat' (first|refine Ok.seq ?_|refine OkL.cons ?_|((first|refine Ok.region tok ?_|refine Ok.region_tree (id:=26) tok follows [(2,5,[]),(2,10,[]),(5,10,[]),(9,10,[])] (.q 0 (.q 1 (.q 2 (.q 3 (.q 4 (.alt 5 (.q 6 (.q 7 (.q 8 (.l 9 (.l 10 (.q 11 .nil)))))) (.alt 9 (.l 5 (.q 6 (.q 7 (.q 8 (.l 10 (.q 11 .nil)))))) .nil))))))) (by kernel_rfl) ?_|refine Ok.region_draw tok follows (by kernel_rfl) ?_|refine Ok.cond ?_);conv=>whnf)|refine Ok.block ?_|((first|refine Ok.skip ?_|refine Ok.exit ?_|refine Ok.ret ?_|refine nI ?_|refine ix _ (by assumption) ?_|refine ixI (by omega) (by assumption) ?_|refine ix_new _ (by omega) fun _ _=>?_|refine ixI_new (by omega) (by omega) fun _ _=>?_|refine⟨_,by assumption,?_⟩|refine Alt2.l (aI ?_)|refine Alt2.r (aI ?_));conv=>whnf)|(refine Ok.scope ?_)|((first|refine Ok.label ?_|refine rd rfl (by assumption) ?_|refine⟨_,.inl ⟨rfl,rfl⟩,?_⟩|refine⟨_,_,rfl,rfl,?_⟩);conv=>whnf)|(refine bI ?_ ?_<;>intro<;>(conv=>whnf)<;>(try (exfalso;omega)))|((first|refine aJ ?_|refine num_any ?_|refine⟨_,rfl,?_⟩);conv=>whnf)|(exact True.intro)|(refine And.intro ?_ ?_<;>(conv=>whnf))|fail)
     refine⟨i+1,by omega,⟨by omega,hok2⟩,?_⟩
     rw[hnx]
     (conv=>whnf)
     simp[envCat]
 . have hie:i=(cutL 43 s).length:=by omega
   subst hie
   rw[pieces_all] at hok hci
   rw[pieces_all]
   have hgood:=trms_good (n:=b) (fun m hm=>(pieces_mem hm).1) hok
   have hne:∀ m ∈ pieces s,m ≠ []:=fun m hm=>(pieces_mem hm).1
   by_cases hmany:128<cntP (pieces s)
   . rw[parO_many hlong hb hnn hok hmany]
     (try (conv=>whnf));repeat' (first|refine Ok.seq ?_|refine OkL.cons ?_|((first|refine Ok.region tok ?_|refine Ok.region_tree (id:=26) tok follows [(2,5,[]),(2,10,[]),(5,10,[]),(9,10,[])] (.q 0 (.q 1 (.q 2 (.q 3 (.q 4 (.alt 5 (.q 6 (.q 7 (.q 8 (.l 9 (.l 10 (.q 11 .nil)))))) (.alt 9 (.l 5 (.q 6 (.q 7 (.q 8 (.l 10 (.q 11 .nil)))))) .nil))))))) (by kernel_rfl) ?_|refine Ok.region_draw tok follows (by kernel_rfl) ?_|refine Ok.cond ?_);conv=>whnf)|refine Ok.block ?_|((first|refine Ok.skip ?_|refine Ok.exit ?_|refine Ok.ret ?_|refine nI ?_|refine ix _ (by assumption) ?_|refine ixI (by omega) (by assumption) ?_|refine ix_new _ (by omega) fun _ _=>?_|refine ixI_new (by omega) (by omega) fun _ _=>?_|refine⟨_,by assumption,?_⟩|refine Alt2.l (aI ?_)|refine Alt2.r (aI ?_));conv=>whnf)|(refine Ok.scope ?_)|((first|refine Ok.label ?_|refine rd rfl (by assumption) ?_|refine⟨_,.inl ⟨rfl,rfl⟩,?_⟩|refine⟨_,_,rfl,rfl,?_⟩);conv=>whnf)|(refine bI ?_ ?_<;>intro<;>(conv=>whnf)<;>(try (exfalso;omega)))|((first|refine aJ ?_|refine num_any ?_|refine⟨_,rfl,?_⟩);conv=>whnf)|(exact True.intro)|(refine And.intro ?_ ?_<;>(conv=>whnf))|fail)
     . refine Or.inl ?_;(conv=>whnf)
       exact⟨rfl,_,rfl,DSp.nil 0⟩
     all_goals exact absurd hmany (by omega)
   . rw[parO_form hlong hb hnn hok hmany]
     have hsz:=szT_trms hne
     (try (conv=>whnf));repeat' (first|refine Ok.seq ?_|refine OkL.cons ?_|((first|refine Ok.region tok ?_|refine Ok.cond ?_);conv=>whnf)|refine Ok.block ?_|((first|refine Ok.skip ?_|refine Ok.exit ?_|refine Ok.ret ?_|refine nI ?_|refine ix _ (by assumption) ?_|refine ixI (by omega) (by assumption) ?_|refine ix_new _ (by omega) fun _ _=>?_|refine ixI_new (by omega) (by omega) fun _ _=>?_|refine⟨_,by assumption,?_⟩|refine Alt2.l (aI ?_)|refine Alt2.r (aI ?_));conv=>whnf)|(refine Ok.scope ?_)|((first|refine Ok.label ?_|refine rd rfl (by assumption) ?_|refine⟨_,.inl ⟨rfl,rfl⟩,?_⟩|refine⟨_,_,rfl,rfl,?_⟩);conv=>whnf)|(refine bI ?_ ?_<;>intro<;>(conv=>whnf)<;>(try (exfalso;omega)))|((first|refine aJ ?_|refine num_any ?_|refine⟨_,rfl,?_⟩);conv=>whnf)|fail)
     refine Ok.ghost 11 120 rfl ?_
     (conv=>whnf)
     refine Ok.loopU [0,4,7] [11,12] 1 1 (fun (x:Nat × List TR)=>[.own 0 x.2.length,.i .i64 (x.1:Nat)]) (fun _ b=>b) (fun (x:Nat × List TR) (_:Vx.Rows)=>[some (120,x.2.map drow)]) (fun (x:Nat × List TR)=>x.1<=(cutL 43 s).length/\x.2.map TR.t=trms ((pieces s).take x.1)/\x.2.length<=x.1) (fun (x:Nat × List TR)=>(cutL 43 s).length - x.1) ((0,[])) (⟨Nat.zero_le _,by simp[trms],by simp⟩) ?_;(conv=>whnf);refine⟨by ((conv=>whnf);first|rfl|(simp[envCat,List.take_of_length_le,srow,drow];done)|(simp[envCat,List.take_of_length_le,srow,drow];rw[IntKind.wrap_i64];omega)),?_⟩
     rintro⟨i,l⟩ ⟨hi,hl,hll⟩
     dsimp only at hi hl hll ⊢
     have hlm:(l.map drow).length=l.length:=by simp
     (conv=>whnf)
     by_cases hil:i<(cutL 43 s).length
     . obtain⟨x,hx⟩:∃ x,(cutL 43 s)[i]? = some x:=⟨_,List.getElem?_eq_getElem hil⟩
       have hpx:=pieces_get hx
       have hxl:=hLm x (List.mem_of_getElem? hx)
       have hcut:=rcut_at x 45 (k:=45) rfl (by omega)
       have hml:=cutL_len 45 x
       have hoks:=hok _ (List.mem_of_getElem? hpx)
       obtain⟨p,less,hm⟩:∃ p less,cutL 45 x=p :: less:=by
        cases h:cutL 45 x with
        | nil=>exact absurd h (cutL_ne _ _)
        | cons a l=>exact⟨a,l,rfl⟩
       rw[hm] at hpx hcut hml hoks
       simp at hml
       have hp:=hoks p (by simp)
       have hlo:∀ m ∈ less,m.length<=256:=fun m h=>(hoks m (by simp[h])).2.1.len
       have hlm2:(less.map srow).length=less.length:=by simp
       have hsl:∀ rm:List (List D),List.drop 1 (List.take (List.map srow (p :: less)).length (List.map srow (p :: less)++rm))=less.map srow:=fun rm=>by
        rw[List.take_left' rfl]
        rfl
       (try (conv=>whnf));repeat' (first|refine Ok.seq ?_|refine OkL.cons ?_|((first|refine Ok.region tok ?_|refine Ok.region_tree (id:=26) tok follows [(2,5,[]),(2,10,[]),(5,10,[]),(9,10,[])] (.q 0 (.q 1 (.q 2 (.q 3 (.q 4 (.alt 5 (.q 6 (.q 7 (.q 8 (.l 9 (.l 10 (.q 11 .nil)))))) (.alt 9 (.l 5 (.q 6 (.q 7 (.q 8 (.l 10 (.q 11 .nil)))))) .nil))))))) (by kernel_rfl) ?_|refine Ok.region_draw tok follows (by kernel_rfl) ?_|refine Ok.cond ?_);conv=>whnf)|refine Ok.block ?_|((first|refine Ok.skip ?_|refine Ok.exit ?_|refine Ok.ret ?_|refine nI ?_|refine ix _ (by assumption) ?_|refine ixI (by omega) (by assumption) ?_|refine ix_new _ (by omega) fun _ _=>?_|refine ixI_new (by omega) (by omega) fun _ _=>?_|refine⟨_,by assumption,?_⟩);conv=>whnf)|(refine Or.inr (Or.inl ?_);(conv=>whnf);(repeat (refine aI ?_;conv=>whnf));refine⟨_,hcut , ?_⟩;rintro _ _ ⟨rm2,rfl,rfl⟩<;>(conv=>whnf))|(refine Or.inr (Or.inl ?_);(conv=>whnf);(repeat (refine aI ?_;conv=>whnf));refine⟨_,rterm_at p less hp.2.2 hp.2.1.len (by omega) hlo (hsl _) , ?_⟩;rintro _ _ ⟨rfl,(⟨ht,rfl⟩|⟨t,rm3,ht,rfl⟩)⟩<;>(conv=>whnf))|((first|refine Alt2.l (aI ?_)|refine Alt2.r (aI ?_));conv=>whnf)|(refine Ok.scope ?_)|((first|refine Ok.label ?_|refine rd rfl (by assumption) ?_|refine⟨_,.inl ⟨rfl,rfl⟩,?_⟩|refine⟨_,_,rfl,rfl,?_⟩);conv=>whnf)|(refine bI ?_ ?_<;>intro<;>(conv=>whnf)<;>(try (exfalso;omega)))|((first|refine aJ ?_|refine num_any ?_|refine⟨_,rfl,?_⟩);conv=>whnf)|(exact True.intro)|(refine And.intro ?_ ?_<;>(conv=>whnf))|fail)
       all_goals first
        | (rename_i h;exact absurd trivial h)
        | (refine⟨(i+1,l),by dsimp only;omega,⟨by dsimp only;omega,by dsimp only;rw[trms_none hpx (show trm (p :: less)=none from ht)];exact hl,by dsimp only;omega⟩,?_⟩
           (conv=>whnf)
           rfl)
        | (refine⟨(i+1,l++[⟨t,rm3⟩]),by dsimp only;omega,⟨by dsimp only;omega,by dsimp only;rw[trms_some hpx (show trm (p :: less)=some t from ht),List.map_append,hl];rfl,by simp;omega⟩,?_⟩
           (conv=>whnf)
           simp[envCat])
     . have hie:i=(cutL 43 s).length:=by omega
       subst hie
       rw[pieces_all] at hl
       have hrn:∀ x ∈ l,RN2 x/\x.t.Ok b.toNat:=fun x hx=>(hgood _ (mem_of_map hl hx)).rn (by
        have:=szT_mem (mem_of_map hl hx)
        omega)
       have htk:List.take l.length (l.map drow)=l.map drow:=List.take_of_length_le (by simp)
       (try (conv=>whnf));repeat' (first|refine Ok.seq ?_|refine OkL.cons ?_|((first|refine Ok.region tok ?_|refine Ok.region_tree (id:=26) tok follows [(2,5,[]),(2,10,[]),(5,10,[]),(9,10,[])] (.q 0 (.q 1 (.q 2 (.q 3 (.q 4 (.alt 5 (.q 6 (.q 7 (.q 8 (.l 9 (.l 10 (.q 11 .nil)))))) (.alt 9 (.l 5 (.q 6 (.q 7 (.q 8 (.l 10 (.q 11 .nil)))))) .nil))))))) (by kernel_rfl) ?_|refine Ok.region_draw tok follows (by kernel_rfl) ?_|refine Ok.cond ?_);conv=>whnf)|refine Ok.block ?_|((first|refine Ok.skip ?_|refine Ok.exit ?_|refine Ok.ret ?_|refine nI ?_|refine ix _ (by assumption) ?_|refine ixI (by omega) (by assumption) ?_|refine ix_new _ (by omega) fun _ _=>?_|refine ixI_new (by omega) (by omega) fun _ _=>?_|refine⟨_,by assumption,?_⟩);conv=>whnf)|(refine Or.inr (Or.inl ?_);(conv=>whnf);(repeat (refine aI ?_;conv=>whnf));refine⟨_,rform_at b b.toNat l (by omega) hrn htk , ?_⟩;rintro _ _ ⟨ks,rm4,rfl,rfl,hks,hkm⟩<;>(conv=>whnf))|((first|refine Alt2.l (aI ?_)|refine Alt2.r (aI ?_));conv=>whnf)|(refine Ok.scope ?_)|((first|refine Ok.label ?_|refine rd rfl (by assumption) ?_|refine⟨_,.inl ⟨rfl,rfl⟩,?_⟩|refine⟨_,_,rfl,rfl,?_⟩);conv=>whnf)|(refine bI ?_ ?_<;>intro<;>(conv=>whnf)<;>(try (exfalso;omega)))|((first|refine aJ ?_|refine num_any ?_|refine⟨_,rfl,?_⟩);conv=>whnf)|(exact True.intro)|(refine And.intro ?_ ?_<;>(conv=>whnf))|fail)
       refine Or.inl ?_;(conv=>whnf)
       exact⟨rfl,_,rfl,ks,rm4,rfl,by rw[hks,hl]⟩
end Go.Proofs.YtaiondckookpiaaGreatDoor
namespace Go.Proofs.YtaiondckookpiaaGreatDoor
open Go Go.Vx Go.RowKit
theorem ours_nil(w:World):Calls Tryz.prog 64 #[.nilIface] w fun e w'=>e = .returned (.bool false)/\w'=w:=by
 go_enter Tryz.func64,Tryz.ntmps64
 go_wp2
 go_ret
 exact⟨rfl,rfl⟩
theorem as_passed(w:World):(Instr.typeAssert (.iface 154 (.agg #[])) 20 154 true).run Tryz.prog w = .ok (.tuple #[.agg #[],.bool true]) w:=by kernel_rfl
set_option maxRecDepth 100000 in
theorem ours_passed(w:World):Calls Tryz.prog 64 #[.iface 154 (.agg #[])] w fun e w'=>e = .returned (.bool true)/\Ext w w':=by
 go_enter Tryz.func64,Tryz.ntmps64
 go_wp2_with (rw[as_passed])
 go_ret
 exact⟨rfl,Ext.alloc _ _⟩
theorem run_store2{t:TypeId}{p:Addr}{w w':World}{z:List Value}{x y:Operand}{a:Act}{dst:Option Nat}{type:TypeId}{pos:String}{after:Array Edge}(hsz:∀ w,(sizeOf t).run Tryz.prog w = .ok z.length w)(hx:a.eval x = .pointer (some p))(hy:(a.eval y).cells=z.toArray)(h:(storeCells p z).run Tryz.prog w = .ok () w') :
    (execOp a.eval ⟨dst,.store t x y,type,pos,after,none⟩).run Tryz.prog w = .ok .skip w':=by
 simp[execOp,Instr.storeAt,hx,hy,Instr.sureAddr,storeVar,hsz,h]
theorem run_build2{e:Operand->Value}{dst:Option Nat}{type:TypeId}{pos:String}{after:Array Edge}{w:World}:(execOp e ⟨dst,.build 24 #[],type,pos,after,none⟩).run Tryz.prog w = .ok (.value (.agg #[.int .i64 0,.slice none 0 0])) w:=by
 have h:(Instr.build 24 #[]).run Tryz.prog w = .ok (.agg #[.int .i64 0,.slice none 0 0]) w:=by kernel_rfl
 simp[execOp,h]
theorem idle_parse(p q:Addr)(w:World):CallsD Tryz.prog 99 #[.pointer (some p),.pointer (some q)] .returning w fun e u' w'=>e = .returned (.tuple #[])/\u' = .returning/\Ext w w':=by
 refine callsD_of_wpS Tryz.func99 rfl fun c₀ cs hu=>?_
 apply wpS_seq
 apply wpS_region
 simp[wpOpsS,go_sem,recoverD,hu,Tryz.ntmps99,Exit.thenS]
 refine (ours_nil w).mono ?_
 rintro e w' ⟨rfl,rfl⟩
 refine wpS_cond (t:=false) (by simp[Act.eval,Act.put,Array.replicate]) ?_
 simp only[Bool.false_eq_true,if_false]
 refine wpS_of_wp (wp_skip ?_)
 cases c₀
 simp_all[bodyPostS,results,Tryz.results99]
 exact Ext.refl _
theorem caught_parse(p q:Addr)(w:World){R:Ending->FrameMode->World->Prop}(h:∀ w1,Ext w w1->∃ w2,(storeCells p [.int .i64 0,.slice none 0 0]).run Tryz.prog w1 = .ok () w2/\∃ w3,(storeCells q [.int .i64 3]).run Tryz.prog w2 = .ok () w3)
    (hR:∀ w1 w2 w3,Ext w w1->(storeCells p [.int .i64 0,.slice none 0 0]).run Tryz.prog w1 = .ok () w2->(storeCells q [.int .i64 3]).run Tryz.prog w2 = .ok () w3->R (.returned (.tuple #[])) (.panicking [{ v:=.iface 154 (.agg #[]),recovered:=true }]) w3) :
    CallsD Tryz.prog 99 #[.pointer (some p),.pointer (some q)] (.panicking [{ v:=.iface 154 (.agg #[]),recovered:=false }]) w R:=by
 refine callsD_of_wpS Tryz.func99 rfl fun c₀ cs hu=>?_
 apply wpS_seq
 apply wpS_region
 simp[wpOpsS,go_sem,recoverD,hu,Tryz.ntmps99,Exit.thenS]
 refine (ours_passed w).mono ?_
 rintro e w1 ⟨rfl,hx⟩
 obtain⟨w2,h1,w3,h2⟩:=h w1 hx
 have hr:=hR w1 w2 w3 hx h1 h2
 refine wpS_cond (t:=true) (by simp[Act.eval,Act.put,Array.replicate]) ?_
 simp only[if_true]
 refine wpS_of_wp ?_
 refine wp_region_lit ?_
 unfold wpList
 rw[if_pos (by simp[Region.wanted])]
 left
 unfold Oper.wp
 rw[run_build2]
 show wpList _ _ _ [_,_] (Act.put _ (some 4) _) w1
 unfold wpList
 rw[if_pos (by simp[Region.wanted])]
 left
 unfold Oper.wp
 rw[run_store2 (p:=p) (z:=[.int .i64 0,.slice none 0 0]) (fun w=>by kernel_rfl) (by simp[Act.eval,Act.put,Array.replicate]) (by simp[Act.eval,Act.put,Array.replicate,Value.cells]) h1]
 show wpList _ _ _ [_] _ w2
 unfold wpList
 rw[if_pos (by simp[Region.wanted])]
 left
 unfold Oper.wp
 rw[run_store2 (p:=q) (z:=[.int .i64 3]) (fun w=>by kernel_rfl) (by simp[Act.eval,Act.put,Array.replicate]) (by simp[Act.eval,Value.cells]) h2]
 show bodyPostS _ _ _ _ _ .normal _ _ w3
 cases c₀
 simp_all[bodyPostS,results,Tryz.results99]
 try exact rfl
theorem def_parse:DefSpec Tryz.prog 99 (.iface 154 (.agg #[])) [.int .i64 0,.slice none 0 0] [.int .i64 3]:=
 ⟨Tryz.call99,idle_parse,fun p q w h=>caught_parse p q w h fun _ _ _ hx h1 h2=>⟨rfl,rfl,_,_,hx,h1,h2⟩⟩
theorem idle_join(p q:Addr)(w:World):CallsD Tryz.prog 63 #[.pointer (some p),.pointer (some q)] .returning w fun e u' w'=>e = .returned (.tuple #[])/\u' = .returning/\Ext w w':=by
 refine callsD_of_wpS Tryz.func63 rfl fun c₀ cs hu=>?_
 apply wpS_seq
 apply wpS_region
 simp[wpOpsS,go_sem,recoverD,hu,Tryz.ntmps63,Exit.thenS]
 refine (ours_nil w).mono ?_
 rintro e w' ⟨rfl,rfl⟩
 refine wpS_cond (t:=false) (by simp[Act.eval,Act.put,Array.replicate]) ?_
 simp only[Bool.false_eq_true,if_false]
 refine wpS_of_wp (wp_skip ?_)
 cases c₀
 simp_all[bodyPostS,results,Tryz.results63]
 exact Ext.refl _
theorem caught_join(p q:Addr)(w:World){R:Ending->FrameMode->World->Prop}(h:∀ w1,Ext w w1->∃ w2,(storeCells p [.int .i64 0,.slice none 0 0]).run Tryz.prog w1 = .ok () w2/\∃ w3,(storeCells q [.int .i64 3]).run Tryz.prog w2 = .ok () w3)
    (hR:∀ w1 w2 w3,Ext w w1->(storeCells p [.int .i64 0,.slice none 0 0]).run Tryz.prog w1 = .ok () w2->(storeCells q [.int .i64 3]).run Tryz.prog w2 = .ok () w3->R (.returned (.tuple #[])) (.panicking [{ v:=.iface 154 (.agg #[]),recovered:=true }]) w3) :
    CallsD Tryz.prog 63 #[.pointer (some p),.pointer (some q)] (.panicking [{ v:=.iface 154 (.agg #[]),recovered:=false }]) w R:=by
 refine callsD_of_wpS Tryz.func63 rfl fun c₀ cs hu=>?_
 apply wpS_seq
 apply wpS_region
 simp[wpOpsS,go_sem,recoverD,hu,Tryz.ntmps63,Exit.thenS]
 refine (ours_passed w).mono ?_
 rintro e w1 ⟨rfl,hx⟩
 obtain⟨w2,h1,w3,h2⟩:=h w1 hx
 have hr:=hR w1 w2 w3 hx h1 h2
 refine wpS_cond (t:=true) (by simp[Act.eval,Act.put,Array.replicate]) ?_
 simp only[if_true]
 refine wpS_of_wp ?_
 refine wp_region_lit ?_
 unfold wpList
 rw[if_pos (by simp[Region.wanted])]
 left
 unfold Oper.wp
 rw[run_build2]
 show wpList _ _ _ [_,_] (Act.put _ (some 4) _) w1
 unfold wpList
 rw[if_pos (by simp[Region.wanted])]
 left
 unfold Oper.wp
 rw[run_store2 (p:=p) (z:=[.int .i64 0,.slice none 0 0]) (fun w=>by kernel_rfl) (by simp[Act.eval,Act.put,Array.replicate]) (by simp[Act.eval,Act.put,Array.replicate,Value.cells]) h1]
 show wpList _ _ _ [_] _ w2
 unfold wpList
 rw[if_pos (by simp[Region.wanted])]
 left
 unfold Oper.wp
 rw[run_store2 (p:=q) (z:=[.int .i64 3]) (fun w=>by kernel_rfl) (by simp[Act.eval,Act.put,Array.replicate]) (by simp[Act.eval,Value.cells]) h2]
 show bodyPostS _ _ _ _ _ .normal _ _ w3
 cases c₀
 simp_all[bodyPostS,results,Tryz.results63]
 try exact rfl
theorem def_join:DefSpec Tryz.prog 63 (.iface 154 (.agg #[])) [.int .i64 0,.slice none 0 0] [.int .i64 3]:=
 ⟨Tryz.call63,idle_join,fun p q w h=>caught_join p q w h fun _ _ _ hx h1 h2=>⟨rfl,rfl,_,_,hx,h1,h2⟩⟩
theorem idle_meet(p q:Addr)(w:World):CallsD Tryz.prog 69 #[.pointer (some p),.pointer (some q)] .returning w fun e u' w'=>e = .returned (.tuple #[])/\u' = .returning/\Ext w w':=by
 refine callsD_of_wpS Tryz.func69 rfl fun c₀ cs hu=>?_
 apply wpS_seq
 apply wpS_region
 simp[wpOpsS,go_sem,recoverD,hu,Tryz.ntmps69,Exit.thenS]
 refine (ours_nil w).mono ?_
 rintro e w' ⟨rfl,rfl⟩
 refine wpS_cond (t:=false) (by simp[Act.eval,Act.put,Array.replicate]) ?_
 simp only[Bool.false_eq_true,if_false]
 refine wpS_of_wp (wp_skip ?_)
 cases c₀
 simp_all[bodyPostS,results,Tryz.results69]
 exact Ext.refl _
theorem caught_meet(p q:Addr)(w:World){R:Ending->FrameMode->World->Prop}(h:∀ w1,Ext w w1->∃ w2,(storeCells p [.int .i64 0,.slice none 0 0]).run Tryz.prog w1 = .ok () w2/\∃ w3,(storeCells q [.int .i64 3]).run Tryz.prog w2 = .ok () w3)
    (hR:∀ w1 w2 w3,Ext w w1->(storeCells p [.int .i64 0,.slice none 0 0]).run Tryz.prog w1 = .ok () w2->(storeCells q [.int .i64 3]).run Tryz.prog w2 = .ok () w3->R (.returned (.tuple #[])) (.panicking [{ v:=.iface 154 (.agg #[]),recovered:=true }]) w3) :
    CallsD Tryz.prog 69 #[.pointer (some p),.pointer (some q)] (.panicking [{ v:=.iface 154 (.agg #[]),recovered:=false }]) w R:=by
 refine callsD_of_wpS Tryz.func69 rfl fun c₀ cs hu=>?_
 apply wpS_seq
 apply wpS_region
 simp[wpOpsS,go_sem,recoverD,hu,Tryz.ntmps69,Exit.thenS]
 refine (ours_passed w).mono ?_
 rintro e w1 ⟨rfl,hx⟩
 obtain⟨w2,h1,w3,h2⟩:=h w1 hx
 have hr:=hR w1 w2 w3 hx h1 h2
 refine wpS_cond (t:=true) (by simp[Act.eval,Act.put,Array.replicate]) ?_
 simp only[if_true]
 refine wpS_of_wp ?_
 refine wp_region_lit ?_
 unfold wpList
 rw[if_pos (by simp[Region.wanted])]
 left
 unfold Oper.wp
 rw[run_build2]
 show wpList _ _ _ [_,_] (Act.put _ (some 4) _) w1
 unfold wpList
 rw[if_pos (by simp[Region.wanted])]
 left
 unfold Oper.wp
 rw[run_store2 (p:=p) (z:=[.int .i64 0,.slice none 0 0]) (fun w=>by kernel_rfl) (by simp[Act.eval,Act.put,Array.replicate]) (by simp[Act.eval,Act.put,Array.replicate,Value.cells]) h1]
 show wpList _ _ _ [_] _ w2
 unfold wpList
 rw[if_pos (by simp[Region.wanted])]
 left
 unfold Oper.wp
 rw[run_store2 (p:=q) (z:=[.int .i64 3]) (fun w=>by kernel_rfl) (by simp[Act.eval,Act.put,Array.replicate]) (by simp[Act.eval,Value.cells]) h2]
 show bodyPostS _ _ _ _ _ .normal _ _ w3
 cases c₀
 simp_all[bodyPostS,results,Tryz.results69]
 try exact rfl
theorem def_meet:DefSpec Tryz.prog 69 (.iface 154 (.agg #[])) [.int .i64 0,.slice none 0 0] [.int .i64 3]:=
 ⟨Tryz.call69,idle_meet,fun p q w h=>caught_meet p q w h fun _ _ _ hx h1 h2=>⟨rfl,rfl,_,_,hx,h1,h2⟩⟩
theorem idle_minus(p q:Addr)(w:World):CallsD Tryz.prog 79 #[.pointer (some p),.pointer (some q)] .returning w fun e u' w'=>e = .returned (.tuple #[])/\u' = .returning/\Ext w w':=by
 refine callsD_of_wpS Tryz.func79 rfl fun c₀ cs hu=>?_
 apply wpS_seq
 apply wpS_region
 simp[wpOpsS,go_sem,recoverD,hu,Tryz.ntmps79,Exit.thenS]
 refine (ours_nil w).mono ?_
 rintro e w' ⟨rfl,rfl⟩
 refine wpS_cond (t:=false) (by simp[Act.eval,Act.put,Array.replicate]) ?_
 simp only[Bool.false_eq_true,if_false]
 refine wpS_of_wp (wp_skip ?_)
 cases c₀
 simp_all[bodyPostS,results,Tryz.results79]
 exact Ext.refl _
theorem caught_minus(p q:Addr)(w:World){R:Ending->FrameMode->World->Prop}(h:∀ w1,Ext w w1->∃ w2,(storeCells p [.int .i64 0,.slice none 0 0]).run Tryz.prog w1 = .ok () w2/\∃ w3,(storeCells q [.int .i64 3]).run Tryz.prog w2 = .ok () w3)
    (hR:∀ w1 w2 w3,Ext w w1->(storeCells p [.int .i64 0,.slice none 0 0]).run Tryz.prog w1 = .ok () w2->(storeCells q [.int .i64 3]).run Tryz.prog w2 = .ok () w3->R (.returned (.tuple #[])) (.panicking [{ v:=.iface 154 (.agg #[]),recovered:=true }]) w3) :
    CallsD Tryz.prog 79 #[.pointer (some p),.pointer (some q)] (.panicking [{ v:=.iface 154 (.agg #[]),recovered:=false }]) w R:=by
 refine callsD_of_wpS Tryz.func79 rfl fun c₀ cs hu=>?_
 apply wpS_seq
 apply wpS_region
 simp[wpOpsS,go_sem,recoverD,hu,Tryz.ntmps79,Exit.thenS]
 refine (ours_passed w).mono ?_
 rintro e w1 ⟨rfl,hx⟩
 obtain⟨w2,h1,w3,h2⟩:=h w1 hx
 have hr:=hR w1 w2 w3 hx h1 h2
 refine wpS_cond (t:=true) (by simp[Act.eval,Act.put,Array.replicate]) ?_
 simp only[if_true]
 refine wpS_of_wp ?_
 refine wp_region_lit ?_
 unfold wpList
 rw[if_pos (by simp[Region.wanted])]
 left
 unfold Oper.wp
 rw[run_build2]
 show wpList _ _ _ [_,_] (Act.put _ (some 4) _) w1
 unfold wpList
 rw[if_pos (by simp[Region.wanted])]
 left
 unfold Oper.wp
 rw[run_store2 (p:=p) (z:=[.int .i64 0,.slice none 0 0]) (fun w=>by kernel_rfl) (by simp[Act.eval,Act.put,Array.replicate]) (by simp[Act.eval,Act.put,Array.replicate,Value.cells]) h1]
 show wpList _ _ _ [_] _ w2
 unfold wpList
 rw[if_pos (by simp[Region.wanted])]
 left
 unfold Oper.wp
 rw[run_store2 (p:=q) (z:=[.int .i64 3]) (fun w=>by kernel_rfl) (by simp[Act.eval,Act.put,Array.replicate]) (by simp[Act.eval,Value.cells]) h2]
 show bodyPostS _ _ _ _ _ .normal _ _ w3
 cases c₀
 simp_all[bodyPostS,results,Tryz.results79]
 try exact rfl
theorem def_minus:DefSpec Tryz.prog 79 (.iface 154 (.agg #[])) [.int .i64 0,.slice none 0 0] [.int .i64 3]:=
 ⟨Tryz.call79,idle_minus,fun p q w h=>caught_minus p q w h fun _ _ _ hx h1 h2=>⟨rfl,rfl,_,_,hx,h1,h2⟩⟩
theorem idle_expand(p q:Addr)(w:World):CallsD Tryz.prog 90 #[.pointer (some p),.pointer (some q)] .returning w fun e u' w'=>e = .returned (.tuple #[])/\u' = .returning/\Ext w w':=by
 refine callsD_of_wpS Tryz.func90 rfl fun c₀ cs hu=>?_
 apply wpS_seq
 apply wpS_region
 simp[wpOpsS,go_sem,recoverD,hu,Tryz.ntmps90,Exit.thenS]
 refine (ours_nil w).mono ?_
 rintro e w' ⟨rfl,rfl⟩
 refine wpS_cond (t:=false) (by simp[Act.eval,Act.put,Array.replicate]) ?_
 simp only[Bool.false_eq_true,if_false]
 refine wpS_of_wp (wp_skip ?_)
 cases c₀
 simp_all[bodyPostS,results,Tryz.results90]
 exact Ext.refl _
theorem caught_expand(p q:Addr)(w:World){R:Ending->FrameMode->World->Prop}(h:∀ w1,Ext w w1->∃ w2,(storeCells p [.slice none 0 0]).run Tryz.prog w1 = .ok () w2/\∃ w3,(storeCells q [.int .i64 3]).run Tryz.prog w2 = .ok () w3)
    (hR:∀ w1 w2 w3,Ext w w1->(storeCells p [.slice none 0 0]).run Tryz.prog w1 = .ok () w2->(storeCells q [.int .i64 3]).run Tryz.prog w2 = .ok () w3->R (.returned (.tuple #[])) (.panicking [{ v:=.iface 154 (.agg #[]),recovered:=true }]) w3) :
    CallsD Tryz.prog 90 #[.pointer (some p),.pointer (some q)] (.panicking [{ v:=.iface 154 (.agg #[]),recovered:=false }]) w R:=by
 refine callsD_of_wpS Tryz.func90 rfl fun c₀ cs hu=>?_
 apply wpS_seq
 apply wpS_region
 simp[wpOpsS,go_sem,recoverD,hu,Tryz.ntmps90,Exit.thenS]
 refine (ours_passed w).mono ?_
 rintro e w1 ⟨rfl,hx⟩
 obtain⟨w2,h1,w3,h2⟩:=h w1 hx
 have hr:=hR w1 w2 w3 hx h1 h2
 refine wpS_cond (t:=true) (by simp[Act.eval,Act.put,Array.replicate]) ?_
 simp only[if_true]
 refine wpS_of_wp ?_
 refine wp_region_lit ?_
 unfold wpList
 rw[if_pos (by simp[Region.wanted])]
 left
 unfold Oper.wp
 rw[run_store2 (p:=p) (z:=[.slice none 0 0]) (fun w=>by kernel_rfl) (by simp[Act.eval,Act.put,Array.replicate]) (by simp[Act.eval,Act.put,Array.replicate,Value.cells]) h1]
 show wpList _ _ _ [_] _ w2
 unfold wpList
 rw[if_pos (by simp[Region.wanted])]
 left
 unfold Oper.wp
 rw[run_store2 (p:=q) (z:=[.int .i64 3]) (fun w=>by kernel_rfl) (by simp[Act.eval,Act.put,Array.replicate]) (by simp[Act.eval,Value.cells]) h2]
 show bodyPostS _ _ _ _ _ .normal _ _ w3
 cases c₀
 simp_all[bodyPostS,results,Tryz.results90]
 try exact rfl
theorem def_expand:DefSpec Tryz.prog 90 (.iface 154 (.agg #[])) [.slice none 0 0] [.int .i64 3]:=
 ⟨Tryz.call90,idle_expand,fun p q w h=>caught_expand p q w h fun _ _ _ hx h1 h2=>⟨rfl,rfl,_,_,hx,h1,h2⟩⟩
end Go.Proofs.YtaiondckookpiaaGreatDoor
namespace Go.Proofs.YtaiondckookpiaaGreatDoor
open Go Go.Vx Go.Shelf
def PSp(n:Int)(ts:List Term)(d:D):Prop:=∃ (ks:List TR) (rm:List (List D)),d = .agg [.i .i64 n,.lst 112 (ks.map trow) rm]/\ks.map TR.t=ts
def POut(o:Int × Int × List Term)(d:D)(rows:Vx.Rows):Prop:=rows=[]/\∃ a,d = .tup [a,.i .i64 o.1]/\PSp o.2.1 o.2.2 a
theorem PSp.nil(n:Int):PSp n [] (.agg [.i .i64 n,.lst 112 [] []]):=⟨[],[],rfl,rfl⟩
theorem splitAt(t:Str)(c:UInt8)(h:t.length<4294967281):FSpec Tryz.prog T 100 [.s t,.s [c]] fun d rows=>d = .own 0 (cutL c t).length/\rows=[some (9,(cutL c t).map srow)]:=
 Go.Vx.split_at Tryz.vxSplit (by kernel_rfl) Tryz.call100 rfl t c h
theorem perr_of{t:Str}(h:okC t):perr t=0:=by unfold perr;rw[if_neg (by have:=h.1.len;omega),if_pos h]
theorem perr_not{t:Str}(h:¬ okC t):perr t ≠ 0:=by
 unfold perr
 split
 . decide
 . decide
theorem lrows{lss:List LR}{ms:List (List Str)}{i:Nat}{m:List Str}(h:lss.map LR.l=ms)(hm:ms[i]? = some m):∃ rm,lss[i]? = some ⟨m,rm⟩:=by
 subst h
 rw[List.getElem?_map] at hm
 obtain⟨x,hx,rfl⟩:=Option.map_eq_some_iff.1 hm
 exact⟨x.room,hx⟩
set_option maxRecDepth 100000 in
set_option maxHeartbeats 8000000 in
theorem parse2_at(b:Int)(s:Str):FSpec Tryz.prog T 44 [.i .i64 b,.s s] (POut (parO b s)):=by
 refine FSpec.of_deferK 7 tok Tryz.func44 rfl Tryz.call44 (by simp) def_parse (zd1:=[.i .i64 0,.nilS]) (zd2:=[.i .i64 3]) rfl rfl (by simp[Value.oneCell']) (by simp[Value.oneCell']) rfl ?_
 by_cases hlong:33024<s.length
 . rw[parO_long hlong]
   (try (conv=>whnf));repeat' (first|refine Ok.seq ?_|refine OkL.cons ?_|((first|refine Ok.region tok ?_|refine Ok.region_tree (id:=31) tok follows [(2,6,[]),(5,6,[]),(2,11,[]),(5,11,[]),(6,11,[]),(10,11,[])] (.q 0 (.q 1 (.q 2 (.q 3 (.q 4 (.alt 5 (.alt 6 (.q 7 (.q 8 (.q 9 (.l 10 (.l 11 (.q 12 .nil)))))) (.alt 10 (.l 6 (.q 7 (.q 8 (.q 9 (.l 11 (.q 12 .nil)))))) .nil)) (.alt 10 (.l 5 (.l 6 (.q 7 (.q 8 (.q 9 (.l 11 (.q 12 .nil))))))) .nil))))))) (by kernel_rfl) ?_|refine Ok.region_draw tok follows (by kernel_rfl) ?_|refine Ok.cond ?_);conv=>whnf)|refine Ok.block ?_|((first|refine Ok.skip ?_|refine Ok.exit ?_|refine Ok.ret ?_|refine nI ?_|refine ix _ (by assumption) ?_|refine ixI (by omega) (by assumption) ?_|refine ix_new _ (by omega) fun _ _=>?_|refine ixI_new (by omega) (by omega) fun _ _=>?_|refine⟨_,by assumption,?_⟩|refine Alt2.l (aI ?_)|refine Alt2.r (aI ?_));conv=>whnf)|(refine Ok.scope ?_)|((first|refine Ok.label ?_|refine rd rfl (by assumption) ?_|refine⟨_,.inl ⟨rfl,rfl⟩,?_⟩|refine⟨_,_,rfl,rfl,?_⟩);conv=>whnf)|(refine bI ?_ ?_<;>intro<;>(conv=>whnf)<;>(try (exfalso;omega)))|((first|refine aJ ?_|refine num_any ?_|refine⟨_,rfl,?_⟩);conv=>whnf)|(exact True.intro)|(refine And.intro ?_ ?_<;>(conv=>whnf))|fail)
   refine Or.inl ?_;(conv=>whnf)
   exact⟨rfl,_,rfl,PSp.nil 0⟩
 by_cases hb:b<1\/256<b
 . rw[parO_arg hlong hb]
   (try (conv=>whnf));repeat' (first|refine Ok.seq ?_|refine OkL.cons ?_|((first|refine Ok.region tok ?_|refine Ok.region_tree (id:=31) tok follows [(2,6,[]),(5,6,[]),(2,11,[]),(5,11,[]),(6,11,[]),(10,11,[])] (.q 0 (.q 1 (.q 2 (.q 3 (.q 4 (.alt 5 (.alt 6 (.q 7 (.q 8 (.q 9 (.l 10 (.l 11 (.q 12 .nil)))))) (.alt 10 (.l 6 (.q 7 (.q 8 (.q 9 (.l 11 (.q 12 .nil)))))) .nil)) (.alt 10 (.l 5 (.l 6 (.q 7 (.q 8 (.q 9 (.l 11 (.q 12 .nil))))))) .nil))))))) (by kernel_rfl) ?_|refine Ok.region_draw tok follows (by kernel_rfl) ?_|refine Ok.cond ?_);conv=>whnf)|refine Ok.block ?_|((first|refine Ok.skip ?_|refine Ok.exit ?_|refine Ok.ret ?_|refine nI ?_|refine ix _ (by assumption) ?_|refine ixI (by omega) (by assumption) ?_|refine ix_new _ (by omega) fun _ _=>?_|refine ixI_new (by omega) (by omega) fun _ _=>?_|refine⟨_,by assumption,?_⟩|refine Alt2.l (aI ?_)|refine Alt2.r (aI ?_));conv=>whnf)|(refine Ok.scope ?_)|((first|refine Ok.label ?_|refine rd rfl (by assumption) ?_|refine⟨_,.inl ⟨rfl,rfl⟩,?_⟩|refine⟨_,_,rfl,rfl,?_⟩);conv=>whnf)|(refine bI ?_ ?_<;>intro<;>(conv=>whnf)<;>(try (exfalso;omega)))|((first|refine aJ ?_|refine num_any ?_|refine⟨_,rfl,?_⟩);conv=>whnf)|(exact True.intro)|(refine And.intro ?_ ?_<;>(conv=>whnf))|fail)
   all_goals
    refine Or.inl ?_;(conv=>whnf)
    exact⟨rfl,_,rfl,PSp.nil 0⟩
 have hnb:noneB b=b:=by unfold noneB;rw[if_neg hb]
 have hnone:=none_at b
 rw[hnb] at hnone
 by_cases hnn:s=[110,111,110,101]
 . rw[parO_none hlong hb hnn]
   (try (conv=>whnf));repeat' (first|refine Ok.seq ?_|refine OkL.cons ?_|((first|refine Ok.region tok ?_|refine Ok.region_tree (id:=31) tok follows [(2,6,[]),(5,6,[]),(2,11,[]),(5,11,[]),(6,11,[]),(10,11,[])] (.q 0 (.q 1 (.q 2 (.q 3 (.q 4 (.alt 5 (.alt 6 (.q 7 (.q 8 (.q 9 (.l 10 (.l 11 (.q 12 .nil)))))) (.alt 10 (.l 6 (.q 7 (.q 8 (.q 9 (.l 11 (.q 12 .nil)))))) .nil)) (.alt 10 (.l 5 (.l 6 (.q 7 (.q 8 (.q 9 (.l 11 (.q 12 .nil))))))) .nil))))))) (by kernel_rfl) ?_|refine Ok.region_draw tok follows (by kernel_rfl) ?_|refine Ok.cond ?_);conv=>whnf)|refine Ok.block ?_|((first|refine Ok.skip ?_|refine Ok.exit ?_|refine Ok.ret ?_|refine nI ?_|refine ix _ (by assumption) ?_|refine ixI (by omega) (by assumption) ?_|refine ix_new _ (by omega) fun _ _=>?_|refine ixI_new (by omega) (by omega) fun _ _=>?_|refine⟨_,by assumption,?_⟩);conv=>whnf)|(refine Or.inr (Or.inl ?_);(conv=>whnf);(repeat (refine aI ?_;conv=>whnf));refine⟨_,hnone,?_⟩;rintro _ _ ⟨rfl,rfl⟩<;>(conv=>whnf))|((first|refine Alt2.l (aI ?_)|refine Alt2.r (aI ?_));conv=>whnf)|(refine Ok.scope ?_)|((first|refine Ok.label ?_|refine rd rfl (by assumption) ?_|refine⟨_,.inl ⟨rfl,rfl⟩,?_⟩|refine⟨_,_,rfl,rfl,?_⟩);conv=>whnf)|(refine bI ?_ ?_<;>intro<;>(conv=>whnf)<;>(try (exfalso;omega)))|((first|refine aJ ?_|refine num_any ?_|refine⟨_,rfl,?_⟩);conv=>whnf)|(exact True.intro)|(refine And.intro ?_ ?_<;>(conv=>whnf))|fail)
   . refine Or.inl ?_;(conv=>whnf)
     exact⟨rfl,_,rfl,PSp.nil b⟩
   . exact absurd hnn (by assumption)
 have hLn:=cutL_len 43 s
 have hLl:((cutL 43 s).map srow).length=(cutL 43 s).length:=by simp
 have hLm:∀ x ∈ cutL 43 s,x.length<=s.length:=fun x hx=>cutL_mem 43 hx
 have hcl:∀ i,cntP ((pieces s).take i)<=(pieces s).length*(s.length+1):=cntP_le fun m hm=>(pieces_mem hm).2.1
 have hpl:=pieces_len s
 have hmul:(pieces s).length*(s.length+1)<=33025*33025:=Nat.mul_le_mul (by omega) (by omega)
 (try (conv=>whnf));repeat' (first|refine Ok.seq ?_|refine OkL.cons ?_|((first|refine Ok.region tok ?_|refine Ok.region_tree (id:=31) tok follows [(2,6,[]),(5,6,[]),(2,11,[]),(5,11,[]),(6,11,[]),(10,11,[])] (.q 0 (.q 1 (.q 2 (.q 3 (.q 4 (.alt 5 (.alt 6 (.q 7 (.q 8 (.q 9 (.l 10 (.l 11 (.q 12 .nil)))))) (.alt 10 (.l 6 (.q 7 (.q 8 (.q 9 (.l 11 (.q 12 .nil)))))) .nil)) (.alt 10 (.l 5 (.l 6 (.q 7 (.q 8 (.q 9 (.l 11 (.q 12 .nil))))))) .nil))))))) (by kernel_rfl) ?_|refine Ok.region_draw tok follows (by kernel_rfl) ?_|refine Ok.cond ?_);conv=>whnf)|refine Ok.block ?_|((first|refine Ok.skip ?_|refine Ok.exit ?_|refine Ok.ret ?_|refine nI ?_|refine ix _ (by assumption) ?_|refine ixI (by omega) (by assumption) ?_|refine ix_new _ (by omega) fun _ _=>?_|refine ixI_new (by omega) (by omega) fun _ _=>?_|refine⟨_,by assumption,?_⟩);conv=>whnf)|(refine Or.inr (Or.inl ?_);(conv=>whnf);(repeat (refine aI ?_;conv=>whnf));refine⟨_,hnone,?_⟩;rintro _ _ ⟨rfl,rfl⟩<;>(conv=>whnf))|((first|refine Alt2.l (aI ?_)|refine Alt2.r (aI ?_));conv=>whnf)|(refine Ok.scope ?_)|((first|refine Ok.label ?_|refine rd rfl (by assumption) ?_|refine⟨_,.inl ⟨rfl,rfl⟩,?_⟩|refine⟨_,_,rfl,rfl,?_⟩);conv=>whnf)|(refine bI ?_ ?_<;>intro<;>(conv=>whnf)<;>(try (exfalso;omega)))|((first|refine aJ ?_|refine num_any ?_|refine⟨_,rfl,?_⟩);conv=>whnf)|(exact True.intro)|(refine And.intro ?_ ?_<;>(conv=>whnf))|fail)
 . exact absurd (by assumption) hnn
 refine OkL.nil ?_
 (conv=>whnf)
 refine⟨0,1,rfl,rfl,by decide,by decide,by decide,rfl,?_⟩
 have hsp:∀ t:Str,∀ c:UInt8,t.length<=s.length->FSpec Tryz.prog T 100 [.s t,.s [c]] fun d rows=>d = .own 0 (cutL c t).length/\rows=[some (9,(cutL c t).map srow)]:=fun t c h=>splitAt t c (by omega)
 (try (conv=>whnf));repeat' (first|refine Ok.seq ?_|refine OkL.cons ?_|((first|refine Ok.region tok ?_|refine Ok.region_tree (id:=31) tok follows [(2,6,[]),(5,6,[]),(2,11,[]),(5,11,[]),(6,11,[]),(10,11,[])] (.q 0 (.q 1 (.q 2 (.q 3 (.q 4 (.alt 5 (.alt 6 (.q 7 (.q 8 (.q 9 (.l 10 (.l 11 (.q 12 .nil)))))) (.alt 10 (.l 6 (.q 7 (.q 8 (.q 9 (.l 11 (.q 12 .nil)))))) .nil)) (.alt 10 (.l 5 (.l 6 (.q 7 (.q 8 (.q 9 (.l 11 (.q 12 .nil))))))) .nil))))))) (by kernel_rfl) ?_|refine Ok.region_draw tok follows (by kernel_rfl) ?_|refine Ok.cond ?_);conv=>whnf)|refine Ok.block ?_|((first|refine Ok.skip ?_|refine Ok.exit ?_|refine Ok.ret ?_|refine nI ?_|refine ix _ (by assumption) ?_|refine ixI (by omega) (by assumption) ?_|refine ix_new _ (by omega) fun _ _=>?_|refine ixI_new (by omega) (by omega) fun _ _=>?_|refine⟨_,by assumption,?_⟩);conv=>whnf)|(refine Or.inl ?_;(conv=>whnf);(repeat (refine aI ?_;conv=>whnf));refine⟨_,hsp s 43 (Nat.le_refl _),rfl,?_⟩;conv=>whnf)|(refine⟨_,hsp s 43 (Nat.le_refl _),rfl,?_⟩;conv=>whnf)|(refine Or.inr (Or.inl ?_);(conv=>whnf);(repeat (refine aI ?_;conv=>whnf));refine⟨_,hsp s 43 (Nat.le_refl _),?_⟩;rintro _ _ ⟨rfl,rfl⟩;conv=>whnf)|((first|refine Alt2.l (aI ?_)|refine Alt2.r (aI ?_));conv=>whnf)|(refine Ok.scope ?_)|((first|refine Ok.label ?_|refine rd rfl (by assumption) ?_|refine⟨_,.inl ⟨rfl,rfl⟩,?_⟩|refine⟨_,_,rfl,rfl,?_⟩);conv=>whnf)|(refine bI ?_ ?_<;>intro<;>(conv=>whnf)<;>(try (exfalso;omega)))|((first|refine aJ ?_|refine num_any ?_|refine⟨_,rfl,?_⟩);conv=>whnf)|(exact True.intro)|(refine And.intro ?_ ?_<;>(conv=>whnf))|fail)
 refine Ok.ghost 6 58 rfl ?_
 (conv=>whnf)
 refine Ok.loopU [0,4,5,37,38] [6,7,39] 2 2 (fun (x:Nat × List LR)=>[.own 1 x.2.length,.i .i64 (cntP ((pieces s).take x.1):Nat),.i .i64 (x.1:Nat)]) (fun _ b=>b) (fun (x:Nat × List LR) (_:Vx.Rows)=>[some (9,(cutL 43 s).map srow),some (58,x.2.map lrow)]) (fun (x:Nat × List LR)=>x.1<=(cutL 43 s).length/\x.2.map LR.l=(pieces s).take x.1/\OkP b ((pieces s).take x.1)) (fun (x:Nat × List LR)=>(cutL 43 s).length - x.1) ((0,[])) (⟨Nat.zero_le _,by simp,by simp[OkP]⟩) ?_;(conv=>whnf);refine⟨by ((conv=>whnf);first|rfl|(simp[envCat,List.take_of_length_le,crow,trow];done)|(simp[envCat,List.take_of_length_le,crow,trow];rw[IntKind.wrap_i64];omega)),?_⟩
 rintro⟨i,lss⟩ ⟨hi,hls,hok⟩
 dsimp only at hi hls hok ⊢
 have hlsl:(lss.map lrow).length=lss.length:=by simp
 have hlsn:lss.length<=40000:=by
  have:=congrArg List.length hls
  simp at this
  omega
 have hci:=hcl i
 (conv=>whnf)
 by_cases hil:i<(cutL 43 s).length
 . obtain⟨x,hx⟩:∃ x,(cutL 43 s)[i]? = some x:=⟨_,List.getElem?_eq_getElem hil⟩
   have hpx:=pieces_get hx
   have hxl:=hLm x (List.mem_of_getElem? hx)
   have hnx:=cntP_take hpx
   have hml:=cutL_len 45 x
   have hmm:((cutL 45 x).map srow).length=(cutL 45 x).length:=by simp
   have hokx:=okP_take (b:=b) hpx hok
   have hwl:∀ w ∈ cutL 45 x,w.length<=x.length:=fun w hw=>cutL_mem 45 hw
   have hbad:∀ w ∈ cutL 45 x,¬ OkW b w->¬ OkP b (pieces s):=fun w hw h q=>h (q _ (List.mem_of_getElem? hpx) w hw)
   have hsx:=hsp x 45 hxl
   generalize cntP ((pieces s).take i)=K at *
   generalize hM:cutL 45 x=M at *
   (try (conv=>whnf));repeat' (first|refine Ok.seq ?_|refine OkL.cons ?_|((first|refine Ok.region tok ?_|refine Ok.region_tree (id:=31) tok follows [(2,6,[]),(5,6,[]),(2,11,[]),(5,11,[]),(6,11,[]),(10,11,[])] (.q 0 (.q 1 (.q 2 (.q 3 (.q 4 (.alt 5 (.alt 6 (.q 7 (.q 8 (.q 9 (.l 10 (.l 11 (.q 12 .nil)))))) (.alt 10 (.l 6 (.q 7 (.q 8 (.q 9 (.l 11 (.q 12 .nil)))))) .nil)) (.alt 10 (.l 5 (.l 6 (.q 7 (.q 8 (.q 9 (.l 11 (.q 12 .nil))))))) .nil))))))) (by kernel_rfl) ?_|refine Ok.region_draw tok follows (by kernel_rfl) ?_|refine Ok.cond ?_);conv=>whnf)|refine Ok.block ?_|((first|refine Ok.skip ?_|refine Ok.exit ?_|refine Ok.ret ?_|refine nI ?_|refine ix _ (by assumption) ?_|refine ixI (by omega) (by assumption) ?_|refine ix_new _ (by omega) fun _ _=>?_|refine ixI_new (by omega) (by omega) fun _ _=>?_|refine⟨_,by assumption,?_⟩);conv=>whnf)|(refine Or.inl ?_;(conv=>whnf);(repeat (refine aI ?_;conv=>whnf));refine⟨_,hsx,rfl,?_⟩;conv=>whnf)|(refine⟨_,hsx,rfl,?_⟩;conv=>whnf)|(refine Or.inr (Or.inl ?_);(conv=>whnf);(repeat (refine aI ?_;conv=>whnf));refine⟨_,hsx,?_⟩;rintro _ _ ⟨rfl,rfl⟩;conv=>whnf)|((first|refine Alt2.l (aI ?_)|refine Alt2.r (aI ?_));conv=>whnf)|(refine Ok.scope ?_)|((first|refine Ok.label ?_|refine rd rfl (by assumption) ?_|refine⟨_,.inl ⟨rfl,rfl⟩,?_⟩|refine⟨_,_,rfl,rfl,?_⟩);conv=>whnf)|(refine bI ?_ ?_<;>intro<;>(conv=>whnf)<;>(try (exfalso;omega)))|((first|refine aJ ?_|refine num_any ?_|refine⟨_,rfl,?_⟩);conv=>whnf)|(exact True.intro)|(refine And.intro ?_ ?_<;>(conv=>whnf))|fail)
   refine Ok.ghost 10 46 rfl ?_
   (conv=>whnf)
   refine Ok.loopU [0,4,5,6,7,37,38,39,44,45] [10,46] 4 2 (fun (j:Nat)=>[.own 3 j,.i .i64 (j:Nat)]) (fun _ b=>b) (fun (j:Nat) (_:Vx.Rows)=>[some (9,(cutL 43 s).map srow),some (58,lss.map lrow),some (9,M.map srow),some (46,(M.take j).map crow)]) (fun (j:Nat)=>j<=M.length/\∀ w ∈ M.take j,OkW b w) (fun (j:Nat)=>M.length - j) (0) (⟨Nat.zero_le _,by simp⟩) ?_;(conv=>whnf);refine⟨by ((conv=>whnf);first|rfl|(simp[envCat,List.take_of_length_le,crow,trow];done)|(simp[envCat,List.take_of_length_le,crow,trow];rw[IntKind.wrap_i64];omega)),?_⟩
   rintro j ⟨hj,hw⟩
   have hjm:((M.take j).map crow).length=j:=by simp;omega
   (conv=>whnf)
   by_cases hjl:j<M.length
   . obtain⟨y,hy⟩:∃ y,M[j]? = some y:=⟨_,List.getElem?_eq_getElem hjl⟩
     have hyI:M[((j:Nat):Int).toNat]? = some y:=hy
     have hym:=List.mem_of_getElem? hy
     have hyl:=hwl y hym
     have hpy:=parse_at y
     by_cases hgood:OkW b y
     . have hg1:=hgood.1
       rw[zer_of hgood.2,perr_of hgood.2] at hpy
       (try (conv=>whnf));repeat' (first|refine Ok.seq ?_|refine OkL.cons ?_|((first|refine Ok.region tok ?_|refine Ok.region_tree (id:=31) tok follows [(2,6,[]),(5,6,[]),(2,11,[]),(5,11,[]),(6,11,[]),(10,11,[])] (.q 0 (.q 1 (.q 2 (.q 3 (.q 4 (.alt 5 (.alt 6 (.q 7 (.q 8 (.q 9 (.l 10 (.l 11 (.q 12 .nil)))))) (.alt 10 (.l 6 (.q 7 (.q 8 (.q 9 (.l 11 (.q 12 .nil)))))) .nil)) (.alt 10 (.l 5 (.l 6 (.q 7 (.q 8 (.q 9 (.l 11 (.q 12 .nil))))))) .nil))))))) (by kernel_rfl) ?_|refine Ok.region_draw tok follows (by kernel_rfl) ?_|refine Ok.cond ?_);conv=>whnf)|refine Ok.block ?_|((first|refine Ok.skip ?_|refine Ok.exit ?_|refine Ok.ret ?_|refine nI ?_|refine ix _ (by assumption) ?_|refine ixI (by omega) (by assumption) ?_|refine ix_new _ (by omega) fun _ _=>?_|refine ixI_new (by omega) (by omega) fun _ _=>?_|refine⟨_,by assumption,?_⟩);conv=>whnf)|(refine Or.inr (Or.inl ?_);(conv=>whnf);(repeat (refine aI ?_;conv=>whnf));refine⟨_,hpy,?_⟩;rintro _ _ ⟨rfl,rfl⟩<;>(conv=>whnf))|((first|refine Alt2.l (aI ?_)|refine Alt2.r (aI ?_));conv=>whnf)|(refine Ok.scope ?_)|((first|refine Ok.label ?_|refine rd rfl (by assumption) ?_|refine⟨_,.inl ⟨rfl,rfl⟩,?_⟩|refine⟨_,_,rfl,rfl,?_⟩);conv=>whnf)|(refine bI ?_ ?_<;>intro<;>(conv=>whnf)<;>(try (exfalso;omega)))|((first|refine aJ ?_|refine num_any ?_|refine⟨_,rfl,?_⟩);conv=>whnf)|(exact True.intro)|(refine And.intro ?_ ?_<;>(conv=>whnf))|fail)
       refine⟨j+1,by omega,⟨by omega,fun w hw2=>?_⟩,?_⟩
       . rw[take_snoc hy] at hw2
         rcases List.mem_append.1 hw2 with h|h
         . exact hw w h
         . simp at h;rw[h];exact hgood
       . rw[take_snoc hy]
         (conv=>whnf)
         simp[envCat]
         omega
     . have hno:=hbad y hym hgood
       by_cases hoc:okC y
       . have hne:(y.length:Int) ≠ b:=fun e=>hgood ⟨e,hoc⟩
         rw[perr_of hoc] at hpy
         (try (conv=>whnf));repeat' (first|refine Ok.seq ?_|refine OkL.cons ?_|((first|refine Ok.region tok ?_|refine Ok.region_tree (id:=31) tok follows [(2,6,[]),(5,6,[]),(2,11,[]),(5,11,[]),(6,11,[]),(10,11,[])] (.q 0 (.q 1 (.q 2 (.q 3 (.q 4 (.alt 5 (.alt 6 (.q 7 (.q 8 (.q 9 (.l 10 (.l 11 (.q 12 .nil)))))) (.alt 10 (.l 6 (.q 7 (.q 8 (.q 9 (.l 11 (.q 12 .nil)))))) .nil)) (.alt 10 (.l 5 (.l 6 (.q 7 (.q 8 (.q 9 (.l 11 (.q 12 .nil))))))) .nil))))))) (by kernel_rfl) ?_|refine Ok.region_draw tok follows (by kernel_rfl) ?_|refine Ok.cond ?_);conv=>whnf)|refine Ok.block ?_|((first|refine Ok.skip ?_|refine Ok.exit ?_|refine Ok.ret ?_|refine nI ?_|refine ix _ (by assumption) ?_|refine ixI (by omega) (by assumption) ?_|refine ix_new _ (by omega) fun _ _=>?_|refine ixI_new (by omega) (by omega) fun _ _=>?_|refine⟨_,by assumption,?_⟩);conv=>whnf)|(refine Or.inr (Or.inl ?_);(conv=>whnf);(repeat (refine aI ?_;conv=>whnf));refine⟨_,hpy,?_⟩;rintro _ _ ⟨rfl,rfl⟩<;>(conv=>whnf))|((first|refine Alt2.l (aI ?_)|refine Alt2.r (aI ?_));conv=>whnf)|(refine Ok.scope ?_)|((first|refine Ok.label ?_|refine rd rfl (by assumption) ?_|refine⟨_,.inl ⟨rfl,rfl⟩,?_⟩|refine⟨_,_,rfl,rfl,?_⟩);conv=>whnf)|(refine bI ?_ ?_<;>intro<;>(conv=>whnf)<;>(try (exfalso;omega)))|((first|refine aJ ?_|refine num_any ?_|refine⟨_,rfl,?_⟩);conv=>whnf)|(exact True.intro)|(refine And.intro ?_ ?_<;>(conv=>whnf))|fail)
         all_goals first
          | (rw[parO_word hlong hb hnn hno]
             refine Or.inl ?_;(conv=>whnf)
             exact⟨rfl,_,rfl,PSp.nil 0⟩)
          | (exfalso;omega)
       . have hpe:=perr_not hoc
         generalize perr y=E at *
         (try (conv=>whnf));repeat' (first|refine Ok.seq ?_|refine OkL.cons ?_|((first|refine Ok.region tok ?_|refine Ok.region_tree (id:=31) tok follows [(2,6,[]),(5,6,[]),(2,11,[]),(5,11,[]),(6,11,[]),(10,11,[])] (.q 0 (.q 1 (.q 2 (.q 3 (.q 4 (.alt 5 (.alt 6 (.q 7 (.q 8 (.q 9 (.l 10 (.l 11 (.q 12 .nil)))))) (.alt 10 (.l 6 (.q 7 (.q 8 (.q 9 (.l 11 (.q 12 .nil)))))) .nil)) (.alt 10 (.l 5 (.l 6 (.q 7 (.q 8 (.q 9 (.l 11 (.q 12 .nil))))))) .nil))))))) (by kernel_rfl) ?_|refine Ok.region_draw tok follows (by kernel_rfl) ?_|refine Ok.cond ?_);conv=>whnf)|refine Ok.block ?_|((first|refine Ok.skip ?_|refine Ok.exit ?_|refine Ok.ret ?_|refine nI ?_|refine ix _ (by assumption) ?_|refine ixI (by omega) (by assumption) ?_|refine ix_new _ (by omega) fun _ _=>?_|refine ixI_new (by omega) (by omega) fun _ _=>?_|refine⟨_,by assumption,?_⟩);conv=>whnf)|(refine Or.inr (Or.inl ?_);(conv=>whnf);(repeat (refine aI ?_;conv=>whnf));refine⟨_,hpy,?_⟩;rintro _ _ ⟨rfl,rfl⟩<;>(conv=>whnf))|((first|refine Alt2.l (aI ?_)|refine Alt2.r (aI ?_));conv=>whnf)|(refine Ok.scope ?_)|((first|refine Ok.label ?_|refine rd rfl (by assumption) ?_|refine⟨_,.inl ⟨rfl,rfl⟩,?_⟩|refine⟨_,_,rfl,rfl,?_⟩);conv=>whnf)|(refine bI ?_ ?_<;>intro<;>(conv=>whnf)<;>(try (exfalso;omega)))|((first|refine aJ ?_|refine num_any ?_|refine⟨_,rfl,?_⟩);conv=>whnf)|(exact True.intro)|(refine And.intro ?_ ?_<;>(conv=>whnf))|fail)
         all_goals first
          | (rw[parO_word hlong hb hnn hno]
             refine Or.inl ?_;(conv=>whnf)
             exact⟨rfl,_,rfl,PSp.nil 0⟩)
          | (exfalso;omega)
   . have hje:j=M.length:=by omega
     subst hje
     rw[List.take_length] at hw hjm ⊢
     have hok2:=hokx hw
     refine Ok.pub 3 ?_
     (conv=>whnf)
     (try (conv=>whnf));repeat' (first|refine Ok.seq ?_|refine OkL.cons ?_|((first|refine Ok.region tok ?_|refine Ok.region_tree (id:=31) tok follows [(2,6,[]),(5,6,[]),(2,11,[]),(5,11,[]),(6,11,[]),(10,11,[])] (.q 0 (.q 1 (.q 2 (.q 3 (.q 4 (.alt 5 (.alt 6 (.q 7 (.q 8 (.q 9 (.l 10 (.l 11 (.q 12 .nil)))))) (.alt 10 (.l 6 (.q 7 (.q 8 (.q 9 (.l 11 (.q 12 .nil)))))) .nil)) (.alt 10 (.l 5 (.l 6 (.q 7 (.q 8 (.q 9 (.l 11 (.q 12 .nil))))))) .nil))))))) (by kernel_rfl) ?_|refine Ok.region_draw tok follows (by kernel_rfl) ?_|refine Ok.cond ?_);conv=>whnf)|refine Ok.block ?_|((first|refine Ok.skip ?_|refine Ok.exit ?_|refine Ok.ret ?_|refine nI ?_|refine ix _ (by assumption) ?_|refine ixI (by omega) (by assumption) ?_|refine ix_new _ (by omega) fun _ _=>?_|refine ixI_new (by omega) (by omega) fun _ _=>?_|refine⟨_,by assumption,?_⟩|refine Alt2.l (aI ?_)|refine Alt2.r (aI ?_));conv=>whnf)|(refine Ok.scope ?_)|((first|refine Ok.label ?_|refine rd rfl (by assumption) ?_|refine⟨_,.inl ⟨rfl,rfl⟩,?_⟩|refine⟨_,_,rfl,rfl,?_⟩);conv=>whnf)|(refine bI ?_ ?_<;>intro<;>(conv=>whnf)<;>(try (exfalso;omega)))|((first|refine aJ ?_|refine num_any ?_|refine⟨_,rfl,?_⟩);conv=>whnf)|(exact True.intro)|(refine And.intro ?_ ?_<;>(conv=>whnf))|fail)
     refine⟨(i+1,lss++[⟨M,List.drop M.length (M.map crow)⟩]),by dsimp only;omega,⟨by dsimp only;omega,?_,hok2⟩,?_⟩
     . dsimp only
       rw[List.map_append,hls,take_snoc hpx]
       rfl
     . dsimp only
       rw[hnx]
       (conv=>whnf)
       simp[envCat,List.take_of_length_le]
       rw[IntKind.wrap_i64]<;>omega
 . have hie:i=(cutL 43 s).length:=by omega
   subst hie
   rw[pieces_all] at hok hci hls
   rw[pieces_all]
   have hgood:=trms_good (n:=b) (fun m hm=>(pieces_mem hm).1) hok
   have hne:∀ m ∈ pieces s,m ≠ []:=fun m hm=>(pieces_mem hm).1
   have hlsL:lss.length=(cutL 43 s).length:=by
    have:=congrArg List.length hls
    simp[pieces] at this
    exact this
   by_cases hmany:128<cntP (pieces s)
   . rw[parO_many hlong hb hnn hok hmany]
     (try (conv=>whnf));repeat' (first|refine Ok.seq ?_|refine OkL.cons ?_|((first|refine Ok.region tok ?_|refine Ok.region_tree (id:=31) tok follows [(2,6,[]),(5,6,[]),(2,11,[]),(5,11,[]),(6,11,[]),(10,11,[])] (.q 0 (.q 1 (.q 2 (.q 3 (.q 4 (.alt 5 (.alt 6 (.q 7 (.q 8 (.q 9 (.l 10 (.l 11 (.q 12 .nil)))))) (.alt 10 (.l 6 (.q 7 (.q 8 (.q 9 (.l 11 (.q 12 .nil)))))) .nil)) (.alt 10 (.l 5 (.l 6 (.q 7 (.q 8 (.q 9 (.l 11 (.q 12 .nil))))))) .nil))))))) (by kernel_rfl) ?_|refine Ok.region_draw tok follows (by kernel_rfl) ?_|refine Ok.cond ?_);conv=>whnf)|refine Ok.block ?_|((first|refine Ok.skip ?_|refine Ok.exit ?_|refine Ok.ret ?_|refine nI ?_|refine ix _ (by assumption) ?_|refine ixI (by omega) (by assumption) ?_|refine ix_new _ (by omega) fun _ _=>?_|refine ixI_new (by omega) (by omega) fun _ _=>?_|refine⟨_,by assumption,?_⟩|refine Alt2.l (aI ?_)|refine Alt2.r (aI ?_));conv=>whnf)|(refine Ok.scope ?_)|((first|refine Ok.label ?_|refine rd rfl (by assumption) ?_|refine⟨_,.inl ⟨rfl,rfl⟩,?_⟩|refine⟨_,_,rfl,rfl,?_⟩);conv=>whnf)|(refine bI ?_ ?_<;>intro<;>(conv=>whnf)<;>(try (exfalso;omega)))|((first|refine aJ ?_|refine num_any ?_|refine⟨_,rfl,?_⟩);conv=>whnf)|(exact True.intro)|(refine And.intro ?_ ?_<;>(conv=>whnf))|fail)
     . refine Or.inl ?_;(conv=>whnf)
       exact⟨rfl,_,rfl,PSp.nil 0⟩
     all_goals exact absurd hmany (by omega)
   . rw[parO_form hlong hb hnn hok hmany]
     have hsz:=szT_trms hne
     (try (conv=>whnf));repeat' (first|refine Ok.seq ?_|refine OkL.cons ?_|((first|refine Ok.region tok ?_|refine Ok.cond ?_);conv=>whnf)|refine Ok.block ?_|((first|refine Ok.skip ?_|refine Ok.exit ?_|refine Ok.ret ?_|refine nI ?_|refine ix _ (by assumption) ?_|refine ixI (by omega) (by assumption) ?_|refine ix_new _ (by omega) fun _ _=>?_|refine ixI_new (by omega) (by omega) fun _ _=>?_|refine⟨_,by assumption,?_⟩|refine Alt2.l (aI ?_)|refine Alt2.r (aI ?_));conv=>whnf)|(refine Ok.scope ?_)|((first|refine Ok.label ?_|refine rd rfl (by assumption) ?_|refine⟨_,.inl ⟨rfl,rfl⟩,?_⟩|refine⟨_,_,rfl,rfl,?_⟩);conv=>whnf)|(refine bI ?_ ?_<;>intro<;>(conv=>whnf)<;>(try (exfalso;omega)))|((first|refine aJ ?_|refine num_any ?_|refine⟨_,rfl,?_⟩);conv=>whnf)|fail)
     refine Ok.ghost 15 112 rfl ?_
     (conv=>whnf)
     refine Ok.loopU [0,4,5,81,82] [15,83] 3 2 (fun (x:Nat × List TR)=>[.own 2 x.2.length,.i .i64 (x.1:Nat)]) (fun _ b=>b) (fun (x:Nat × List TR) (_:Vx.Rows)=>[some (9,(cutL 43 s).map srow),some (58,lss.map lrow),some (112,x.2.map trow)]) (fun (x:Nat × List TR)=>x.1<=(cutL 43 s).length/\x.2.map TR.t=trms ((pieces s).take x.1)/\x.2.length<=x.1) (fun (x:Nat × List TR)=>(cutL 43 s).length - x.1) ((0,[])) (⟨Nat.zero_le _,by simp[trms],by simp⟩) ?_;(conv=>whnf);refine⟨by ((conv=>whnf);first|rfl|(simp[envCat,List.take_of_length_le,crow,trow];done)|(simp[envCat,List.take_of_length_le,crow,trow];rw[IntKind.wrap_i64];omega)),?_⟩
     rintro⟨i,l⟩ ⟨hi,hl,hll⟩
     dsimp only at hi hl hll ⊢
     have hlm:(l.map trow).length=l.length:=by simp
     (conv=>whnf)
     by_cases hil:i<(cutL 43 s).length
     . obtain⟨x,hx⟩:∃ x,(cutL 43 s)[i]? = some x:=⟨_,List.getElem?_eq_getElem hil⟩
       have hpx:=pieces_get hx
       have hxl:=hLm x (List.mem_of_getElem? hx)
       have hml:=cutL_len 45 x
       have hoks:=hok _ (List.mem_of_getElem? hpx)
       obtain⟨p,less,hm⟩:∃ p less,cutL 45 x=p :: less:=by
        cases h:cutL 45 x with
        | nil=>exact absurd h (cutL_ne _ _)
        | cons a l=>exact⟨a,l,rfl⟩
       rw[hm] at hpx hml hoks
       simp at hml
       obtain⟨rm1,hlx⟩:=lrows hls hpx
       have hp:=hoks p (by simp)
       have hlo:∀ m ∈ less,CT m:=fun m h=>(hoks m (by simp[h])).2.1
       have hlm2:(less.map crow).length=less.length:=by simp
       have hsl:∀ rm:List (List D),List.drop 1 (List.take (List.map crow (p :: less)).length (List.map crow (p :: less)++rm))=less.map crow:=fun rm=>by
        rw[List.take_left' rfl]
        rfl
       have hnew:∀ rl room,rl=List.map lrow [⟨less,List.drop (List.map crow (p :: less)).length (List.map crow (p :: less)++rm1)⟩]->FSpec Tryz.prog T 72 [.agg (crow p),.lst 58 rl room] (NewT p less):=fun rl room h=>by
        have:=newTerm_at p [⟨less,List.drop (List.map crow (p :: less)).length (List.map crow (p :: less)++rm1)⟩] (room:=room) ⟨hp.2.1,hp.2.2⟩ (by simpa using hlo) (by simp[allL];omega) (by simp) h
        rwa [show allL [⟨less,List.drop (List.map crow (p :: less)).length (List.map crow (p :: less)++rm1)⟩]=less by simp[allL]] at this
       (try (conv=>whnf));repeat' (first|refine Ok.seq ?_|refine OkL.cons ?_|((first|refine Ok.region tok ?_|refine Ok.region_tree (id:=31) tok follows [(2,6,[]),(5,6,[]),(2,11,[]),(5,11,[]),(6,11,[]),(10,11,[])] (.q 0 (.q 1 (.q 2 (.q 3 (.q 4 (.alt 5 (.alt 6 (.q 7 (.q 8 (.q 9 (.l 10 (.l 11 (.q 12 .nil)))))) (.alt 10 (.l 6 (.q 7 (.q 8 (.q 9 (.l 11 (.q 12 .nil)))))) .nil)) (.alt 10 (.l 5 (.l 6 (.q 7 (.q 8 (.q 9 (.l 11 (.q 12 .nil))))))) .nil))))))) (by kernel_rfl) ?_|refine Ok.region_draw tok follows (by kernel_rfl) ?_|refine Ok.cond ?_);conv=>whnf)|refine Ok.block ?_|((first|refine Ok.skip ?_|refine Ok.exit ?_|refine Ok.ret ?_|refine nI ?_|refine ix _ (by assumption) ?_|refine ixI (by omega) (by assumption) ?_|refine ix_new _ (by omega) fun _ _=>?_|refine ixI_new (by omega) (by omega) fun _ _=>?_|refine⟨_,by assumption,?_⟩);conv=>whnf)|(refine Or.inr (Or.inl ?_);(conv=>whnf);(repeat (refine aI ?_;conv=>whnf));refine⟨_,hnew _ _ (by simp only[hsl];rfl) , ?_⟩;rintro _ _ ⟨rfl,(⟨ht,rfl⟩|⟨t,rm3,ht,rfl⟩)⟩<;>(conv=>whnf))|((first|refine Alt2.l (aI ?_)|refine Alt2.r (aI ?_));conv=>whnf)|(refine Ok.scope ?_)|((first|refine Ok.label ?_|refine rd rfl (by assumption) ?_|refine⟨_,.inl ⟨rfl,rfl⟩,?_⟩|refine⟨_,_,rfl,rfl,?_⟩);conv=>whnf)|(refine bI ?_ ?_<;>intro<;>(conv=>whnf)<;>(try (exfalso;omega)))|((first|refine aJ ?_|refine num_any ?_|refine⟨_,rfl,?_⟩);conv=>whnf)|(exact True.intro)|(refine And.intro ?_ ?_<;>(conv=>whnf))|fail)
       all_goals first
        | (rename_i h;exact absurd trivial h)
        | (refine⟨(i+1,l),by dsimp only;omega,⟨by dsimp only;omega,by dsimp only;rw[trms_none hpx (show trm (p :: less)=none from ht)];exact hl,by dsimp only;omega⟩,?_⟩
           (conv=>whnf)
           rfl)
        | (refine⟨(i+1,l++[⟨t,rm3⟩]),by dsimp only;omega,⟨by dsimp only;omega,by dsimp only;rw[trms_some hpx (show trm (p :: less)=some t from ht),List.map_append,hl];rfl,by simp;omega⟩,?_⟩
           (conv=>whnf)
           simp[envCat])
     . have hie:i=(cutL 43 s).length:=by omega
       subst hie
       rw[pieces_all] at hl
       have hto:∀ x ∈ l,TO b.toNat x:=fun x hx=>(hgood _ (mem_of_map hl hx)).to (by
        have:=szT_mem (mem_of_map hl hx)
        omega)
       have hll2:l.length<=1048576:=by
        have:=szT_len (trms (pieces s))
        rw[<- hl,List.length_map] at this
        omega
       have hsz2:szT (formT (l.map TR.t))<=128:=by
        rw[hl]
        have:=szT_form (trms (pieces s))
        omega
       have htk:List.take l.length (l.map trow)=l.map trow:=List.take_of_length_le (by simp)
       (try (conv=>whnf));repeat' (first|refine Ok.seq ?_|refine OkL.cons ?_|((first|refine Ok.region tok ?_|refine Ok.region_tree (id:=31) tok follows [(2,6,[]),(5,6,[]),(2,11,[]),(5,11,[]),(6,11,[]),(10,11,[])] (.q 0 (.q 1 (.q 2 (.q 3 (.q 4 (.alt 5 (.alt 6 (.q 7 (.q 8 (.q 9 (.l 10 (.l 11 (.q 12 .nil)))))) (.alt 10 (.l 6 (.q 7 (.q 8 (.q 9 (.l 11 (.q 12 .nil)))))) .nil)) (.alt 10 (.l 5 (.l 6 (.q 7 (.q 8 (.q 9 (.l 11 (.q 12 .nil))))))) .nil))))))) (by kernel_rfl) ?_|refine Ok.region_draw tok follows (by kernel_rfl) ?_|refine Ok.cond ?_);conv=>whnf)|refine Ok.block ?_|((first|refine Ok.skip ?_|refine Ok.exit ?_|refine Ok.ret ?_|refine nI ?_|refine ix _ (by assumption) ?_|refine ixI (by omega) (by assumption) ?_|refine ix_new _ (by omega) fun _ _=>?_|refine ixI_new (by omega) (by omega) fun _ _=>?_|refine⟨_,by assumption,?_⟩);conv=>whnf)|(refine Or.inr (Or.inl ?_);(conv=>whnf);(repeat (refine aI ?_;conv=>whnf));refine⟨_,form_at b b.toNat l hll2 hto htk hsz2 , ?_⟩;rintro _ _ ⟨ks,rm4,rfl,rfl,hks,hkm⟩<;>(conv=>whnf))|((first|refine Alt2.l (aI ?_)|refine Alt2.r (aI ?_));conv=>whnf)|(refine Ok.scope ?_)|((first|refine Ok.label ?_|refine rd rfl (by assumption) ?_|refine⟨_,.inl ⟨rfl,rfl⟩,?_⟩|refine⟨_,_,rfl,rfl,?_⟩);conv=>whnf)|(refine bI ?_ ?_<;>intro<;>(conv=>whnf)<;>(try (exfalso;omega)))|((first|refine aJ ?_|refine num_any ?_|refine⟨_,rfl,?_⟩);conv=>whnf)|(exact True.intro)|(refine And.intro ?_ ?_<;>(conv=>whnf))|fail)
       refine Or.inl ?_;(conv=>whnf)
       exact⟨rfl,_,rfl,ks,rm4,rfl,by rw[hks,hl]⟩
end Go.Proofs.YtaiondckookpiaaGreatDoor
namespace Go.Proofs.YtaiondckookpiaaGreatDoor
open Go Go.Vx
theorem num_at(e:Int):FSpec Tryz.prog T 35 [.i .i64 e] (fun r _=>r = .i .i64 e):=by
 refine FSpec.of_ok tok Tryz.func35 rfl Tryz.call35 (by simp) ?_
 (try (conv=>whnf));repeat' (first|refine Ok.seq ?_|((first|refine Ok.region tok ?_|refine Ok.ret ?_);conv=>whnf)|fail)
 refine Or.inl ?_;(conv=>whnf)
 rfl
theorem Fine.cast{n:Int}{ts:List Term}(h:Fine n ts):((n.toNat:Nat):Int)=n:=by have:=h.n0;omega
theorem Fine.mlen{n:Int}{ts:List Term}(h:Fine n ts){l:List TR}(e:l.map TR.t=ts):l.length<=1048576:=by
 have:=h.len
 rw[<- e,List.length_map] at this
 omega
theorem Fine.mless{n:Int}{ts:List Term}(h:Fine n ts){l:List TR}(e:l.map TR.t=ts):∀ x ∈ l,x.t.less.length<=1048576:=fun x hx=>Nat.le_trans (h.less (mem_of_map e hx)) (by decide)
set_option maxHeartbeats 4000000 in
theorem like_at{n:Int}{ts:List Term}(hf:Fine n ts)(ks ks2:List TR)(rm rm2:List (List D))(h1:ks.map TR.t=ts)(h2:ks2.map TR.t=ts):FSpec Tryz.prog T 56 [.agg [.i .i64 n,.lst 112 (ks.map trow) rm],.agg [.i .i64 n,.lst 120 (ks2.map drow) rm2]] (fun r _=>r = .b True):=by
 have hbits:=bits_at n (.lst 112 (ks.map trow) rm) ⟨_,_,_,rfl⟩
 have hsize:=size_at n ks (room:=rm) (hf.mlen h1) (hf.mless h1) rfl
 have hrsize:=rsize_at n ks2 (room:=rm2) (hf.mlen h2) (hf.mless h2) rfl
 have htext:=text2_at n.toNat ks (room:=rm) (hf.sp h1) rfl
 have hrtext:=rtext_at n n.toNat ks2 (room:=rm2) (hf.sp h2) rfl
 rw[hf.cast] at htext
 rw[h1] at hsize htext
 rw[h2] at hrsize hrtext
 refine FSpec.of_ok tok Tryz.func56 rfl Tryz.call56 (by simp) ?_
 (try (conv=>whnf));repeat' (first|refine Ok.seq ?_|((first|refine Ok.region tok ?_|refine Ok.region_draw tok follows (by kernel_rfl) ?_|refine Ok.ret ?_|refine⟨_,by assumption,?_⟩);conv=>whnf)|(refine bI ?_ ?_<;>intro<;>(conv=>whnf)<;>(try (exfalso;omega)))|(refine aJ ?_;conv=>whnf)|fail)
 . refine Or.inl ?_;(conv=>whnf)
   exact congrArg D.b (propext ⟨fun _=>trivial,fun _=>rfl⟩)
 all_goals exact absurd rfl (by assumption)
set_option maxHeartbeats 4000000 in
theorem same_at{n e:Int}{ts:List Term}(hf:Fine n ts)(ks ks2:List TR)(rm rm2:List (List D))(h1:ks.map TR.t=ts)(h2:ks2.map TR.t=ts):FSpec Tryz.prog T 20 [.agg [.i .i64 n,.lst 112 (ks.map trow) rm],.i .i64 e,.agg [.i .i64 n,.lst 120 (ks2.map drow) rm2],.i .i64 e] (fun r _=>r = .b True):=by
 have hlike:=like_at hf ks ks2 rm rm2 h1 h2
 refine FSpec.of_ok tok Tryz.func20 rfl Tryz.call20 (by simp) ?_
 (try (conv=>whnf));repeat' (first|refine Ok.seq ?_|((first|refine Ok.region tok ?_|refine Ok.ret ?_);conv=>whnf)|(refine Or.inl ?_;(conv=>whnf);(repeat (refine aI ?_;conv=>whnf));refine⟨_,hlike,rfl,?_⟩;conv=>whnf)|(refine Or.inl ?_;(conv=>whnf);(repeat (refine aI ?_;conv=>whnf));refine⟨_,num_at e,rfl,?_⟩;conv=>whnf)|(refine bI ?_ ?_<;>intro<;>(conv=>whnf)<;>(try (exfalso;omega)))|fail)
 . refine Or.inl ?_;(conv=>whnf)
   rfl
 all_goals exact absurd rfl (by assumption)
end Go.Proofs.YtaiondckookpiaaGreatDoor
namespace Go.Proofs.YtaiondckookpiaaGreatDoor
open Go Go.Vx
def bndO(n:Int)(l:List Term):Int × Int × List Term:=if szT l<=128 then (0,n,l) else (3,0,[])
def fitP(n m:Int):Prop:=n=m/\0<n
open Classical in
noncomputable def joinO(n m:Int)(ts us:List Term):Int × Int × List Term:=if fitP n m then bndO n (formT (ts++us)) else (11,0,[])
theorem fits2_at(n m:Int):FSpec Tryz.prog T 62 [.i .i64 n,.i .i64 m] (fun r _=>r = .b (fitP n m)):=by
 refine FSpec.of_ok tok Tryz.func62 rfl Tryz.call62 (by simp) ?_
 (try (conv=>whnf));repeat' (first|refine Ok.seq ?_|((first|refine Ok.region tok ?_|refine Ok.ret ?_);conv=>whnf)|(refine bI ?_ ?_<;>intro<;>(conv=>whnf)<;>(try (exfalso;omega)))|fail)
 . rename_i h
   refine Or.inl ?_;(conv=>whnf)
   exact congrArg D.b (propext ⟨fun h2=>⟨h,h2⟩,fun h2=>h2.2⟩)
 . rename_i h
   refine Or.inl ?_;(conv=>whnf)
   show D.b False=_
   exact congrArg D.b (propext ⟨fun h2=>h2.elim,fun h2=>h h2.1⟩)
theorem rfit_at(n m:Int)(d d2:D)(hd:∃ e r m,d = .lst e r m)(hd2:∃ e r m,d2 = .lst e r m):FSpec Tryz.prog T 66 [.agg [.i .i64 n,d],.agg [.i .i64 m,d2]] (fun r _=>r = .b (fitP n m)):=by
 obtain⟨_,_,_,rfl⟩:=hd
 obtain⟨_,_,_,rfl⟩:=hd2
 refine FSpec.of_ok tok Tryz.func66 rfl Tryz.call66 (by simp) ?_
 (try (conv=>whnf));repeat' (first|refine Ok.seq ?_|((first|refine Ok.region tok ?_|refine Ok.ret ?_);conv=>whnf)|(refine bI ?_ ?_<;>intro<;>(conv=>whnf)<;>(try (exfalso;omega)))|fail)
 . rename_i h
   refine Or.inl ?_;(conv=>whnf)
   exact congrArg D.b (propext ⟨fun h2=>⟨h2,h⟩,fun h2=>h2.1⟩)
 . rename_i h
   refine Or.inl ?_;(conv=>whnf)
   show D.b False=_
   exact congrArg D.b (propext ⟨fun h2=>h2.elim,fun h2=>h h2.2⟩)
theorem bndO_fine{n:Int}{l:List Term}(h0:0<=n)(h1:n<=256)(hg:∀ t ∈ l,GoodT n.toNat t):Fine (bndO n (formT l)).2.1 (bndO n (formT l)).2.2:=by
 unfold bndO
 split
 . rename_i h;exact .form h0 h1 hg h
 . exact .nil (by decide) (by decide)
theorem joinO_fine{n m:Int}{ts us:List Term}(hf:Fine n ts)(hg:Fine m us):Fine (joinO n m ts us).2.1 (joinO n m ts us).2.2:=by
 unfold joinO
 split
 . rename_i h
   obtain⟨rfl,h0⟩:=h
   exact bndO_fine hf.n0 hf.n1 fun t ht=>(List.mem_append.1 ht).elim (hf.good t) (hg.good t)
 . exact .nil (by decide) (by decide)
theorem bndO_le{n:Int}{l:List Term}(h:szT l<=128):bndO n l=(0,n,l):=if_pos h
theorem bndO_gt{n:Int}{l:List Term}(h:128<szT l):bndO n l=(3,0,[]):=if_neg (by omega)
theorem joinO_fit{n m:Int}{ts us:List Term}(h:fitP n m):joinO n m ts us=bndO n (formT (ts++us)):=if_pos h
theorem joinO_not{n m:Int}{ts us:List Term}(h:¬ fitP n m):joinO n m ts us=(11,0,[]):=if_neg h
theorem formT_len(l:List Term):(formT l).length<=l.length:=by
 unfold formT
 rw[(srt_perm aheadT _).length_eq]
 exact grG_len covT l
theorem form_len{ks:List TR}{l:List Term}{k:Nat}(e:ks.map TR.t=formT l)(h:l.length<=k):ks.length<=k:=by
 have:=congrArg List.length e
 rw[List.length_map] at this
 rw[this]
 exact Nat.le_trans (formT_len l) h
theorem DOut.form{n:Int}{l:List Term}{ks:List TR}{rm:List (List D)}(e:ks.map TR.t=formT l)(h:szT (ks.map TR.t)<=128):DOut (bndO n (formT l)) (.tup [.agg [.i .i64 n,.lst 120 (ks.map drow) rm],.i .i64 0]) []:=by
 rw[bndO_le (by rw[<- e];exact h)]
 exact⟨rfl,_,rfl,ks,rm,rfl,e⟩
theorem DOut.many{n:Int}{l:List Term}{ks:List TR}(e:ks.map TR.t=formT l)(h:128<szT (ks.map TR.t)):DOut (bndO n (formT l)) (.tup [.agg [.i .i64 0,.lst 120 [] []],.i .i64 3]) []:=by
 rw[bndO_gt (by rw[<- e];exact h)]
 exact⟨rfl,_,rfl,.nil 0⟩
set_option maxHeartbeats 4000000 in
theorem rjoin_at{n m:Int}{ts us:List Term}(hf:Fine n ts)(hg:Fine m us)(ks ks2:List TR)(rm rm2:List (List D))(h1:ks.map TR.t=ts)(h2:ks2.map TR.t=us) :
    FSpec Tryz.prog T 19 [.agg [.i .i64 n,.lst 120 (ks.map drow) rm],.agg [.i .i64 m,.lst 120 (ks2.map drow) rm2]] (DOut (joinO n m ts us)):=by
 have hfit:=rfit_at n m (.lst 120 (ks.map drow) rm) (.lst 120 (ks2.map drow) rm2) ⟨_,_,_,rfl⟩ ⟨_,_,_,rfl⟩
 have hl1:=hf.len
 have hl2:=hg.len
 rw[<- h1,List.length_map] at hl1
 rw[<- h2,List.length_map] at hl2
 refine FSpec.of_ok tok Tryz.func19 rfl Tryz.call19 (by simp) ?_
 have htk:List.take (List.map drow ks++List.map drow ks2).length (List.map drow ks++List.map drow ks2)=(ks++ks2).map drow:=by rw[List.take_of_length_le (Nat.le_refl _),List.map_append]
 have hmem:∀ x ∈ ks++ks2,x.t.less.length<=1048576:=fun x hx=>(List.mem_append.1 hx).elim (hf.mless h1 x) (hg.mless h2 x)
 by_cases hfp:fitP n m
 . have hnm:=hfp.1
   subst hnm
   have hrn:∀ x ∈ ks++ks2,RN2 x/\x.t.Ok n.toNat:=fun x hx=>(List.mem_append.1 hx).elim (hf.rn h1 x) (hg.rn h2 x)
   have hts:(ks++ks2).map TR.t=ts++us:=by rw[List.map_append,h1,h2]
   rw[joinO_fit hfp,<- hts]
   have hln:((ks++ks2).map TR.t).length<=1048576:=by simp;omega
   (try (conv=>whnf));repeat' (first|refine Ok.seq ?_|((first|refine Ok.region tok ?_|refine Ok.cond ?_|refine Ok.skip ?_|refine Ok.ret ?_);conv=>whnf)|(refine Or.inl ?_;(conv=>whnf);(repeat (refine aI ?_;conv=>whnf));refine⟨_,hfit,rfl,?_⟩;conv=>whnf)|(refine Or.inr (Or.inl ?_);(conv=>whnf);(repeat (refine aI ?_;conv=>whnf));refine⟨_,rform_at n n.toNat (ks++ks2) (by simp;omega) hrn htk , ?_⟩;rintro _ _ ⟨ks3,rm3,rfl,rfl,hks3,hkm⟩<;>(conv=>whnf))|(refine Or.inr (Or.inl ?_);(conv=>whnf);(repeat (refine aI ?_;conv=>whnf));refine⟨_,rbound_at n ks3 (form_len hks3 hln) (fun x hx=>hmem x (hkm x hx)) rfl , ?_⟩;rintro _ _ ⟨rfl,(⟨hb,rfl⟩|⟨hb,rfl⟩)⟩<;>(conv=>whnf))|((first|refine Alt2.l (aI ?_)|refine⟨_,_,rfl,rfl,?_⟩);conv=>whnf)|(refine bI ?_ ?_<;>intro<;>(conv=>whnf)<;>(try (exfalso;omega)))|(refine aJ ?_;conv=>whnf)|fail)
   . exact absurd hfp (by assumption)
   . refine Or.inl ?_;(conv=>whnf)
     exact DOut.form hks3 hb
   . refine Or.inl ?_;(conv=>whnf)
     exact DOut.many hks3 hb
 . rw[joinO_not hfp]
   (try (conv=>whnf));repeat' (first|refine Ok.seq ?_|((first|refine Ok.region tok ?_|refine Ok.cond ?_|refine Ok.skip ?_|refine Ok.ret ?_);conv=>whnf)|(refine Or.inl ?_;(conv=>whnf);(repeat (refine aI ?_;conv=>whnf));refine⟨_,hfit,rfl,?_⟩;conv=>whnf)|((first|refine Alt2.l (aI ?_)|refine⟨_,_,rfl,rfl,?_⟩);conv=>whnf)|(refine bI ?_ ?_<;>intro<;>(conv=>whnf)<;>(try (exfalso;omega)))|(refine aJ ?_;conv=>whnf)|fail)
   . refine Or.inl ?_;(conv=>whnf)
     exact⟨rfl,_,rfl,DSp.nil 0⟩
   . rename_i h
     exact absurd hfp h
set_option maxRecDepth 100000 in
set_option maxHeartbeats 4000000 in
theorem join_at{n m:Int}{ts us:List Term}(hf:Fine n ts)(hg:Fine m us)(ks ks2:List TR)(rm rm2:List (List D))(h1:ks.map TR.t=ts)(h2:ks2.map TR.t=us) :
    FSpec Tryz.prog T 18 [.agg [.i .i64 n,.lst 112 (ks.map trow) rm],.agg [.i .i64 m,.lst 112 (ks2.map trow) rm2]] (POut (joinO n m ts us)):=by
 have hfit:=fits2_at n m
 have hl1:=hf.len
 have hl2:=hg.len
 rw[<- h1,List.length_map] at hl1
 rw[<- h2,List.length_map] at hl2
 have htk:List.take (List.map trow ks++List.map trow ks2).length (List.map trow ks++List.map trow ks2)=(ks++ks2).map trow:=by rw[List.take_of_length_le (Nat.le_refl _),List.map_append]
 have hk1:(List.map trow ks).length=ks.length:=by simp
 have hk2:(List.map trow ks2).length=ks2.length:=by simp
 refine FSpec.of_deferK 3 tok Tryz.func18 rfl Tryz.call18 (by simp) def_join (zd1:=[.i .i64 0,.nilS]) (zd2:=[.i .i64 3]) rfl rfl (by simp[Value.oneCell']) (by simp[Value.oneCell']) rfl ?_
 by_cases hfp:fitP n m
 . have hnm:=hfp.1
   subst hnm
   have hto:∀ x ∈ ks++ks2,TO n.toNat x:=fun x hx=>(List.mem_append.1 hx).elim (hf.to h1 x) (hg.to h2 x)
   have hts:(ks++ks2).map TR.t=ts++us:=by rw[List.map_append,h1,h2]
   rw[joinO_fit hfp,<- hts]
   have hln:(ks++ks2).length<=1048576:=by simp;omega
   (try (conv=>whnf));repeat' (first|refine Ok.seq ?_|refine OkL.cons ?_|((first|refine Ok.region tok ?_|refine Ok.cond ?_|refine Ok.skip ?_|refine Ok.ret ?_);conv=>whnf)|(refine Or.inl ?_;(conv=>whnf);(repeat (refine aI ?_;conv=>whnf));refine⟨_,hfit,rfl,?_⟩;conv=>whnf)|(refine bI ?_ ?_<;>intro<;>(conv=>whnf)<;>(try (exfalso;omega)))|fail)
   . exact absurd hfp (by assumption)
   refine OkL.nil ?_
   (conv=>whnf)
   refine⟨2,3,rfl,rfl,by decide,by decide,by decide,rfl,?_⟩
   by_cases hsz:szT (formT ((ks++ks2).map TR.t))<=128
   . rw[bndO_le hsz]
     (try (conv=>whnf));repeat' (first|refine OkL.cons ?_|((first|refine Ok.region tok ?_|refine Ok.region_plan (id:=6) tok follows [(4,5,[]),(1,6,[]),(4,6,[5]),(5,6,[]),(1,7,[]),(4,7,[]),(5,7,[]),(6,7,[]),(1,8,[]),(4,8,[]),(5,8,[]),(6,8,[]),(7,8,[])] [.q 0,.q 1,.q 2,.q 3,.q 4,.l 5,.l 6,.l 7,.l 8] (by kernel_rfl) ?_|refine Ok.ret ?_|refine nI ?_);conv=>whnf)|(refine Or.inr (Or.inl ?_);(conv=>whnf);(repeat (refine aI ?_;conv=>whnf));refine⟨_,form_at n n.toNat (ks++ks2) hln hto htk hsz , ?_⟩;rintro _ _ ⟨ks3,rm3,rfl,rfl,hks3,hkm⟩<;>(conv=>whnf))|((first|refine Alt2.l (aI ?_)|refine⟨_,_,rfl,rfl,?_⟩|refine aJ ?_|refine⟨_,rfl,?_⟩);conv=>whnf)|fail)
     refine Or.inl ?_;(conv=>whnf)
     exact⟨rfl,_,rfl,ks3,rm3,rfl,hks3⟩
   . rw[bndO_gt (by omega)]
     (try (conv=>whnf));repeat' (first|refine OkL.cons ?_|((first|refine Ok.region tok ?_|refine nI ?_|refine Alt2.l (aI ?_)|refine⟨_,_,rfl,rfl,?_⟩|refine aJ ?_|refine⟨_,rfl,?_⟩);conv=>whnf)|fail)
     refine Ok.region_planpanS tok follows [(4,5,[])] [.q 0,.q 1,.q 2,.q 3,.q 4,.l 5] 6 (by kernel_rfl) ?_;(conv=>whnf)
     (try (conv=>whnf));repeat' (first|((first|refine Alt2.l (aI ?_)|refine⟨_,_,rfl,rfl,?_⟩|refine aJ ?_);conv=>whnf)|fail)
     refine⟨_,form_pan n n.toNat (ks++ks2) hln hto htk (by omega),?_⟩
     (conv=>whnf)
     refine⟨rfl,2,3,_,_,rfl,rfl,rfl,rfl,rfl,rfl,by decide,rfl,?_⟩
     (conv=>whnf)
     refine Or.inl ?_;(conv=>whnf)
     exact⟨rfl,_,rfl,PSp.nil 0⟩
 . rw[joinO_not hfp]
   (try (conv=>whnf));repeat' (first|refine Ok.seq ?_|refine OkL.cons ?_|((first|refine Ok.region tok ?_|refine Ok.cond ?_|refine Ok.skip ?_|refine Ok.ret ?_);conv=>whnf)|(refine Or.inl ?_;(conv=>whnf);(repeat (refine aI ?_;conv=>whnf));refine⟨_,hfit,rfl,?_⟩;conv=>whnf)|(refine bI ?_ ?_<;>intro<;>(conv=>whnf)<;>(try (exfalso;omega)))|fail)
   . refine Or.inl ?_;(conv=>whnf)
     exact⟨rfl,_,rfl,PSp.nil 0⟩
   . rename_i h
     exact absurd hfp h
end Go.Proofs.YtaiondckookpiaaGreatDoor
namespace Go.Proofs.YtaiondckookpiaaGreatDoor
open Go Go.Vx
noncomputable def meet2(a b:Term):Option Term:=(meetT a.p b.p).bind fun p=>termT p (a.less++b.less)
noncomputable def meets(ts us:List Term):List Term:=ts.flatMap fun a=>us.filterMap (meet2 a)
open Classical in
noncomputable def meetO(n m:Int)(ts us:List Term):Int × Int × List Term:=if fitP n m then (if ts.length*us.length<=2048 then bndO n (formT (meets ts us)) else (3,0,[])) else (11,0,[])
theorem GoodT.len{n:Nat}{t:Term}(h:GoodT n t):t.p.length=n:=h.ok.p
theorem meet2_good{n:Nat}{a b t:Term}(ha:GoodT n a)(hb:GoodT n b)(h:meet2 a b=some t):GoodT n t:=by
 unfold meet2 at h
 obtain⟨p,hp,ht⟩:=Option.bind_eq_some_iff.1 h
 have hm:=meetT_ct hp ha.p.1 hb.p.1
 exact (termT_good ⟨hm.1,fun e=>hm.2.2 (List.eq_nil_of_length_eq_zero (by rw[<- hm.2.1,e];rfl))⟩ (by rw[hm.2.1,ha.len]) (fun m hm=>(List.mem_append.1 hm).elim (fun h=>(ha.less m h).1) (fun h=>(hb.less m h).1)) ht).1
theorem meets_good{n:Nat}{ts us:List Term}(h1:∀ t ∈ ts,GoodT n t)(h2:∀ t ∈ us,GoodT n t):∀ t ∈ meets ts us,GoodT n t:=by
 intro t ht
 obtain⟨a,ha,h⟩:=List.mem_flatMap.1 ht
 obtain⟨b,hb,h⟩:=List.mem_filterMap.1 h
 exact meet2_good (h1 a ha) (h2 b hb) h
theorem meet2_less{a b t:Term}(h:meet2 a b=some t):t.less.length<=a.less.length+b.less.length:=by
 unfold meet2 at h
 obtain⟨p,hp,ht⟩:=Option.bind_eq_some_iff.1 h
 have:=termT_sz ht
 rw[List.length_append] at this
 exact this
theorem meets_less{ts us:List Term}{k:Nat}(h1:∀ t ∈ ts,t.less.length<=k)(h2:∀ t ∈ us,t.less.length<=k):∀ t ∈ meets ts us,t.less.length<=k+k:=by
 intro t ht
 obtain⟨a,ha,h⟩:=List.mem_flatMap.1 ht
 obtain⟨b,hb,h⟩:=List.mem_filterMap.1 h
 have:=meet2_less h
 have:=h1 a ha
 have:=h2 b hb
 omega
theorem meets_snoc{ts us:List Term}{i:Nat}{a:Term}(h:ts[i]? = some a):meets (ts.take (i+1)) us=meets (ts.take i) us++us.filterMap (meet2 a):=by
 unfold meets
 rw[take_snoc h,List.flatMap_append]
 simp
theorem fm_some{α β:Type}{f:α->Option β}{l:List α}{i:Nat}{a:α}{b:β}(h:l[i]? = some a)(hb:f a=some b):(l.take (i+1)).filterMap f=(l.take i).filterMap f++[b]:=by
 rw[take_snoc h];simp[hb]
theorem fm_none{α β:Type}{f:α->Option β}{l:List α}{i:Nat}{a:α}(h:l[i]? = some a)(hb:f a=none):(l.take (i+1)).filterMap f=(l.take i).filterMap f:=by
 rw[take_snoc h];simp[hb]
theorem tr_get{ks:List TR}{ts:List Term}{i:Nat}{x:TR}(e:ks.map TR.t=ts)(h:ks[i]? = some x):ts[i]? = some x.t:=by rw[<- e,List.getElem?_map,h];rfl
theorem meetO_fit{n m:Int}{ts us:List Term}(h:fitP n m)(h2:ts.length*us.length<=2048):meetO n m ts us=bndO n (formT (meets ts us)):=by unfold meetO;rw[if_pos h,if_pos h2]
theorem meetO_raw{n m:Int}{ts us:List Term}(h:fitP n m)(h2:¬ ts.length*us.length<=2048):meetO n m ts us=(3,0,[]):=by unfold meetO;rw[if_pos h,if_neg h2]
theorem meetO_not{n m:Int}{ts us:List Term}(h:¬ fitP n m):meetO n m ts us=(11,0,[]):=if_neg h
theorem meetO_fine{n m:Int}{ts us:List Term}(hf:Fine n ts)(hg:Fine m us):Fine (meetO n m ts us).2.1 (meetO n m ts us).2.2:=by
 by_cases h:fitP n m
 . by_cases h2:ts.length*us.length<=2048
   . rw[meetO_fit h h2]
     obtain⟨rfl,h0⟩:=h
     exact bndO_fine hf.n0 hf.n1 (meets_good hf.good hg.good)
   . rw[meetO_raw h h2];exact .nil (by decide) (by decide)
 . rw[meetO_not h];exact .nil (by decide) (by decide)
theorem raw_at{n:Int}(h:n<=2048):FSpec Tryz.prog T 70 [.i .i64 n] (fun d _=>d = .tup []):=by
 refine FSpec.of_ok tok Tryz.func70 rfl Tryz.call70 (by simp) ?_
 (try (conv=>whnf));repeat' (first|refine Ok.seq ?_|((first|refine Ok.region tok ?_|refine Ok.cond ?_|refine Ok.skip ?_);conv=>whnf)|(refine bI ?_ ?_<;>intro<;>(conv=>whnf)<;>(try (exfalso;omega)))|fail)
 refine Or.inl ?_;(conv=>whnf)
 rfl
theorem raw_pan{n:Int}(h:2048<n):PSpec Tryz.prog T 70 [.i .i64 n] passedV:=by
 refine PSpec.of_ok Tryz.func70 rfl Tryz.call70 (by simp) ?_
 refine Ok.seq ?_
 (refine Ok.region tok ?_;conv=>whnf)
 (conv=>whnf)
 refine Ok.cond ?_
 (conv=>whnf)
 refine⟨fun _=>?_,fun h2=>absurd h h2⟩
 refine Ok.region_throw (fun w=>by kernel_rfl) (by kernel_rfl) (by decide) (by decide) ?_
 rfl
theorem sboth_at(l m:List Str){r1 r2 rm1 rm2:List (List D)}(h1:r1=l.map srow)(h2:r2=m.map srow)(hl:l.length<=100000)(hm:m.length<=100000):FSpec Tryz.prog T 75 [.lst 9 r1 rm1,.lst 9 r2 rm2] (fun d rows=>∃ rm,d = .lst 9 ((l++m).map srow) rm/\rows=[]):=by
 subst h1 h2
 have hl1:(l.map srow).length=l.length:=by simp
 have hl2:(m.map srow).length=m.length:=by simp
 refine FSpec.of_ok tok Tryz.func75 rfl Tryz.call75 (by simp) ?_
 (try (conv=>whnf));repeat' (first|refine Ok.seq ?_|((first|refine Ok.region tok ?_|refine Ok.ret ?_|refine Alt2.l (aI ?_)|refine⟨_,_,rfl,rfl,?_⟩|refine aJ ?_);conv=>whnf)|fail)
 refine Or.inl ?_;(conv=>whnf)
 refine⟨[],?_,rfl⟩
 rw[List.take_of_length_le (Nat.le_refl _),List.drop_of_length_le (Nat.le_refl _),List.map_append]
 rfl
set_option maxRecDepth 100000 in
set_option maxHeartbeats 8000000 in
theorem rmeet2_at{n m:Int}{ts us:List Term}(hf:Fine n ts)(hg:Fine m us)(ks ks2:List TR)(rm rm2:List (List D))(h1:ks.map TR.t=ts)(h2:ks2.map TR.t=us) :
    FSpec Tryz.prog T 22 [.agg [.i .i64 n,.lst 120 (ks.map drow) rm],.agg [.i .i64 m,.lst 120 (ks2.map drow) rm2]] (DOut (meetO n m ts us)):=by
 have hfit:=rfit_at n m (.lst 120 (ks.map drow) rm) (.lst 120 (ks2.map drow) rm2) ⟨_,_,_,rfl⟩ ⟨_,_,_,rfl⟩
 have hl1:ks.length=ts.length:=by rw[<- h1,List.length_map]
 have hl2:ks2.length=us.length:=by rw[<- h2,List.length_map]
 have hm1:(ks.map drow).length=ts.length:=by simp[hl1]
 have hm2:(ks2.map drow).length=us.length:=by simp[hl2]
 have hk1:=hf.len
 have hk2:=hg.len
 refine FSpec.of_ok tok Tryz.func22 rfl Tryz.call22 (by simp) ?_
 by_cases hfp:fitP n m
 . have hnm:=hfp.1
   subst hnm
   have hmul:((List.map drow ks).length:Int)*((List.map drow ks2).length:Int)=((ts.length*us.length:Nat):Int):=by rw[hm1,hm2];simp
   have hmb:ts.length*us.length<=128*128:=Nat.mul_le_mul hk1 hk2
   by_cases hraw:ts.length*us.length<=2048
   . rw[meetO_fit hfp hraw]
     (try (conv=>whnf));repeat' (first|refine Ok.seq ?_|((first|refine Ok.region tok ?_|refine Ok.cond ?_);conv=>whnf)|refine Ok.block ?_|((first|refine Ok.skip ?_|refine Ok.ret ?_|refine nI ?_);conv=>whnf)|(refine Or.inl ?_;(conv=>whnf);(repeat (refine aI ?_;conv=>whnf));refine⟨_,hfit,rfl,?_⟩;conv=>whnf)|(refine bI ?_ ?_<;>intro<;>(conv=>whnf)<;>(try (exfalso;omega)))|fail)
     . exact absurd hfp (by assumption)
     refine Ok.ghost 6 120 rfl ?_
     (conv=>whnf)
     refine Ok.loopU [2,3,4] [6,7] 1 3 (fun (x:Nat × List TR)=>[.own 0 x.2.length,.i .i64 (x.1:Nat)]) (fun _ b=>b) (fun (x:Nat × List TR) (_:Vx.Rows)=>[some (120,x.2.map drow)]) (fun (x:Nat × List TR)=>x.1<=ts.length/\x.2.map TR.t=meets (ts.take x.1) us/\x.2.length<=x.1*us.length) (fun (x:Nat × List TR)=>ts.length - x.1) ((0,[])) (⟨Nat.zero_le _,by simp[meets],by simp⟩) ?_;(conv=>whnf);refine⟨by ((conv=>whnf);first|rfl|(simp[envCat,List.take_of_length_le,crow,trow,srow,drow];done)|(simp[envCat,List.take_of_length_le,crow,trow,srow,drow];rw[IntKind.wrap_i64];omega)),?_⟩
     rintro⟨i,l⟩ ⟨hi,hl,hll⟩
     dsimp only at hi hl hll ⊢
     have hlm:(l.map drow).length=l.length:=by simp
     have hib:i*us.length<=128*128:=Nat.mul_le_mul (by omega) hk2
     (conv=>whnf)
     by_cases hil:i<ts.length
     . obtain⟨a,ha⟩:∃ a,ks[i]? = some a:=⟨_,List.getElem?_eq_getElem (by omega)⟩
       have haI:ks[((i:Nat):Int).toNat]? = some a:=ha
       have hat:=tr_get h1 ha
       have hag:=hf.good _ (List.mem_of_getElem? hat)
       have hal:=hf.less (List.mem_of_getElem? hat)
       have hal2:(a.t.less.map srow).length=a.t.less.length:=by simp
       have hsn:=meets_snoc (us:=us) hat
       have hi1:(i+1)*us.length=i*us.length+us.length:=by rw[Nat.add_mul,Nat.one_mul]
       (try (conv=>whnf));repeat' (first|refine Ok.seq ?_|((first|refine Ok.region tok ?_|refine Ok.cond ?_);conv=>whnf)|refine Ok.block ?_|(refine Ok.skip ?_;conv=>whnf)|(refine bI ?_ ?_<;>intro<;>(conv=>whnf)<;>(try (exfalso;omega)))|fail)
       refine Ok.loopU [2,3,4,7] [6,8] 1 3 (fun (x:Nat × List TR)=>[.own 0 x.2.length,.i .i64 (x.1:Nat)]) (fun _ b=>b) (fun (x:Nat × List TR) (_:Vx.Rows)=>[some (120,x.2.map drow)]) (fun (x:Nat × List TR)=>x.1<=us.length/\x.2.map TR.t=meets (ts.take i) us++(us.take x.1).filterMap (meet2 a.t)/\x.2.length<=i*us.length+x.1) (fun (x:Nat × List TR)=>us.length - x.1) ((0,l)) (⟨Nat.zero_le _,by simpa using hl,by simpa using hll⟩) ?_;(conv=>whnf);refine⟨by ((conv=>whnf);first|rfl|(simp[envCat,List.take_of_length_le,crow,trow,srow,drow];done)|(simp[envCat,List.take_of_length_le,crow,trow,srow,drow];rw[IntKind.wrap_i64];omega)),?_⟩
       rintro⟨j,l2⟩ ⟨hj,hl2e,hl2l⟩
       dsimp only at hj hl2e hl2l ⊢
       have hl2m:(l2.map drow).length=l2.length:=by simp
       (conv=>whnf)
       by_cases hjl:j<us.length
       . obtain⟨b,hb⟩:∃ b,ks2[j]? = some b:=⟨_,List.getElem?_eq_getElem (by omega)⟩
         have hbI:ks2[((j:Nat):Int).toNat]? = some b:=hb
         have hbt:=tr_get h2 hb
         have hbg:=hg.good _ (List.mem_of_getElem? hbt)
         have hbl:=hg.less (List.mem_of_getElem? hbt)
         have hbl2:(b.t.less.map srow).length=b.t.less.length:=by simp
         have hal3:=hag.p.1.len
         have hsp:=rmeet_at a.t.p b.t.p (by omega)
         cases hm:meetT a.t.p b.t.p with
         | none=>
          have hno:meet2 a.t b.t=none:=by unfold meet2;rw[hm];rfl
          rw[hm] at hsp
          (try (conv=>whnf));repeat' (first|refine Ok.seq ?_|((first|refine Ok.region tok ?_|refine Ok.region_plan (id:=12) tok follows [(1,12,[5,4,3]),(5,12,[]),(7,12,[11,10,9]),(11,12,[])] [.q 0,.q 1,.q 2,.q 3,.q 4,.q 5,.q 6,.q 7,.q 8,.q 9,.q 10,.q 11,.l 12,.q 13,.q 14,.q 15,.q 16,.q 17] (by kernel_rfl) ?_|refine Ok.region_tree (id:=14) tok follows [(2,13,[6,5,4]),(6,13,[]),(8,13,[12,11,10]),(12,13,[]),(2,14,[13,6,5,4]),(6,14,[13]),(8,14,[13,12,11,10]),(12,14,[13]),(13,14,[]),(2,19,[]),(6,19,[]),(8,19,[]),(12,19,[]),(13,19,[]),(14,19,[]),(18,19,[])] (.q 0 (.q 1 (.q 2 (.q 3 (.q 4 (.q 5 (.q 6 (.q 7 (.q 8 (.q 9 (.q 10 (.q 11 (.q 12 (.alt 13 (.alt 14 (.q 15 (.q 16 (.q 17 (.l 18 (.l 19 (.q 20 .nil)))))) (.alt 18 (.l 14 (.q 15 (.q 16 (.q 17 (.l 19 (.q 20 .nil)))))) .nil)) (.alt 18 (.l 13 (.l 14 (.q 15 (.q 16 (.q 17 (.l 19 (.q 20 .nil))))))) .nil))))))))))))))) (by kernel_rfl) ?_|refine Ok.cond ?_);conv=>whnf)|refine Ok.block ?_|((first|refine Ok.skip ?_|refine Ok.exit ?_|refine nI ?_|refine ix _ (by assumption) ?_);conv=>whnf)|(refine Or.inr (Or.inl ?_);(conv=>whnf);(repeat (refine aI ?_;conv=>whnf));refine⟨_,hsp,?_⟩;rintro _ _ ⟨rfl,rfl⟩<;>(conv=>whnf))|(refine bI ?_ ?_<;>intro<;>(conv=>whnf)<;>(try (exfalso;omega)))|(exact True.intro)|(refine And.intro ?_ ?_<;>(conv=>whnf))|fail)
          . refine⟨(j+1,l2),by dsimp only;omega,⟨by dsimp only;omega,by dsimp only;rw[fm_none hbt hno];exact hl2e,by dsimp only;omega⟩,?_⟩
            (conv=>whnf)
            rfl
          all_goals (rename_i h;exact absurd (fun q=>by cases q) h)
         | some p=>
          rw[hm] at hsp
          have hmc:=meetT_ct hm hag.p.1 hbg.p.1
          have hpn:p ≠ []:=fun e=>hmc.2.2 (List.eq_nil_of_length_eq_zero (by rw[<- hmc.2.1,e];rfl))
          have hwide:∀ x ∈ a.t.less++b.t.less,x.length<=256:=fun x hx=>(List.mem_append.1 hx).elim (fun h=>(hag.less x h).1.len) (fun h=>(hbg.less x h).1.len)
          have hbo:=sboth_at a.t.less b.t.less (rm1:=a.room) (rm2:=b.room) rfl rfl (by omega) (by omega)
          have hm2:meet2 a.t b.t=termT p (a.t.less++b.t.less):=by unfold meet2;rw[hm];rfl
          (try (conv=>whnf));repeat' (first|refine Ok.seq ?_|((first|refine Ok.region tok ?_|refine Ok.region_plan (id:=12) tok follows [(1,12,[5,4,3]),(5,12,[]),(7,12,[11,10,9]),(11,12,[])] [.q 0,.q 1,.q 2,.q 3,.q 4,.q 5,.q 6,.q 7,.q 8,.q 9,.q 10,.q 11,.l 12,.q 13,.q 14,.q 15,.q 16,.q 17] (by kernel_rfl) ?_|refine Ok.region_tree (id:=14) tok follows [(2,13,[6,5,4]),(6,13,[]),(8,13,[12,11,10]),(12,13,[]),(2,14,[13,6,5,4]),(6,14,[13]),(8,14,[13,12,11,10]),(12,14,[13]),(13,14,[]),(2,19,[]),(6,19,[]),(8,19,[]),(12,19,[]),(13,19,[]),(14,19,[]),(18,19,[])] (.q 0 (.q 1 (.q 2 (.q 3 (.q 4 (.q 5 (.q 6 (.q 7 (.q 8 (.q 9 (.q 10 (.q 11 (.q 12 (.alt 13 (.alt 14 (.q 15 (.q 16 (.q 17 (.l 18 (.l 19 (.q 20 .nil)))))) (.alt 18 (.l 14 (.q 15 (.q 16 (.q 17 (.l 19 (.q 20 .nil)))))) .nil)) (.alt 18 (.l 13 (.l 14 (.q 15 (.q 16 (.q 17 (.l 19 (.q 20 .nil))))))) .nil))))))))))))))) (by kernel_rfl) ?_|refine Ok.cond ?_);conv=>whnf)|refine Ok.block ?_|((first|refine Ok.skip ?_|refine Ok.exit ?_|refine nI ?_|refine ix _ (by assumption) ?_);conv=>whnf)|(refine Or.inr (Or.inl ?_);(conv=>whnf);(repeat (refine aI ?_;conv=>whnf));refine⟨_,hsp,?_⟩;rintro _ _ ⟨rfl,rfl⟩<;>(conv=>whnf))|(refine Or.inr (Or.inl ?_);(conv=>whnf);(repeat (refine aI ?_;conv=>whnf));refine⟨_,hbo , ?_⟩;rintro _ _ ⟨rm3,rfl,rfl⟩<;>(conv=>whnf))|(refine Or.inr (Or.inl ?_);(conv=>whnf);(repeat (refine aI ?_;conv=>whnf));refine⟨_,rterm_at p (a.t.less++b.t.less) hpn hmc.1.len (by simp;omega) hwide rfl , ?_⟩;rintro _ _ ⟨rfl,(⟨ht,rfl⟩|⟨t,rm4,ht,rfl⟩)⟩<;>(conv=>whnf))|((first|refine Alt2.l (aI ?_)|refine⟨_,.inl ⟨rfl,rfl⟩,?_⟩|refine⟨_,_,rfl,rfl,?_⟩);conv=>whnf)|(refine bI ?_ ?_<;>intro<;>(conv=>whnf)<;>(try (exfalso;omega)))|(refine aJ ?_;conv=>whnf)|(exact True.intro)|(refine And.intro ?_ ?_<;>(conv=>whnf))|fail)
          all_goals first
           | (rename_i h;exact absurd rfl h)
           | (rename_i h;exact absurd trivial h)
           | (refine⟨(j+1,l2),by dsimp only;omega,⟨by dsimp only;omega,by dsimp only;rw[fm_none hbt (hm2.trans ht)];exact hl2e,by dsimp only;omega⟩,?_⟩
              (conv=>whnf)
              rfl)
           | (refine⟨(j+1,l2++[⟨t,rm4⟩]),by dsimp only;omega,⟨by dsimp only;omega,by dsimp only;rw[fm_some hbt (hm2.trans ht),List.map_append,hl2e,List.append_assoc];rfl,by simp;omega⟩,?_⟩
              (conv=>whnf)
              simp[envCat])
       . have hje:j=us.length:=by omega
         subst hje
         rw[List.take_length] at hl2e
         (try (conv=>whnf));repeat' (first|refine Ok.seq ?_|((first|refine Ok.region tok ?_|refine Ok.cond ?_|refine Ok.exit ?_|refine nI ?_);conv=>whnf)|(refine bI ?_ ?_<;>intro<;>(conv=>whnf)<;>(try (exfalso;omega)))|fail)
         refine⟨(i+1,l2),by dsimp only;omega,⟨by dsimp only;omega,by dsimp only;rw[hsn];exact hl2e,by dsimp only;omega⟩,?_⟩
         (conv=>whnf)
         rfl
     . have hie:i=ts.length:=by omega
       subst hie
       rw[List.take_length] at hl
       have hgood:=meets_good hf.good hg.good
       have hlb:=meets_less (fun t ht=>hf.less ht) (fun t ht=>hg.less ht)
       have hle:∀ x ∈ l,x.t.less.length<=1048576:=fun x hx=>Nat.le_trans (hlb _ (mem_of_map hl hx)) (by decide)
       have hrn:∀ x ∈ l,RN2 x/\x.t.Ok n.toNat:=fun x hx=>(hgood _ (mem_of_map hl hx)).rn (hle x hx)
       have htk:List.take l.length (l.map drow)=l.map drow:=List.take_of_length_le (by simp)
       have hln:(l.map TR.t).length<=1048576:=by simp;omega
       rw[<- hl]
       (try (conv=>whnf));repeat' (first|refine Ok.seq ?_|((first|refine Ok.region tok ?_|refine Ok.cond ?_|refine Ok.exit ?_|refine Ok.ret ?_);conv=>whnf)|(refine Or.inr (Or.inl ?_);(conv=>whnf);(repeat (refine aI ?_;conv=>whnf));refine⟨_,rform_at n n.toNat l (by omega) hrn htk , ?_⟩;rintro _ _ ⟨ks3,rm3,rfl,rfl,hks3,hkm⟩<;>(conv=>whnf))|(refine Or.inr (Or.inl ?_);(conv=>whnf);(repeat (refine aI ?_;conv=>whnf));refine⟨_,rbound_at n ks3 (form_len hks3 hln) (fun x hx=>hle x (hkm x hx)) rfl , ?_⟩;rintro _ _ ⟨rfl,(⟨hb,rfl⟩|⟨hb,rfl⟩)⟩<;>(conv=>whnf))|(refine bI ?_ ?_<;>intro<;>(conv=>whnf)<;>(try (exfalso;omega)))|fail)
       . refine Or.inl ?_;(conv=>whnf)
         exact DOut.form hks3 hb
       . refine Or.inl ?_;(conv=>whnf)
         exact DOut.many hks3 hb
   . rw[meetO_raw hfp hraw]
     (try (conv=>whnf));repeat' (first|refine Ok.seq ?_|((first|refine Ok.region tok ?_|refine Ok.cond ?_|refine Ok.skip ?_|refine Ok.ret ?_|refine nI ?_);conv=>whnf)|(refine Or.inl ?_;(conv=>whnf);(repeat (refine aI ?_;conv=>whnf));refine⟨_,hfit,rfl,?_⟩;conv=>whnf)|(refine bI ?_ ?_<;>intro<;>(conv=>whnf)<;>(try (exfalso;omega)))|fail)
     . exact absurd hfp (by assumption)
     . refine Or.inl ?_;(conv=>whnf)
       exact⟨rfl,_,rfl,DSp.nil 0⟩
 . rw[meetO_not hfp]
   (try (conv=>whnf));repeat' (first|refine Ok.seq ?_|((first|refine Ok.region tok ?_|refine Ok.cond ?_);conv=>whnf)|refine Ok.block ?_|((first|refine Ok.skip ?_|refine Ok.ret ?_);conv=>whnf)|(refine Or.inl ?_;(conv=>whnf);(repeat (refine aI ?_;conv=>whnf));refine⟨_,hfit,rfl,?_⟩;conv=>whnf)|(refine bI ?_ ?_<;>intro<;>(conv=>whnf)<;>(try (exfalso;omega)))|(refine num_any ?_;conv=>whnf)|fail)
   . refine Or.inl ?_;(conv=>whnf)
     exact⟨rfl,_,rfl,DSp.nil 0⟩
   all_goals exact absurd hfp (by assumption)
end Go.Proofs.YtaiondckookpiaaGreatDoor
namespace Go.Proofs.YtaiondckookpiaaGreatDoor
open Go Go.Vx
set_option maxRecDepth 100000 in
set_option maxHeartbeats 8000000 in
theorem meet2_at{n m:Int}{ts us:List Term}(hf:Fine n ts)(hg:Fine m us)(ks ks2:List TR)(rm rm2:List (List D))(h1:ks.map TR.t=ts)(h2:ks2.map TR.t=us) :
    FSpec Tryz.prog T 21 [.agg [.i .i64 n,.lst 112 (ks.map trow) rm],.agg [.i .i64 m,.lst 112 (ks2.map trow) rm2]] (POut (meetO n m ts us)):=by
 have hfit:=fits2_at n m
 have hl1:ks.length=ts.length:=by rw[<- h1,List.length_map]
 have hl2:ks2.length=us.length:=by rw[<- h2,List.length_map]
 have hm1:(ks.map trow).length=ts.length:=by simp[hl1]
 have hm2:(ks2.map trow).length=us.length:=by simp[hl2]
 have hk1:=hf.len
 have hk2:=hg.len
 refine FSpec.of_deferK 3 tok Tryz.func21 rfl Tryz.call21 (by simp) def_meet (zd1:=[.i .i64 0,.nilS]) (zd2:=[.i .i64 3]) rfl rfl (by simp[Value.oneCell']) (by simp[Value.oneCell']) rfl ?_
 by_cases hfp:fitP n m
 . have hnm:=hfp.1
   subst hnm
   have hmul:((List.map trow ks).length:Int)*((List.map trow ks2).length:Int)=((ts.length*us.length:Nat):Int):=by rw[hm1,hm2];simp
   have hmb:ts.length*us.length<=128*128:=Nat.mul_le_mul hk1 hk2
   (try (conv=>whnf));repeat' (first|refine Ok.seq ?_|refine OkL.cons ?_|((first|refine Ok.region tok ?_|refine Ok.cond ?_|refine Ok.skip ?_|refine Ok.ret ?_);conv=>whnf)|(refine Or.inl ?_;(conv=>whnf);(repeat (refine aI ?_;conv=>whnf));refine⟨_,hfit,rfl,?_⟩;conv=>whnf)|(refine bI ?_ ?_<;>intro<;>(conv=>whnf)<;>(try (exfalso;omega)))|fail)
   . exact absurd hfp (by assumption)
   refine OkL.nil ?_
   (conv=>whnf)
   refine⟨2,3,rfl,rfl,by decide,by decide,by decide,rfl,?_⟩
   by_cases hraw:ts.length*us.length<=2048
   . rw[meetO_fit hfp hraw]
     (try (conv=>whnf));repeat' (first|refine OkL.cons ?_|(refine Ok.region tok ?_;conv=>whnf)|refine Ok.block ?_|(refine nI ?_;conv=>whnf)|(refine Or.inl ?_;(conv=>whnf);(repeat (refine aI ?_;conv=>whnf));refine⟨_,raw_at (n:=((List.map trow ks).length:Int)*((List.map trow ks2).length:Int)) (by rw[hmul];omega),rfl,?_⟩;conv=>whnf)|fail)
     refine Ok.ghost 6 112 rfl ?_
     (conv=>whnf)
     refine Ok.loopU [2,3,4,5,32,33,75,76] [6,34] 1 4 (fun (x:Nat × List TR)=>[.own 0 x.2.length,.i .i64 (x.1:Nat)]) (fun _ b=>b) (fun (x:Nat × List TR) (_:Vx.Rows)=>[some (112,x.2.map trow)]) (fun (x:Nat × List TR)=>x.1<=ts.length/\x.2.map TR.t=meets (ts.take x.1) us/\x.2.length<=x.1*us.length) (fun (x:Nat × List TR)=>ts.length - x.1) ((0,[])) (⟨Nat.zero_le _,by simp[meets],by simp⟩) ?_;(conv=>whnf);refine⟨by ((conv=>whnf);first|rfl|(simp[envCat,List.take_of_length_le,crow,trow,srow,drow];done)|(simp[envCat,List.take_of_length_le,crow,trow,srow,drow];rw[IntKind.wrap_i64];omega)),?_⟩
     rintro⟨i,l⟩ ⟨hi,hl,hll⟩
     dsimp only at hi hl hll ⊢
     have hlm:(l.map trow).length=l.length:=by simp
     have hib:i*us.length<=128*128:=Nat.mul_le_mul (by omega) hk2
     (conv=>whnf)
     by_cases hil:i<ts.length
     . obtain⟨a,ha⟩:∃ a,ks[i]? = some a:=⟨_,List.getElem?_eq_getElem (by omega)⟩
       have haI:ks[((i:Nat):Int).toNat]? = some a:=ha
       have hat:=tr_get h1 ha
       have hag:=hf.good _ (List.mem_of_getElem? hat)
       have hal:=hf.less (List.mem_of_getElem? hat)
       have hal2:(a.t.less.map crow).length=a.t.less.length:=by simp
       have hsn:=meets_snoc (us:=us) hat
       have hi1:(i+1)*us.length=i*us.length+us.length:=by rw[Nat.add_mul,Nat.one_mul]
       (try (conv=>whnf));repeat' (first|refine Ok.seq ?_|((first|refine Ok.region tok ?_|refine Ok.cond ?_);conv=>whnf)|refine Ok.block ?_|((first|refine Ok.skip ?_|refine ix _ (by assumption) ?_);conv=>whnf)|(refine bI ?_ ?_<;>intro<;>(conv=>whnf)<;>(try (exfalso;omega)))|fail)
       refine Ok.loopU [2,3,4,5,8,32,33,34,39,40,75,76] [6,41] 1 5 (fun (x:Nat × List TR)=>[.own 0 x.2.length,.i .i64 (x.1:Nat)]) (fun _ b=>b) (fun (x:Nat × List TR) (_:Vx.Rows)=>[some (112,x.2.map trow)]) (fun (x:Nat × List TR)=>x.1<=us.length/\x.2.map TR.t=meets (ts.take i) us++(us.take x.1).filterMap (meet2 a.t)/\x.2.length<=i*us.length+x.1) (fun (x:Nat × List TR)=>us.length - x.1) ((0,l)) (⟨Nat.zero_le _,by simpa using hl,by simpa using hll⟩) ?_;(conv=>whnf);refine⟨by ((conv=>whnf);first|rfl|(simp[envCat,List.take_of_length_le,crow,trow,srow,drow];done)|(simp[envCat,List.take_of_length_le,crow,trow,srow,drow];rw[IntKind.wrap_i64];omega)),?_⟩
       rintro⟨j,l2⟩ ⟨hj,hl2e,hl2l⟩
       dsimp only at hj hl2e hl2l ⊢
       have hl2m:(l2.map trow).length=l2.length:=by simp
       (conv=>whnf)
       by_cases hjl:j<us.length
       . obtain⟨b,hb⟩:∃ b,ks2[j]? = some b:=⟨_,List.getElem?_eq_getElem (by omega)⟩
         have hbI:ks2[((j:Nat):Int).toNat]? = some b:=hb
         have hbt:=tr_get h2 hb
         have hbg:=hg.good _ (List.mem_of_getElem? hbt)
         have hbl:=hg.less (List.mem_of_getElem? hbt)
         have hbl2:(b.t.less.map crow).length=b.t.less.length:=by simp
         have hsp:=meet_at a.t.p b.t.p hag.p.1 hbg.p.1
         cases hm:meetT a.t.p b.t.p with
         | none=>
          have hno:meet2 a.t b.t=none:=by unfold meet2;rw[hm];rfl
          rw[hm] at hsp
          (try (conv=>whnf));repeat' (first|refine Ok.seq ?_|((first|refine Ok.region tok ?_|refine Ok.cond ?_);conv=>whnf)|refine Ok.block ?_|((first|refine Ok.skip ?_|refine nI ?_|refine ix _ (by assumption) ?_);conv=>whnf)|(refine Or.inr (Or.inl ?_);(conv=>whnf);(repeat (refine aI ?_;conv=>whnf));refine⟨_,hsp,?_⟩;rintro _ _ ⟨rfl,rfl⟩<;>(conv=>whnf))|(refine bI ?_ ?_<;>intro<;>(conv=>whnf)<;>(try (exfalso;omega)))|fail)
          . rename_i h
            cases h
          . refine⟨(j+1,l2),by dsimp only;omega,⟨by dsimp only;omega,by dsimp only;rw[fm_none hbt hno];exact hl2e,by dsimp only;omega⟩,?_⟩
            (conv=>whnf)
            rfl
         | some p=>
          rw[hm] at hsp
          have hmc:=meetT_ct hm hag.p.1 hbg.p.1
          have hpn:p ≠ []:=fun e=>hmc.2.2 (List.eq_nil_of_length_eq_zero (by rw[<- hmc.2.1,e];rfl))
          have hm2:meet2 a.t b.t=termT p (a.t.less++b.t.less):=by unfold meet2;rw[hm];rfl
          have hnew:∀ room,FSpec Tryz.prog T 72 [.agg (crow p),.lst 58 (List.map lrow [⟨a.t.less,a.room⟩,⟨b.t.less,b.room⟩]) room] (NewT p (a.t.less++b.t.less)):=fun room=>by
           have:=newTerm_at p [⟨a.t.less,a.room⟩,⟨b.t.less,b.room⟩] (room:=room) ⟨hmc.1,hpn⟩ (by
            intro x hx m hm
            simp at hx
            rcases hx with rfl|rfl
            . exact (hag.less m hm).1
            . exact (hbg.less m hm).1) (by simp[allL];omega) (by simp) rfl
           rwa [show allL [⟨a.t.less,a.room⟩,⟨b.t.less,b.room⟩]=a.t.less++b.t.less by simp[allL]] at this
          (try (conv=>whnf));repeat' (first|refine Ok.seq ?_|((first|refine Ok.region tok ?_|refine Ok.cond ?_);conv=>whnf)|refine Ok.block ?_|((first|refine Ok.skip ?_|refine nI ?_|refine ix _ (by assumption) ?_);conv=>whnf)|(refine Or.inr (Or.inl ?_);(conv=>whnf);(repeat (refine aI ?_;conv=>whnf));refine⟨_,hsp,?_⟩;rintro _ _ ⟨rfl,rfl⟩<;>(conv=>whnf))|(refine Or.inr (Or.inl ?_);(conv=>whnf);(repeat (refine aI ?_;conv=>whnf));refine⟨_,hnew _ , ?_⟩;rintro _ _ ⟨rfl,(⟨ht,rfl⟩|⟨t,rm4,ht,rfl⟩)⟩<;>(conv=>whnf))|((first|refine Alt2.l (aI ?_)|refine⟨_,.inl ⟨rfl,rfl⟩,?_⟩|refine⟨_,_,rfl,rfl,?_⟩);conv=>whnf)|(refine bI ?_ ?_<;>intro<;>(conv=>whnf)<;>(try (exfalso;omega)))|(refine aJ ?_;conv=>whnf)|fail)
          all_goals first
           | (rename_i h;exact absurd rfl h)
           | (rename_i h;exact absurd trivial h)
           | (refine⟨(j+1,l2),by dsimp only;omega,⟨by dsimp only;omega,by dsimp only;rw[fm_none hbt (hm2.trans ht)];exact hl2e,by dsimp only;omega⟩,?_⟩
              (conv=>whnf)
              rfl)
           | (refine⟨(j+1,l2++[⟨t,rm4⟩]),by dsimp only;omega,⟨by dsimp only;omega,by dsimp only;rw[fm_some hbt (hm2.trans ht),List.map_append,hl2e,List.append_assoc];rfl,by simp;omega⟩,?_⟩
              (conv=>whnf)
              simp[envCat])
       . have hje:j=us.length:=by omega
         subst hje
         rw[List.take_length] at hl2e
         (try (conv=>whnf));repeat' (first|refine Ok.seq ?_|((first|refine Ok.region tok ?_|refine Ok.cond ?_|refine Ok.exit ?_|refine nI ?_);conv=>whnf)|(refine bI ?_ ?_<;>intro<;>(conv=>whnf)<;>(try (exfalso;omega)))|fail)
         refine⟨(i+1,l2),by dsimp only;omega,⟨by dsimp only;omega,by dsimp only;rw[hsn];exact hl2e,by dsimp only;omega⟩,?_⟩
         (conv=>whnf)
         rfl
     . have hie:i=ts.length:=by omega
       subst hie
       rw[List.take_length] at hl
       have hgood:=meets_good hf.good hg.good
       have hlb:=meets_less (fun t ht=>hf.less ht) (fun t ht=>hg.less ht)
       have hle:∀ x ∈ l,x.t.less.length<=1048576:=fun x hx=>Nat.le_trans (hlb _ (mem_of_map hl hx)) (by decide)
       have hto:∀ x ∈ l,TO n.toNat x:=fun x hx=>(hgood _ (mem_of_map hl hx)).to (hle x hx)
       have htk:List.take l.length (l.map trow)=l.map trow:=List.take_of_length_le (by simp)
       have hln:l.length<=1048576:=by omega
       rw[<- hl]
       by_cases hsz:szT (formT (l.map TR.t))<=128
       . rw[bndO_le hsz]
         (try (conv=>whnf));repeat' (first|refine Ok.seq ?_|refine OkL.cons ?_|((first|refine Ok.region tok ?_|refine Ok.cond ?_|refine Ok.exit ?_|refine Ok.ret ?_);conv=>whnf)|(refine Or.inr (Or.inl ?_);(conv=>whnf);(repeat (refine aI ?_;conv=>whnf));refine⟨_,form_at n n.toNat l hln hto htk hsz , ?_⟩;rintro _ _ ⟨ks3,rm3,rfl,rfl,hks3,hkm⟩<;>(conv=>whnf))|(refine bI ?_ ?_<;>intro<;>(conv=>whnf)<;>(try (exfalso;omega)))|fail)
         refine Or.inl ?_;(conv=>whnf)
         exact⟨rfl,_,rfl,ks3,rm3,rfl,hks3⟩
       . rw[bndO_gt (by omega)]
         (try (conv=>whnf));repeat' (first|(refine Ok.region_pan (id:=19) tok 3 ?_;conv=>whnf)|refine Ok.seq ?_|refine OkL.cons ?_|((first|refine Ok.region tok ?_|refine Ok.cond ?_|refine Ok.exit ?_);conv=>whnf)|(refine bI ?_ ?_<;>intro<;>(conv=>whnf)<;>(try (exfalso;omega)))|(refine aJ ?_;conv=>whnf)|fail)
         refine⟨_,form_pan n n.toNat l hln hto htk (by omega),?_⟩
         (conv=>whnf)
         refine⟨rfl,2,3,_,_,rfl,rfl,rfl,rfl,rfl,rfl,by decide,rfl,?_⟩
         (conv=>whnf)
         refine Or.inl ?_;(conv=>whnf)
         exact⟨rfl,_,rfl,PSp.nil 0⟩
   . rw[meetO_raw hfp hraw]
     refine OkL.cons ?_
     refine Ok.region_pan tok 7 ?_
     (conv=>whnf)
     (try (conv=>whnf));repeat' (first|(refine nI ?_;conv=>whnf)|fail)
     refine⟨_,raw_pan (by rw[hmul];omega),?_⟩
     (conv=>whnf)
     refine⟨rfl,2,3,_,_,rfl,rfl,rfl,rfl,rfl,rfl,by decide,rfl,?_⟩
     (conv=>whnf)
     refine Or.inl ?_;(conv=>whnf)
     exact⟨rfl,_,rfl,PSp.nil 0⟩
 . rw[meetO_not hfp]
   (try (conv=>whnf));repeat' (first|refine Ok.seq ?_|refine OkL.cons ?_|((first|refine Ok.region tok ?_|refine Ok.cond ?_|refine Ok.skip ?_|refine Ok.ret ?_);conv=>whnf)|(refine Or.inl ?_;(conv=>whnf);(repeat (refine aI ?_;conv=>whnf));refine⟨_,hfit,rfl,?_⟩;conv=>whnf)|(refine bI ?_ ?_<;>intro<;>(conv=>whnf)<;>(try (exfalso;omega)))|fail)
   . refine Or.inl ?_;(conv=>whnf)
     exact⟨rfl,_,rfl,PSp.nil 0⟩
   . rename_i h
     exact absurd hfp h
end Go.Proofs.YtaiondckookpiaaGreatDoor
namespace Go.Proofs.YtaiondckookpiaaGreatDoor
open Go Go.Vx
theorem opt_some{o:Option Term}(h:o.isSome=true):o=some (o.getD ⟨[],[]⟩):=by
 cases o with
 | none=>cases h
 | some t=>rfl
theorem opt_none{o:Option Term}(h:¬ o.isSome=true):o=none:=by
 cases o with
 | none=>rfl
 | some t=>exact absurd rfl h
theorem newTerm1_at(p:Str)(lss:List LR){rl room:List (List D)}(hp:CN p)(hok:∀ x ∈ lss,∀ m ∈ x.l,CT m)(hn:(allL lss).length<=100000)(h1:lss.length<=100000)(h:rl=lss.map lrow) :
    FSpec Tryz.prog T 72 [.agg (crow p),.lst 58 rl room] (fun d rows=>∃ rm,d = .tup [.agg (trow ⟨(termT p (allL lss)).getD ⟨[],[]⟩,rm⟩),.b ((termT p (allL lss)).isSome=true)]/\rows=[]):=by
 refine FSpec.mono (newTerm_at p lss hp hok hn h1 h) ?_
 rintro d rows ⟨rfl,⟨ht,rfl⟩|⟨t,rm,ht,rfl⟩⟩
 . refine⟨[],?_,rfl⟩
   rw[ht]
   simp
 . refine⟨rm,?_,rfl⟩
   rw[ht]
   simp
theorem rterm1_at(p:Str)(less:List Str){rl rm:List (List D)}(hp:p ≠ [])(hpl:p.length<=256)(hl:less.length<=100000)(hok:∀ m ∈ less,m.length<=256)(h:rl=less.map srow) :
    FSpec Tryz.prog T 74 [.s p,.lst 9 rl rm] (fun d rows=>∃ rm,d = .tup [.agg (drow ⟨(termT p less).getD ⟨[],[]⟩,rm⟩),.b ((termT p less).isSome=true)]/\rows=[]):=by
 refine FSpec.mono (rterm_at p less hp hpl hl hok h) ?_
 rintro d rows ⟨rfl,⟨ht,rfl⟩|⟨t,rm,ht,rfl⟩⟩
 . refine⟨[],?_,rfl⟩
   rw[ht]
   simp
 . refine⟨rm,?_,rfl⟩
   rw[ht]
   simp
noncomputable def wout1(a u:Term):Option Term:=termT a.p (a.less++[u.p])
noncomputable def wout2(a:Term)(m:Str):Option Term:=(meetT a.p m).bind fun p=>termT p a.less
noncomputable def wouts(ts:List Term)(u:Term):List Term:=ts.flatMap fun a=>(wout1 a u).toList++u.less.filterMap (wout2 a)
noncomputable def withoutO(n:Int)(ts:List Term)(u:Term):Int × Int × List Term:=if ts.length*(1+u.less.length)<=2048 then bndO n (formT (wouts ts u)) else (3,0,[])
theorem wout1_good{n:Nat}{a u t:Term}(ha:GoodT n a)(hu:GoodT n u)(h:wout1 a u=some t):GoodT n t:=
 (termT_good ha.p ha.len (fun m hm=>(List.mem_append.1 hm).elim (fun h=>(ha.less m h).1) (fun h=>by simp at h;rw[h];exact hu.p.1)) h).1
theorem wout2_good{n:Nat}{a t:Term}{m:Str}(ha:GoodT n a)(hm:CN m)(h:wout2 a m=some t):GoodT n t:=by
 unfold wout2 at h
 obtain⟨p,hp,ht⟩:=Option.bind_eq_some_iff.1 h
 have hc:=meetT_ct hp ha.p.1 hm.1
 exact (termT_good ⟨hc.1,fun e=>hc.2.2 (List.eq_nil_of_length_eq_zero (by rw[<- hc.2.1,e];rfl))⟩ (by rw[hc.2.1,ha.len]) (fun x hx=>(ha.less x hx).1) ht).1
theorem wouts_good{n:Nat}{ts:List Term}{u:Term}(h1:∀ t ∈ ts,GoodT n t)(h2:GoodT n u):∀ t ∈ wouts ts u,GoodT n t:=by
 intro t ht
 obtain⟨a,ha,h⟩:=List.mem_flatMap.1 ht
 rcases List.mem_append.1 h with h|h
 . exact wout1_good (h1 a ha) h2 (Option.mem_toList.1 h)
 . obtain⟨m,hm,h⟩:=List.mem_filterMap.1 h
   exact wout2_good (h1 a ha) (h2.less m hm) h
theorem wouts_less{ts:List Term}{u:Term}{k:Nat}(h1:∀ t ∈ ts,t.less.length<=k):∀ t ∈ wouts ts u,t.less.length<=k+1:=by
 intro t ht
 obtain⟨a,ha,h⟩:=List.mem_flatMap.1 ht
 rcases List.mem_append.1 h with h|h
 . have:=termT_sz (Option.mem_toList.1 h)
   have:=h1 a ha
   rw[List.length_append] at *
   simp at *
   omega
 . obtain⟨m,hm,h⟩:=List.mem_filterMap.1 h
   unfold wout2 at h
   obtain⟨p,hp,ht⟩:=Option.bind_eq_some_iff.1 h
   have:=termT_sz ht
   have:=h1 a ha
   omega
theorem wouts_snoc{ts:List Term}{u:Term}{i:Nat}{a:Term}(h:ts[i]? = some a):wouts (ts.take (i+1)) u=wouts (ts.take i) u++((wout1 a u).toList++u.less.filterMap (wout2 a)):=by
 unfold wouts
 rw[take_snoc h,List.flatMap_append]
 simp
theorem withoutO_ok{n:Int}{ts:List Term}{u:Term}(h:ts.length*(1+u.less.length)<=2048):withoutO n ts u=bndO n (formT (wouts ts u)):=if_pos h
theorem withoutO_raw{n:Int}{ts:List Term}{u:Term}(h:¬ ts.length*(1+u.less.length)<=2048):withoutO n ts u=(3,0,[]):=if_neg h
set_option maxRecDepth 100000 in
set_option maxHeartbeats 8000000 in
theorem rwithout_at{n:Int}{ts:List Term}(hf:Fine n ts)(u:TR)(hu:GoodT n.toNat u.t)(hul:u.t.less.length<=127)(ks:List TR)(rm:List (List D))(h1:ks.map TR.t=ts) :
    FSpec Tryz.prog T 81 [.agg [.i .i64 n,.lst 120 (ks.map drow) rm],.agg (drow u)] (DOut (withoutO n ts u.t)):=by
 have hl1:ks.length=ts.length:=by rw[<- h1,List.length_map]
 have hm1:(ks.map drow).length=ts.length:=by simp[hl1]
 have hm2:(u.t.less.map srow).length=u.t.less.length:=by simp
 have hk1:=hf.len
 have hmul:((List.map drow ks).length:Int)*(1+((List.map srow u.t.less).length:Int))=((ts.length*(1+u.t.less.length):Nat):Int):=by rw[hm1,hm2];simp
 have hmb:ts.length*(1+u.t.less.length)<=128*128:=Nat.mul_le_mul hk1 (by omega)
 refine FSpec.of_ok tok Tryz.func81 rfl Tryz.call81 (by simp) ?_
 by_cases hraw:ts.length*(1+u.t.less.length)<=2048
 . rw[withoutO_ok hraw]
   (try (conv=>whnf));repeat' (first|refine Ok.seq ?_|((first|refine Ok.region tok ?_|refine Ok.cond ?_);conv=>whnf)|refine Ok.block ?_|((first|refine Ok.skip ?_|refine nI ?_);conv=>whnf)|(refine bI ?_ ?_<;>intro<;>(conv=>whnf)<;>(try (exfalso;omega)))|fail)
   refine Ok.ghost 6 120 rfl ?_
   (conv=>whnf)
   refine Ok.loopU [2,3,4] [6,7] 1 3 (fun (x:Nat × List TR)=>[.own 0 x.2.length,.i .i64 (x.1:Nat)]) (fun _ b=>b) (fun (x:Nat × List TR) (_:Vx.Rows)=>[some (120,x.2.map drow)]) (fun (x:Nat × List TR)=>x.1<=ts.length/\x.2.map TR.t=wouts (ts.take x.1) u.t/\x.2.length<=x.1*128) (fun (x:Nat × List TR)=>ts.length - x.1) ((0,[])) (⟨Nat.zero_le _,by simp[wouts],by simp⟩) ?_;(conv=>whnf);refine⟨by ((conv=>whnf);first|rfl|(simp[envCat,List.take_of_length_le,crow,trow,srow,drow];done)|(simp[envCat,List.take_of_length_le,crow,trow,srow,drow];rw[IntKind.wrap_i64];omega)),?_⟩
   rintro⟨i,l⟩ ⟨hi,hl,hll⟩
   dsimp only at hi hl hll ⊢
   have hlm:(l.map drow).length=l.length:=by simp
   (conv=>whnf)
   by_cases hil:i<ts.length
   . obtain⟨a,ha⟩:∃ a,ks[i]? = some a:=⟨_,List.getElem?_eq_getElem (by omega)⟩
     have haI:ks[((i:Nat):Int).toNat]? = some a:=ha
     have hat:=tr_get h1 ha
     have hag:=hf.good _ (List.mem_of_getElem? hat)
     have hal:=hf.less (List.mem_of_getElem? hat)
     have hal2:(a.t.less.map srow).length=a.t.less.length:=by simp
     have hsn:=wouts_snoc (u:=u.t) hat
     have hbo:=sboth_at a.t.less [u.t.p] (rm1:=a.room) (rm2:=[]) (r2:=[[.s u.t.p]]) rfl rfl (by omega) (by simp)
     have hw1:∀ m ∈ a.t.less++[u.t.p],m.length<=256:=fun m hm=>(List.mem_append.1 hm).elim (fun h=>(hag.less m h).1.len) (fun h=>by simp at h;rw[h];exact hu.p.1.len)
     (try (conv=>whnf));repeat' (first|(refine Ok.seqV (c1:=.region 8 _ _) [2,3,4,6,7,8] [9,10] 1 4 1 5 (fun _:List (List D)=>[.bp 4 0,.b ((wout1 a.t u.t).isSome=true)]) (fun rm b=>b++[drow ⟨(wout1 a.t u.t).getD ⟨[],[]⟩,rm⟩]) (fun _ r=>r) (fun _=>True) ?_;(conv=>whnf);refine And.intro ?_ ?_)|refine Ok.seq ?_|((first|refine Ok.region tok ?_|refine Ok.region_tree (id:=8) tok follows [(5,6,[]),(3,7,[]),(5,7,[6]),(6,7,[]),(1,8,[]),(3,8,[7]),(5,8,[7,6]),(6,8,[7]),(7,8,[]),(1,13,[]),(3,13,[]),(5,13,[]),(6,13,[]),(7,13,[]),(8,13,[]),(12,13,[])] (.q 0 (.q 1 (.q 2 (.q 3 (.q 4 (.q 5 (.alt 6 (.alt 7 (.alt 8 (.q 9 (.q 10 (.q 11 (.l 12 (.l 13 (.q 14 .nil)))))) (.alt 12 (.l 8 (.q 9 (.q 10 (.q 11 (.l 13 (.q 14 .nil)))))) .nil)) (.alt 12 (.l 7 (.l 8 (.q 9 (.q 10 (.q 11 (.l 13 (.q 14 .nil))))))) .nil)) (.alt 12 (.l 6 (.l 7 (.l 8 (.q 9 (.q 10 (.q 11 (.l 13 (.q 14 .nil)))))))) .nil)))))))) (by kernel_rfl) ?_|refine Ok.cond ?_);conv=>whnf)|refine Ok.block ?_|((first|refine Ok.skip ?_|refine ix _ (by assumption) ?_);conv=>whnf)|(refine Or.inr (Or.inl ?_);(conv=>whnf);(repeat (refine aI ?_;conv=>whnf));refine⟨_,hbo , ?_⟩;rintro _ _ ⟨rm3,rfl,rfl⟩<;>(conv=>whnf))|(refine Or.inr (Or.inl ?_);(conv=>whnf);(repeat (refine aI ?_;conv=>whnf));refine⟨_,rterm1_at a.t.p (a.t.less++[u.t.p]) hag.p.2 hag.p.1.len (by simp;omega) hw1 rfl , ?_⟩;rintro _ _ ⟨rm4,rfl,rfl⟩<;>(conv=>whnf))|(refine bI ?_ ?_<;>intro<;>(conv=>whnf)<;>(try (exfalso;omega)))|(exact True.intro)|(refine And.intro ?_ ?_<;>(conv=>whnf))|fail)
     any_goals
      refine⟨rm4,trivial,?_⟩
      (conv=>whnf)
      rfl
     rintro rm4 -
     (conv=>whnf)
     have hwl:(wout1 a.t u.t).toList.length<=1:=by cases wout1 a.t u.t<;>simp
     (try (conv=>whnf));repeat' (first|(refine Ok.seqU (c1:=.seq (.region 9 _ _) _) [2,3,4,7,8,9] [6] 1 5 (fun x:List TR=>[.own 0 x.length]) (fun _ b=>b) (fun (x:List TR) (_:Vx.Rows)=>[some (120,x.map drow)]) (fun x=>x.map TR.t=wouts (ts.take i) u.t++(wout1 a.t u.t).toList/\x.length<=l.length+1) ?_;(conv=>whnf);refine And.intro ?_ ?_)|refine Ok.seq ?_|((first|refine Ok.region tok ?_|refine Ok.cond ?_|refine Ok.skip ?_|refine Alt2.l (aI ?_)|refine⟨_,.inl ⟨rfl,rfl⟩,?_⟩|refine⟨_,_,rfl,rfl,?_⟩);conv=>whnf)|(refine bI ?_ ?_<;>intro<;>(conv=>whnf)<;>(try (exfalso;omega)))|(refine aJ ?_;conv=>whnf)|fail)
     . rename_i h
       refine⟨l++[⟨(wout1 a.t u.t).getD ⟨[],[]⟩,rm4⟩],⟨?_,by simp⟩,?_⟩
       . rw[List.map_append,hl,opt_some h]
         rfl
       . (conv=>whnf)
         simp[envCat]
     . rename_i h
       refine⟨l,⟨?_,by omega⟩,?_⟩
       . rw[hl,opt_none h]
         simp
       . (conv=>whnf)
         rfl
     rintro l1 ⟨hl1e,hl1l⟩
     (conv=>whnf)
     (try (conv=>whnf));repeat' (first|refine Ok.seq ?_|(refine Ok.region tok ?_;conv=>whnf)|refine Ok.block ?_|fail)
     refine Ok.loopU [2,3,4,7,8,9] [6,11] 1 5 (fun (x:Nat × List TR × TR)=>[.own 0 x.2.1.length,.i .i64 (x.1:Nat)]) (fun (x:Nat × List TR × TR) (_:List (List D))=>[[.i .i64 n,.lst 120 (ks.map drow) rm],drow u,[.i .i64 0,.nilS],drow a,drow x.2.2]) (fun (x:Nat × List TR × TR) (_:Vx.Rows)=>[some (120,x.2.1.map drow)]) (fun (x:Nat × List TR × TR)=>x.1<=u.t.less.length/\x.2.1.map TR.t=wouts (ts.take i) u.t++((wout1 a.t u.t).toList++(u.t.less.take x.1).filterMap (wout2 a.t))/\x.2.1.length<=l.length+1+x.1) (fun (x:Nat × List TR × TR)=>u.t.less.length - x.1) ((0,l1,⟨(wout1 a.t u.t).getD ⟨[],[]⟩,rm4⟩)) (⟨Nat.zero_le _,by simpa using hl1e,by simpa using hl1l⟩) ?_;(conv=>whnf);refine⟨by ((conv=>whnf);first|rfl|(simp[envCat,List.take_of_length_le,crow,trow,srow,drow];done)|(simp[envCat,List.take_of_length_le,crow,trow,srow,drow];rw[IntKind.wrap_i64];omega)),?_⟩
     rintro⟨j,l2,tb⟩ ⟨hj,hl2e,hl2l⟩
     dsimp only at hj hl2e hl2l ⊢
     have hl2m:(l2.map drow).length=l2.length:=by simp
     (conv=>whnf)
     by_cases hjl:j<u.t.less.length
     . obtain⟨m,hm⟩:∃ m,u.t.less[j]? = some m:=⟨_,List.getElem?_eq_getElem hjl⟩
       have hmI:u.t.less[((j:Nat):Int).toNat]? = some m:=hm
       have hmc:=hu.less m (List.mem_of_getElem? hm)
       have hal3:=hag.p.1.len
       (try (conv=>whnf));repeat' (first|(refine Ok.seqU (c1:=.region 14 _ _) [2,3,4,6,7,8,9,11] [12,13] 1 5 (fun _:Unit=>[.s ((meetT a.t.p m).getD []),.b ((meetT a.t.p m).isSome=true)]) (fun _ b=>b) (fun _ r=>r) (fun _=>True) ?_;(conv=>whnf);refine And.intro ?_ ?_)|refine Ok.seq ?_|((first|refine Ok.region tok ?_|refine Ok.region_plan (id:=14) tok follows [(1,7,[]),(3,7,[6,5]),(6,7,[])] [.q 0,.q 1,.q 2,.q 3,.q 4,.q 5,.q 6,.l 7,.q 8,.q 9,.q 10,.q 11,.q 12] (by kernel_rfl) ?_|refine Ok.cond ?_);conv=>whnf)|refine Ok.block ?_|((first|refine Ok.skip ?_|refine ix _ (by assumption) ?_);conv=>whnf)|(refine Or.inr (Or.inl ?_);(conv=>whnf);(repeat (refine aI ?_;conv=>whnf));refine⟨_,rmeet_at a.t.p m (by omega),?_⟩;rintro _ _ ⟨rfl,rfl⟩<;>(conv=>whnf))|(refine bI ?_ ?_<;>intro<;>(conv=>whnf)<;>(try (exfalso;omega)))|fail)
       any_goals
        refine⟨(),trivial,?_⟩
        (conv=>whnf)
        rfl
       rintro - -
       (conv=>whnf)
       cases hmt:meetT a.t.p m with
       | none=>
        have hno:wout2 a.t m=none:=by unfold wout2;rw[hmt];rfl
        (try (conv=>whnf));repeat' (first|refine Ok.seq ?_|((first|refine Ok.region tok ?_|refine Ok.cond ?_|refine Ok.skip ?_|refine Ok.exit ?_|refine nI ?_);conv=>whnf)|(refine bI ?_ ?_<;>intro<;>(conv=>whnf)<;>(try (exfalso;omega)))|fail)
        . refine⟨(j+1,l2,tb),by dsimp only;omega,⟨by dsimp only;omega,by dsimp only;rw[fm_none hm hno];exact hl2e,by dsimp only;omega⟩,?_⟩
          (conv=>whnf)
          rfl
        all_goals (rename_i h;exact absurd (fun q=>by cases q) h)
       | some p=>
        have hpc:=meetT_ct hmt hag.p.1 hmc.1
        have hpn:p ≠ []:=fun e=>hpc.2.2 (List.eq_nil_of_length_eq_zero (by rw[<- hpc.2.1,e];rfl))
        have hm2:wout2 a.t m=termT p a.t.less:=by unfold wout2;rw[hmt];rfl
        (try (conv=>whnf));repeat' (first|refine Ok.seq ?_|((first|refine Ok.region tok ?_|refine Ok.cond ?_|refine Ok.skip ?_|refine Ok.exit ?_|refine nI ?_);conv=>whnf)|(refine Or.inr (Or.inl ?_);(conv=>whnf);(repeat (refine aI ?_;conv=>whnf));refine⟨_,rterm1_at p a.t.less hpn hpc.1.len (by omega) (fun x hx=>(hag.less x hx).1.len) rfl , ?_⟩;rintro _ _ ⟨rm5,rfl,rfl⟩<;>(conv=>whnf))|((first|refine Alt2.l (aI ?_)|refine⟨_,.inl ⟨rfl,rfl⟩,?_⟩|refine⟨_,_,rfl,rfl,?_⟩);conv=>whnf)|(refine bI ?_ ?_<;>intro<;>(conv=>whnf)<;>(try (exfalso;omega)))|(refine aJ ?_;conv=>whnf)|fail)
        . rename_i h
          exact absurd rfl h
        . rename_i h
          refine⟨(j+1,l2++[⟨(termT p a.t.less).getD ⟨[],[]⟩,rm5⟩],⟨(termT p a.t.less).getD ⟨[],[]⟩,rm5⟩),by dsimp only;omega,⟨by dsimp only;omega,?_,by simp;omega⟩,?_⟩
          . dsimp only
            rw[fm_some hm (hm2.trans (opt_some h)),List.map_append,hl2e]
            simp
          . (conv=>whnf)
            simp[envCat]
        . rename_i h
          refine⟨(j+1,l2,⟨(termT p a.t.less).getD ⟨[],[]⟩,rm5⟩),by dsimp only;omega,⟨by dsimp only;omega,by dsimp only;rw[fm_none hm (hm2.trans (opt_none h))];exact hl2e,by dsimp only;omega⟩,?_⟩
          (conv=>whnf)
          rfl
     . have hje:j=u.t.less.length:=by omega
       subst hje
       rw[List.take_length] at hl2e
       (try (conv=>whnf));repeat' (first|refine Ok.seq ?_|((first|refine Ok.region tok ?_|refine Ok.cond ?_|refine Ok.exit ?_|refine nI ?_);conv=>whnf)|(refine bI ?_ ?_<;>intro<;>(conv=>whnf)<;>(try (exfalso;omega)))|fail)
       refine⟨(i+1,l2),by dsimp only;omega,⟨by dsimp only;omega,by dsimp only;rw[hsn];exact hl2e,by dsimp only;omega⟩,?_⟩
       (conv=>whnf)
       rfl
   . have hie:i=ts.length:=by omega
     subst hie
     rw[List.take_length] at hl
     have hgood:=wouts_good hf.good hu
     have hlb:=wouts_less (u:=u.t) (fun t ht=>hf.less (t:=t) ht)
     have hle:∀ x ∈ l,x.t.less.length<=1048576:=fun x hx=>Nat.le_trans (hlb _ (mem_of_map hl hx)) (by decide)
     have hrn:∀ x ∈ l,RN2 x/\x.t.Ok n.toNat:=fun x hx=>(hgood _ (mem_of_map hl hx)).rn (hle x hx)
     have htk:List.take l.length (l.map drow)=l.map drow:=List.take_of_length_le (by simp)
     have hln:(l.map TR.t).length<=1048576:=by simp;omega
     rw[<- hl]
     (try (conv=>whnf));repeat' (first|refine Ok.seq ?_|((first|refine Ok.region tok ?_|refine Ok.cond ?_|refine Ok.exit ?_|refine Ok.ret ?_);conv=>whnf)|(refine Or.inr (Or.inl ?_);(conv=>whnf);(repeat (refine aI ?_;conv=>whnf));refine⟨_,rform_at n n.toNat l (by omega) hrn htk , ?_⟩;rintro _ _ ⟨ks3,rm3,rfl,rfl,hks3,hkm⟩<;>(conv=>whnf))|(refine Or.inr (Or.inl ?_);(conv=>whnf);(repeat (refine aI ?_;conv=>whnf));refine⟨_,rbound_at n ks3 (form_len hks3 hln) (fun x hx=>hle x (hkm x hx)) rfl , ?_⟩;rintro _ _ ⟨rfl,(⟨hb,rfl⟩|⟨hb,rfl⟩)⟩<;>(conv=>whnf))|(refine bI ?_ ?_<;>intro<;>(conv=>whnf)<;>(try (exfalso;omega)))|fail)
     . refine Or.inl ?_;(conv=>whnf)
       exact DOut.form hks3 hb
     . refine Or.inl ?_;(conv=>whnf)
       exact DOut.many hks3 hb
 . rw[withoutO_raw hraw]
   (try (conv=>whnf));repeat' (first|refine Ok.seq ?_|((first|refine Ok.region tok ?_|refine Ok.cond ?_|refine Ok.ret ?_|refine nI ?_);conv=>whnf)|(refine bI ?_ ?_<;>intro<;>(conv=>whnf)<;>(try (exfalso;omega)))|fail)
   . refine Or.inl ?_;(conv=>whnf)
     exact⟨rfl,_,rfl,DSp.nil 0⟩
end Go.Proofs.YtaiondckookpiaaGreatDoor
namespace Go.Proofs.YtaiondckookpiaaGreatDoor
open Go Go.Vx
set_option maxRecDepth 100000 in
set_option maxHeartbeats 8000000 in
theorem without_at{n:Int}{ts:List Term}(hf:Fine n ts)(u:TR)(hu:GoodT n.toNat u.t)(hul:u.t.less.length<=127)(ks:List TR)(rm:List (List D))(h1:ks.map TR.t=ts) :
    FSpec Tryz.prog T 80 [.lst 112 (ks.map trow) rm,.agg (trow u)] (fun d rows=>∃ (l:List TR) (rm':List (List D)),d = .lst 112 (l.map trow) rm'/\rows=[]/\l.map TR.t=wouts ts u.t):=by
 have hl1:ks.length=ts.length:=by rw[<- h1,List.length_map]
 have hm1:(ks.map trow).length=ts.length:=by simp[hl1]
 have hm2:(u.t.less.map crow).length=u.t.less.length:=by simp
 have hk1:=hf.len
 refine FSpec.of_ok tok Tryz.func80 rfl Tryz.call80 (by simp) ?_
 (try (conv=>whnf));repeat' (first|refine Ok.seq ?_|(refine Ok.region tok ?_;conv=>whnf)|refine Ok.block ?_|fail)
 refine Ok.ghost 5 112 rfl ?_
 (conv=>whnf)
 refine Ok.loopU [3,16,17] [5,18] 1 1 (fun (x:Nat × List TR)=>[.own 0 x.2.length,.i .i64 (x.1:Nat)]) (fun _ b=>b) (fun (x:Nat × List TR) (_:Vx.Rows)=>[some (112,x.2.map trow)]) (fun (x:Nat × List TR)=>x.1<=ts.length/\x.2.map TR.t=wouts (ts.take x.1) u.t/\x.2.length<=x.1*128) (fun (x:Nat × List TR)=>ts.length - x.1) ((0,[])) (⟨Nat.zero_le _,by simp[wouts],by simp⟩) ?_;(conv=>whnf);refine⟨by ((conv=>whnf);first|rfl|(simp[envCat,List.take_of_length_le,crow,trow,srow,drow];done)|(simp[envCat,List.take_of_length_le,crow,trow,srow,drow];rw[IntKind.wrap_i64];omega)),?_⟩
 rintro⟨i,l⟩ ⟨hi,hl,hll⟩
 dsimp only at hi hl hll ⊢
 have hlm:(l.map trow).length=l.length:=by simp
 (conv=>whnf)
 by_cases hil:i<ts.length
 . obtain⟨a,ha⟩:∃ a,ks[i]? = some a:=⟨_,List.getElem?_eq_getElem (by omega)⟩
   have haI:ks[((i:Nat):Int).toNat]? = some a:=ha
   have hat:=tr_get h1 ha
   have hag:=hf.good _ (List.mem_of_getElem? hat)
   have hal:=hf.less (List.mem_of_getElem? hat)
   have hal2:(a.t.less.map crow).length=a.t.less.length:=by simp
   have hsn:=wouts_snoc (u:=u.t) hat
   have hnew:∀ rl room,rl=List.map lrow [⟨a.t.less,a.room⟩,⟨[u.t.p],[]⟩]->FSpec Tryz.prog T 72 [.agg (crow a.t.p),.lst 58 rl room] (fun d rows=>∃ rm,d = .tup [.agg (trow ⟨(wout1 a.t u.t).getD ⟨[],[]⟩,rm⟩),.b ((wout1 a.t u.t).isSome=true)]/\rows=[]):=fun rl room h=>by
    have:=newTerm1_at a.t.p [⟨a.t.less,a.room⟩,⟨[u.t.p],[]⟩] (room:=room) hag.p (by
     intro x hx m hm
     simp at hx
     rcases hx with rfl|rfl
     . exact (hag.less m hm).1
     . simp at hm;rw[hm];exact hu.p.1) (by simp[allL];omega) (by simp) h
    rwa [show allL [⟨a.t.less,a.room⟩,⟨[u.t.p],[]⟩]=a.t.less++[u.t.p] by simp[allL]] at this
   have hwl:(wout1 a.t u.t).toList.length<=1:=by cases wout1 a.t u.t<;>simp
   (try (conv=>whnf));repeat' (first|(refine Ok.seqU (c1:=.seq (.region 5 _ _) _) [3,7,16,17,18] [5] 1 2 (fun x:List TR=>[.own 0 x.length]) (fun _ b=>b) (fun (x:List TR) (_:Vx.Rows)=>[some (112,x.map trow)]) (fun x=>x.map TR.t=wouts (ts.take i) u.t++(wout1 a.t u.t).toList/\x.length<=l.length+1) ?_;(conv=>whnf);refine And.intro ?_ ?_)|refine Ok.seq ?_|((first|refine Ok.region tok ?_|refine Ok.cond ?_);conv=>whnf)|refine Ok.block ?_|((first|refine Ok.skip ?_|refine ix _ (by assumption) ?_);conv=>whnf)|(refine Or.inr (Or.inl ?_);(conv=>whnf);(repeat (refine aI ?_;conv=>whnf));refine⟨_,hnew _ _ rfl , ?_⟩;rintro _ _ ⟨rm4,rfl,rfl⟩<;>(conv=>whnf))|((first|refine Alt2.l (aI ?_)|refine⟨_,.inl ⟨rfl,rfl⟩,?_⟩|refine⟨_,_,rfl,rfl,?_⟩);conv=>whnf)|(refine bI ?_ ?_<;>intro<;>(conv=>whnf)<;>(try (exfalso;omega)))|(refine aJ ?_;conv=>whnf)|fail)
   . rename_i h
     refine⟨l++[⟨(wout1 a.t u.t).getD ⟨[],[]⟩,rm4⟩],⟨?_,by simp⟩,?_⟩
     . rw[List.map_append,hl,opt_some h]
       rfl
     . (conv=>whnf)
       simp[envCat]
   . rename_i h
     refine⟨l,⟨?_,by omega⟩,?_⟩
     . rw[hl,opt_none h]
       simp
     . (conv=>whnf)
       rfl
   rintro l1 ⟨hl1e,hl1l⟩
   (conv=>whnf)
   (try (conv=>whnf));repeat' (first|refine Ok.seq ?_|(refine Ok.region tok ?_;conv=>whnf)|refine Ok.block ?_|fail)
   refine Ok.loopU [3,7,16,17,18,40,41] [5,42] 1 2 (fun (x:Nat × List TR)=>[.own 0 x.2.length,.i .i64 (x.1:Nat)]) (fun _ b=>b) (fun (x:Nat × List TR) (_:Vx.Rows)=>[some (112,x.2.map trow)]) (fun (x:Nat × List TR)=>x.1<=u.t.less.length/\x.2.map TR.t=wouts (ts.take i) u.t++((wout1 a.t u.t).toList++(u.t.less.take x.1).filterMap (wout2 a.t))/\x.2.length<=l.length+1+x.1) (fun (x:Nat × List TR)=>u.t.less.length - x.1) ((0,l1)) (⟨Nat.zero_le _,by simpa using hl1e,by simpa using hl1l⟩) ?_;(conv=>whnf);refine⟨by ((conv=>whnf);first|rfl|(simp[envCat,List.take_of_length_le,crow,trow,srow,drow];done)|(simp[envCat,List.take_of_length_le,crow,trow,srow,drow];rw[IntKind.wrap_i64];omega)),?_⟩
   rintro⟨j,l2⟩ ⟨hj,hl2e,hl2l⟩
   dsimp only at hj hl2e hl2l ⊢
   have hl2m:(l2.map trow).length=l2.length:=by simp
   (conv=>whnf)
   by_cases hjl:j<u.t.less.length
   . obtain⟨m,hm⟩:∃ m,u.t.less[j]? = some m:=⟨_,List.getElem?_eq_getElem hjl⟩
     have hmI:u.t.less[((j:Nat):Int).toNat]? = some m:=hm
     have hmc:=hu.less m (List.mem_of_getElem? hm)
     have hsp:=meet_at a.t.p m hag.p.1 hmc.1
     cases hmt:meetT a.t.p m with
     | none=>
      have hno:wout2 a.t m=none:=by unfold wout2;rw[hmt];rfl
      rw[hmt] at hsp
      (try (conv=>whnf));repeat' (first|refine Ok.seq ?_|((first|refine Ok.region tok ?_|refine Ok.cond ?_);conv=>whnf)|refine Ok.block ?_|((first|refine Ok.skip ?_|refine nI ?_|refine ix _ (by assumption) ?_);conv=>whnf)|(refine Or.inr (Or.inl ?_);(conv=>whnf);(repeat (refine aI ?_;conv=>whnf));refine⟨_,hsp,?_⟩;rintro _ _ ⟨rfl,rfl⟩<;>(conv=>whnf))|(refine bI ?_ ?_<;>intro<;>(conv=>whnf)<;>(try (exfalso;omega)))|fail)
      . rename_i h
        cases h
      . refine⟨(j+1,l2),by dsimp only;omega,⟨by dsimp only;omega,by dsimp only;rw[fm_none hm hno];exact hl2e,by dsimp only;omega⟩,?_⟩
        (conv=>whnf)
        rfl
     | some p=>
      have hpc:=meetT_ct hmt hag.p.1 hmc.1
      have hpn:p ≠ []:=fun e=>hpc.2.2 (List.eq_nil_of_length_eq_zero (by rw[<- hpc.2.1,e];rfl))
      have hm3:wout2 a.t m=termT p a.t.less:=by unfold wout2;rw[hmt];rfl
      rw[hmt] at hsp
      have hnew2:∀ room,FSpec Tryz.prog T 72 [.agg (crow p),.lst 58 (List.map lrow [⟨a.t.less,a.room⟩]) room] (fun d rows=>∃ rm,d = .tup [.agg (trow ⟨(termT p a.t.less).getD ⟨[],[]⟩,rm⟩),.b ((termT p a.t.less).isSome=true)]/\rows=[]):=fun room=>by
       have:=newTerm1_at p [⟨a.t.less,a.room⟩] (room:=room) ⟨hpc.1,hpn⟩ (by
        intro x hx m hm
        simp at hx
        subst hx
        exact (hag.less m hm).1) (by simp[allL];omega) (by simp) rfl
       rwa [show allL [⟨a.t.less,a.room⟩]=a.t.less by simp[allL]] at this
      (try (conv=>whnf));repeat' (first|refine Ok.seq ?_|((first|refine Ok.region tok ?_|refine Ok.cond ?_);conv=>whnf)|refine Ok.block ?_|((first|refine Ok.skip ?_|refine nI ?_|refine ix _ (by assumption) ?_);conv=>whnf)|(refine Or.inr (Or.inl ?_);(conv=>whnf);(repeat (refine aI ?_;conv=>whnf));refine⟨_,hsp,?_⟩;rintro _ _ ⟨rfl,rfl⟩<;>(conv=>whnf))|(refine Or.inr (Or.inl ?_);(conv=>whnf);(repeat (refine aI ?_;conv=>whnf));refine⟨_,hnew2 _ , ?_⟩;rintro _ _ ⟨rm5,rfl,rfl⟩<;>(conv=>whnf))|((first|refine Alt2.l (aI ?_)|refine⟨_,.inl ⟨rfl,rfl⟩,?_⟩|refine⟨_,_,rfl,rfl,?_⟩);conv=>whnf)|(refine bI ?_ ?_<;>intro<;>(conv=>whnf)<;>(try (exfalso;omega)))|(refine aJ ?_;conv=>whnf)|fail)
      . rename_i h
        refine⟨(j+1,l2++[⟨(termT p a.t.less).getD ⟨[],[]⟩,rm5⟩]),by dsimp only;omega,⟨by dsimp only;omega,?_,by simp;omega⟩,?_⟩
        . dsimp only
          rw[fm_some hm (hm3.trans (opt_some h)),List.map_append,hl2e]
          simp
        . (conv=>whnf)
          simp[envCat]
      . rename_i h
        refine⟨(j+1,l2),by dsimp only;omega,⟨by dsimp only;omega,by dsimp only;rw[fm_none hm (hm3.trans (opt_none h))];exact hl2e,by dsimp only;omega⟩,?_⟩
        (conv=>whnf)
        rfl
      . rename_i h
        exact absurd rfl h
   . have hje:j=u.t.less.length:=by omega
     subst hje
     rw[List.take_length] at hl2e
     (try (conv=>whnf));repeat' (first|refine Ok.seq ?_|((first|refine Ok.region tok ?_|refine Ok.cond ?_|refine Ok.exit ?_|refine nI ?_);conv=>whnf)|(refine bI ?_ ?_<;>intro<;>(conv=>whnf)<;>(try (exfalso;omega)))|fail)
     refine⟨(i+1,l2),by dsimp only;omega,⟨by dsimp only;omega,by dsimp only;rw[hsn];exact hl2e,by dsimp only;omega⟩,?_⟩
     (conv=>whnf)
     rfl
 . have hie:i=ts.length:=by omega
   subst hie
   rw[List.take_length] at hl
   (try (conv=>whnf));repeat' (first|refine Ok.seq ?_|((first|refine Ok.region tok ?_|refine Ok.cond ?_|refine Ok.exit ?_|refine Ok.ret ?_);conv=>whnf)|(refine bI ?_ ?_<;>intro<;>(conv=>whnf)<;>(try (exfalso;omega)))|fail)
   refine Or.inl ?_;(conv=>whnf)
   refine⟨l,[],?_,rfl,hl⟩
   rw[List.take_of_length_le (by simp),List.drop_of_length_le (by simp)]
   rfl
end Go.Proofs.YtaiondckookpiaaGreatDoor
namespace Go.Proofs.YtaiondckookpiaaGreatDoor
open Go Go.Vx
noncomputable def minusL(n:Int):List Term->List Term->Int × Int × List Term
 | ts,[]=>(0,n,ts)
 | ts,u :: us=>if (withoutO n ts u).1=0 then minusL n (withoutO n ts u).2.2 us else ((withoutO n ts u).1,0,[])
theorem withoutO_cases(n:Int)(ts:List Term)(u:Term):withoutO n ts u=(3,0,[])\/(withoutO n ts u=(0,n,formT (wouts ts u))/\szT (formT (wouts ts u))<=128/\ts.length*(1+u.less.length)<=2048):=by
 by_cases h:ts.length*(1+u.less.length)<=2048
 . rw[withoutO_ok h]
   by_cases h2:szT (formT (wouts ts u))<=128
   . rw[bndO_le h2];exact .inr ⟨rfl,h2,h⟩
   . rw[bndO_gt (by omega)];exact .inl rfl
 . rw[withoutO_raw h];exact .inl rfl
theorem minusL_stop{n:Int}{ts us:List Term}{u:Term}(h:withoutO n ts u=(3,0,[])):minusL n ts (u :: us)=(3,0,[]):=by
 unfold minusL
 rw[h,if_neg (by decide)]
theorem minusL_go{n:Int}{ts us l:List Term}{u:Term}(h:withoutO n ts u=(0,n,l)):minusL n ts (u :: us)=minusL n l us:=by
 conv=>lhs;unfold minusL
 rw[h,if_pos rfl]
theorem minusL_fine{n:Int}:∀ {us ts:List Term},Fine n ts->(∀ u ∈ us,GoodT n.toNat u)->Fine (minusL n ts us).2.1 (minusL n ts us).2.2
 | [],ts,hf,_=>hf
 | u :: us,ts,hf,hg=>by
  rcases withoutO_cases n ts u with h|⟨h,hs,_⟩
  . rw[minusL_stop h];exact .nil (by decide) (by decide)
  . rw[minusL_go h]
    exact minusL_fine (.form hf.n0 hf.n1 (wouts_good hf.good (hg u (by simp))) hs) fun x hx=>hg x (by simp[hx])
open Classical in
noncomputable def minusO(n m:Int)(ts us:List Term):Int × Int × List Term:=if fitP n m then minusL n ts us else (11,0,[])
theorem minusO_fit{n m:Int}{ts us:List Term}(h:fitP n m):minusO n m ts us=minusL n ts us:=if_pos h
theorem minusO_not{n m:Int}{ts us:List Term}(h:¬ fitP n m):minusO n m ts us=(11,0,[]):=if_neg h
theorem minusO_fine{n m:Int}{ts us:List Term}(hf:Fine n ts)(hg:Fine m us):Fine (minusO n m ts us).2.1 (minusO n m ts us).2.2:=by
 by_cases h:fitP n m
 . rw[minusO_fit h]
   obtain⟨rfl,_⟩:=h
   exact minusL_fine hf hg.good
 . rw[minusO_not h];exact .nil (by decide) (by decide)
theorem wouts_len(ts:List Term)(u:Term):(wouts ts u).length<=ts.length*(1+u.less.length):=by
 induction ts with
 | nil=>simp[wouts]
 | cons a ts ih=>
  unfold wouts at *
  rw[List.flatMap_cons,List.length_append,List.length_append,List.length_cons,Nat.add_mul]
  have h1:(wout1 a u).toList.length<=1:=by cases wout1 a u<;>simp
  have h2:=List.length_filterMap_le (wout2 a) u.less
  omega
theorem drop_get{α:Type}{l:List α}{i:Nat}{x:α}(h:l[i]? = some x):l.drop i=x :: l.drop (i+1):=by
 obtain⟨hl,e⟩:=List.getElem?_eq_some_iff.1 h
 rw[List.drop_eq_getElem_cons hl,e]
set_option maxRecDepth 100000 in
set_option maxHeartbeats 8000000 in
theorem rminus_at{n m:Int}{ts us:List Term}(hf:Fine n ts)(hg:Fine m us)(ks ks2:List TR)(rm rm2:List (List D))(h1:ks.map TR.t=ts)(h2:ks2.map TR.t=us) :
    FSpec Tryz.prog T 26 [.agg [.i .i64 n,.lst 120 (ks.map drow) rm],.agg [.i .i64 m,.lst 120 (ks2.map drow) rm2]] (DOut (minusO n m ts us)):=by
 have hfit:=rfit_at n m (.lst 120 (ks.map drow) rm) (.lst 120 (ks2.map drow) rm2) ⟨_,_,_,rfl⟩ ⟨_,_,_,rfl⟩
 have hl2:ks2.length=us.length:=by rw[<- h2,List.length_map]
 have hm2:(ks2.map drow).length=us.length:=by simp[hl2]
 have hk2:=hg.len
 refine FSpec.of_ok tok Tryz.func26 rfl Tryz.call26 (by simp) ?_
 by_cases hfp:fitP n m
 . have hnm:=hfp.1
   subst hnm
   rw[minusO_fit hfp]
   (try (conv=>whnf));repeat' (first|refine Ok.seq ?_|((first|refine Ok.region tok ?_|refine Ok.cond ?_);conv=>whnf)|refine Ok.block ?_|((first|refine Ok.skip ?_|refine Ok.ret ?_);conv=>whnf)|(refine Or.inl ?_;(conv=>whnf);(repeat (refine aI ?_;conv=>whnf));refine⟨_,hfit,rfl,?_⟩;conv=>whnf)|(refine bI ?_ ?_<;>intro<;>(conv=>whnf)<;>(try (exfalso;omega)))|fail)
   . exact absurd hfp (by assumption)
   refine Ok.loopU [3,4,6] [8] 0 4 (fun (x:Nat × List TR × List (List D))=>[.i .i64 (x.1:Nat)]) (fun (x:Nat × List TR × List (List D)) (_:List (List D))=>[[.i .i64 n,.lst 120 (ks.map drow) rm],[.i .i64 n,.lst 120 (ks2.map drow) rm2],[.i .i64 0,.nilS],[.i .i64 n,.lst 120 (x.2.1.map drow) x.2.2]]) (fun _ r=>r) (fun (x:Nat × List TR × List (List D))=>x.1<=us.length/\Fine n (x.2.1.map TR.t)/\minusL n ts us=minusL n (x.2.1.map TR.t) (us.drop x.1)) (fun (x:Nat × List TR × List (List D))=>us.length - x.1) ((0,ks,rm)) (⟨Nat.zero_le _,by rw[h1];exact hf,by rw[h1];rfl⟩) ?_;(conv=>whnf);refine⟨by ((conv=>whnf);first|rfl|(simp[envCat,List.take_of_length_le,crow,trow,srow,drow];done)|(simp[envCat,List.take_of_length_le,crow,trow,srow,drow];rw[IntKind.wrap_i64];omega)),?_⟩
   rintro⟨i,kr,rr⟩ ⟨hi,hfr,hml⟩
   dsimp only at hi hfr hml ⊢
   (conv=>whnf)
   by_cases hil:i<us.length
   . obtain⟨u,hu⟩:∃ u,ks2[i]? = some u:=⟨_,List.getElem?_eq_getElem (by omega)⟩
     have huI:ks2[((i:Nat):Int).toNat]? = some u:=hu
     have hut:=tr_get h2 hu
     have hug:=hg.good _ (List.mem_of_getElem? hut)
     have hul:=hg.less (List.mem_of_getElem? hut)
     have hsp:=rwithout_at hfr u hug hul kr rr rfl
     rw[drop_get hut] at hml
     rcases withoutO_cases n (kr.map TR.t) u.t with h|⟨h,hs,_⟩
     . rw[h] at hsp
       rw[minusL_stop h] at hml
       rw[hml]
       (try (conv=>whnf));repeat' (first|refine Ok.seq ?_|((first|refine Ok.region tok ?_|refine Ok.region_plan (id:=8) tok follows [(0,6,[]),(2,6,[5,4]),(5,6,[]),(0,10,[]),(2,10,[]),(5,10,[]),(6,10,[])] [.q 0,.q 1,.q 2,.q 3,.q 4,.q 5,.l 6,.q 7,.q 8,.q 9,.l 10,.q 11] (by kernel_rfl) ?_|refine Ok.cond ?_);conv=>whnf)|refine Ok.block ?_|((first|refine Ok.skip ?_|refine Ok.ret ?_|refine ix _ (by assumption) ?_);conv=>whnf)|(refine Or.inr (Or.inl ?_);(conv=>whnf);(repeat (refine aI ?_;conv=>whnf));refine⟨_,hsp , ?_⟩;rintro _ _ ⟨rfl,_,rfl,ks3,rm3,rfl,h3⟩<;>(conv=>whnf))|(refine bI ?_ ?_<;>intro<;>(conv=>whnf)<;>(try (exfalso;omega)))|fail)
       all_goals first
        | exact absurd rfl (by assumption)
        | (refine Or.inl ?_;(conv=>whnf)
           exact⟨rfl,_,rfl,DSp.nil 0⟩)
     . rw[h] at hsp
       rw[minusL_go h] at hml
       (try (conv=>whnf));repeat' (first|refine Ok.seq ?_|((first|refine Ok.region tok ?_|refine Ok.region_plan (id:=8) tok follows [(0,6,[]),(2,6,[5,4]),(5,6,[]),(0,10,[]),(2,10,[]),(5,10,[]),(6,10,[])] [.q 0,.q 1,.q 2,.q 3,.q 4,.q 5,.l 6,.q 7,.q 8,.q 9,.l 10,.q 11] (by kernel_rfl) ?_|refine Ok.cond ?_);conv=>whnf)|refine Ok.block ?_|((first|refine Ok.skip ?_|refine nI ?_|refine ix _ (by assumption) ?_);conv=>whnf)|(refine Or.inr (Or.inl ?_);(conv=>whnf);(repeat (refine aI ?_;conv=>whnf));refine⟨_,hsp , ?_⟩;rintro _ _ ⟨rfl,_,rfl,ks3,rm3,rfl,h3⟩<;>(conv=>whnf))|(refine bI ?_ ?_<;>intro<;>(conv=>whnf)<;>(try (exfalso;omega)))|fail)
       all_goals first
        | exact absurd rfl (by assumption)
        | (rename_i h;exact absurd rfl h)
        | (refine⟨(i+1,ks3,rm3),by dsimp only;omega,⟨by dsimp only;omega,by dsimp only at h3 ⊢;rw[h3];exact .form hfr.n0 hfr.n1 (wouts_good hfr.good hug) hs,by dsimp only at h3 ⊢;rw[h3];exact hml⟩,?_⟩
           (conv=>whnf)
           rfl)
   . have hie:i=us.length:=by omega
     subst hie
     rw[List.drop_length] at hml
     rw[hml]
     (try (conv=>whnf));repeat' (first|refine Ok.seq ?_|((first|refine Ok.region tok ?_|refine Ok.cond ?_|refine Ok.exit ?_|refine Ok.ret ?_);conv=>whnf)|(refine bI ?_ ?_<;>intro<;>(conv=>whnf)<;>(try (exfalso;omega)))|fail)
     refine Or.inl ?_;(conv=>whnf)
     exact⟨rfl,_,rfl,kr,rr,rfl,rfl⟩
 . rw[minusO_not hfp]
   (try (conv=>whnf));repeat' (first|refine Ok.seq ?_|((first|refine Ok.region tok ?_|refine Ok.cond ?_);conv=>whnf)|refine Ok.block ?_|((first|refine Ok.skip ?_|refine Ok.ret ?_);conv=>whnf)|(refine Or.inl ?_;(conv=>whnf);(repeat (refine aI ?_;conv=>whnf));refine⟨_,hfit,rfl,?_⟩;conv=>whnf)|(refine bI ?_ ?_<;>intro<;>(conv=>whnf)<;>(try (exfalso;omega)))|fail)
   . refine Or.inl ?_;(conv=>whnf)
     exact⟨rfl,_,rfl,DSp.nil 0⟩
   . rename_i h
     exact absurd hfp h
set_option maxRecDepth 100000 in
set_option maxHeartbeats 8000000 in
theorem minus_at{n m:Int}{ts us:List Term}(hf:Fine n ts)(hg:Fine m us)(ks ks2:List TR)(rm rm2:List (List D))(h1:ks.map TR.t=ts)(h2:ks2.map TR.t=us) :
    FSpec Tryz.prog T 25 [.agg [.i .i64 n,.lst 112 (ks.map trow) rm],.agg [.i .i64 m,.lst 112 (ks2.map trow) rm2]] (POut (minusO n m ts us)):=by
 have hfit:=fits2_at n m
 have hl2:ks2.length=us.length:=by rw[<- h2,List.length_map]
 have hm2:(ks2.map trow).length=us.length:=by simp[hl2]
 have hk2:=hg.len
 refine FSpec.of_deferK 3 tok Tryz.func25 rfl Tryz.call25 (by simp) def_minus (zd1:=[.i .i64 0,.nilS]) (zd2:=[.i .i64 3]) rfl rfl (by simp[Value.oneCell']) (by simp[Value.oneCell']) rfl ?_
 by_cases hfp:fitP n m
 . have hnm:=hfp.1
   subst hnm
   rw[minusO_fit hfp]
   (try (conv=>whnf));repeat' (first|refine Ok.seq ?_|refine OkL.cons ?_|((first|refine Ok.region tok ?_|refine Ok.cond ?_|refine Ok.skip ?_|refine Ok.ret ?_);conv=>whnf)|(refine Or.inl ?_;(conv=>whnf);(repeat (refine aI ?_;conv=>whnf));refine⟨_,hfit,rfl,?_⟩;conv=>whnf)|(refine bI ?_ ?_<;>intro<;>(conv=>whnf)<;>(try (exfalso;omega)))|fail)
   . exact absurd hfp (by assumption)
   refine OkL.nil ?_
   (conv=>whnf)
   refine⟨2,3,rfl,rfl,by decide,by decide,by decide,rfl,?_⟩
   (try (conv=>whnf));repeat' (first|refine OkL.cons ?_|(refine Ok.region tok ?_;conv=>whnf)|refine Ok.block ?_|fail)
   refine Ok.loopU [2,4,5,17,18,41,42] [19] 0 4 (fun (x:Nat × List TR × List (List D))=>[.i .i64 (x.1:Nat)]) (fun (x:Nat × List TR × List (List D)) (_:List (List D))=>[[.i .i64 n,.lst 112 (x.2.1.map trow) x.2.2],[.i .i64 n,.lst 112 (ks2.map trow) rm2],[.i .i64 0,.nilS],[.i .i64 0]]) (fun _ r=>r) (fun (x:Nat × List TR × List (List D))=>x.1<=us.length/\Fine n (x.2.1.map TR.t)/\minusL n ts us=minusL n (x.2.1.map TR.t) (us.drop x.1)) (fun (x:Nat × List TR × List (List D))=>us.length - x.1) ((0,ks,rm)) (⟨Nat.zero_le _,by rw[h1];exact hf,by rw[h1];rfl⟩) ?_;(conv=>whnf);refine⟨by ((conv=>whnf);first|rfl|(simp[envCat,List.take_of_length_le,crow,trow,srow,drow];done)|(simp[envCat,List.take_of_length_le,crow,trow,srow,drow];rw[IntKind.wrap_i64];omega)),?_⟩
   rintro⟨i,kr,rr⟩ ⟨hi,hfr,hml⟩
   dsimp only at hi hfr hml ⊢
   have hkr:(kr.map trow).length=(kr.map TR.t).length:=by simp
   have hkl:=hfr.len
   (conv=>whnf)
   by_cases hil:i<us.length
   . obtain⟨u,hu⟩:∃ u,ks2[i]? = some u:=⟨_,List.getElem?_eq_getElem (by omega)⟩
     have huI:ks2[((i:Nat):Int).toNat]? = some u:=hu
     have hut:=tr_get h2 hu
     have hug:=hg.good _ (List.mem_of_getElem? hut)
     have hul:=hg.less (List.mem_of_getElem? hut)
     have hul2:(u.t.less.map crow).length=u.t.less.length:=by simp
     have hmul:((kr.map trow).length:Int)*(1+((u.t.less.map crow).length:Int))=(((kr.map TR.t).length*(1+u.t.less.length):Nat):Int):=by rw[hkr,hul2];simp
     have hmb:(kr.map TR.t).length*(1+u.t.less.length)<=128*128:=Nat.mul_le_mul hkl (by omega)
     have hsp:=without_at hfr u hug hul kr rr rfl
     have hwg:=wouts_good hfr.good hug
     have hwl:=wouts_less (u:=u.t) (fun t ht=>hfr.less (t:=t) ht)
     have hto:∀ l:List TR,l.map TR.t=wouts (kr.map TR.t) u.t->∀ x ∈ l,TO n.toNat x:=fun l e x hx=>(hwg _ (mem_of_map e hx)).to (Nat.le_trans (hwl _ (mem_of_map e hx)) (by decide))
     have hln:∀ l:List TR,l.map TR.t=wouts (kr.map TR.t) u.t->l.length<=1048576:=fun l e=>by
      have h1:=wouts_len (kr.map TR.t) u.t
      rw[<- e] at h1
      rw[List.length_map] at h1
      omega
     rw[drop_get hut] at hml
     by_cases hraw:(kr.map TR.t).length*(1+u.t.less.length)<=2048
     . by_cases hsz:szT (formT (wouts (kr.map TR.t) u.t))<=128
       . have hw:withoutO n (kr.map TR.t) u.t=(0,n,formT (wouts (kr.map TR.t) u.t)):=by rw[withoutO_ok hraw,bndO_le hsz]
         rw[minusL_go hw] at hml
         (try (conv=>whnf));repeat' (first|refine Ok.seq ?_|((first|refine Ok.region tok ?_|refine Ok.region_plan (id:=8) tok follows [(3,5,[]),(4,5,[]),(1,6,[]),(3,6,[5]),(4,6,[5]),(5,6,[]),(1,7,[]),(3,7,[]),(4,7,[]),(5,7,[]),(6,7,[])] [.q 0,.q 1,.q 2,.q 3,.q 4,.l 5,.l 6,.l 7] (by kernel_rfl) ?_|refine Ok.cond ?_);conv=>whnf)|refine Ok.block ?_|((first|refine Ok.skip ?_|refine nI ?_|refine ix _ (by assumption) ?_);conv=>whnf)|(refine Or.inl ?_;(conv=>whnf);(repeat (refine aI ?_;conv=>whnf));refine⟨_,raw_at (n:=((kr.map trow).length:Int)*(1+((u.t.less.map crow).length:Int))) (by rw[hmul];omega),rfl,?_⟩;conv=>whnf)|(refine Or.inr (Or.inl ?_);(conv=>whnf);(repeat (refine aI ?_;conv=>whnf));refine⟨_,hsp , ?_⟩;rintro _ _ ⟨l,rm3,rfl,rfl,hl⟩<;>(conv=>whnf))|(refine Or.inr (Or.inl ?_);(conv=>whnf);(repeat (refine aI ?_;conv=>whnf));refine⟨_,form_at n n.toNat l (hln l hl) (hto l hl) rfl (by rw[hl];exact hsz) , ?_⟩;rintro _ _ ⟨ks3,rm4,rfl,rfl,hks3,hkm⟩<;>(conv=>whnf))|(refine bI ?_ ?_<;>intro<;>(conv=>whnf)<;>(try (exfalso;omega)))|fail)
         refine⟨(i+1,ks3,rm4),by dsimp only;omega,⟨by dsimp only;omega,by dsimp only;rw[hks3,hl];exact .form hfr.n0 hfr.n1 hwg hsz,by dsimp only;rw[hks3,hl];exact hml⟩,?_⟩
         (conv=>whnf)
         rfl
       . have hw:withoutO n (kr.map TR.t) u.t=(3,0,[]):=by rw[withoutO_ok hraw,bndO_gt (by omega)]
         rw[minusL_stop hw] at hml
         rw[hml]
         (try (conv=>whnf));repeat' (first|refine Ok.seq ?_|((first|refine Ok.region tok ?_|refine Ok.cond ?_);conv=>whnf)|refine Ok.block ?_|((first|refine Ok.skip ?_|refine nI ?_|refine ix _ (by assumption) ?_);conv=>whnf)|(refine Or.inl ?_;(conv=>whnf);(repeat (refine aI ?_;conv=>whnf));refine⟨_,raw_at (n:=((kr.map trow).length:Int)*(1+((u.t.less.map crow).length:Int))) (by rw[hmul];omega),rfl,?_⟩;conv=>whnf)|(refine bI ?_ ?_<;>intro<;>(conv=>whnf)<;>(try (exfalso;omega)))|fail)
         refine Ok.region_planpanS tok follows [(3,5,[]),(4,5,[])] [.q 0,.q 1,.q 2,.q 3,.q 4,.l 5] 6 (by kernel_rfl) ?_;(conv=>whnf)
         (try (conv=>whnf));repeat' (first|(refine Or.inr (Or.inl ?_);(conv=>whnf);(repeat (refine aI ?_;conv=>whnf));refine⟨_,hsp , ?_⟩;rintro _ _ ⟨l,rm3,rfl,rfl,hl⟩<;>(conv=>whnf))|fail)
         refine⟨_,form_pan n n.toNat l (hln l hl) (hto l hl) rfl (by rw[hl];omega),?_⟩
         (conv=>whnf)
         refine⟨rfl,2,3,_,_,rfl,rfl,rfl,rfl,rfl,rfl,by decide,rfl,?_⟩
         (conv=>whnf)
         refine Or.inl ?_;(conv=>whnf)
         exact⟨rfl,_,rfl,PSp.nil 0⟩
     . have hw:withoutO n (kr.map TR.t) u.t=(3,0,[]):=withoutO_raw hraw
       rw[minusL_stop hw] at hml
       rw[hml]
       (try (conv=>whnf));repeat' (first|(refine Ok.region_pan (id:=7) tok 8 ?_;conv=>whnf)|refine Ok.seq ?_|((first|refine Ok.region tok ?_|refine Ok.cond ?_);conv=>whnf)|refine Ok.block ?_|((first|refine Ok.skip ?_|refine nI ?_|refine ix _ (by assumption) ?_);conv=>whnf)|(refine bI ?_ ?_<;>intro<;>(conv=>whnf)<;>(try (exfalso;omega)))|fail)
       refine⟨_,raw_pan (by rw[hmul];omega),?_⟩
       (conv=>whnf)
       refine⟨rfl,2,3,_,_,rfl,rfl,rfl,rfl,rfl,rfl,by decide,rfl,?_⟩
       (conv=>whnf)
       refine Or.inl ?_;(conv=>whnf)
       exact⟨rfl,_,rfl,PSp.nil 0⟩
   . have hie:i=us.length:=by omega
     subst hie
     rw[List.drop_length] at hml
     rw[hml]
     (try (conv=>whnf));repeat' (first|refine Ok.seq ?_|refine OkL.cons ?_|((first|refine Ok.region tok ?_|refine Ok.cond ?_|refine Ok.exit ?_|refine Ok.ret ?_);conv=>whnf)|(refine bI ?_ ?_<;>intro<;>(conv=>whnf)<;>(try (exfalso;omega)))|fail)
     refine Or.inl ?_;(conv=>whnf)
     exact⟨rfl,_,rfl,kr,rr,rfl,rfl⟩
 . rw[minusO_not hfp]
   (try (conv=>whnf));repeat' (first|refine Ok.seq ?_|refine OkL.cons ?_|((first|refine Ok.region tok ?_|refine Ok.cond ?_|refine Ok.skip ?_|refine Ok.ret ?_);conv=>whnf)|(refine Or.inl ?_;(conv=>whnf);(repeat (refine aI ?_;conv=>whnf));refine⟨_,hfit,rfl,?_⟩;conv=>whnf)|(refine bI ?_ ?_<;>intro<;>(conv=>whnf)<;>(try (exfalso;omega)))|fail)
   . refine Or.inl ?_;(conv=>whnf)
     exact⟨rfl,_,rfl,PSp.nil 0⟩
   . rename_i h
     exact absurd hfp h
end Go.Proofs.YtaiondckookpiaaGreatDoor
namespace Go.Proofs.YtaiondckookpiaaGreatDoor
open Go Go.Vx Go.RowKit
theorem idle_before(p q:Addr)(w:World):CallsD Tryz.prog 82 #[.pointer (some p),.pointer (some q)] .returning w fun e u' w'=>e = .returned (.tuple #[])/\u' = .returning/\Ext w w':=by
 refine callsD_of_wpS Tryz.func82 rfl fun c₀ cs hu=>?_
 apply wpS_seq
 apply wpS_region
 simp[wpOpsS,go_sem,recoverD,hu,Tryz.ntmps82,Exit.thenS]
 refine (ours_nil w).mono ?_
 rintro e w' ⟨rfl,rfl⟩
 refine wpS_cond (t:=false) (by simp[Act.eval,Act.put,Array.replicate]) ?_
 simp only[Bool.false_eq_true,if_false]
 refine wpS_of_wp (wp_skip ?_)
 cases c₀
 simp_all[bodyPostS,results,Tryz.results82]
 exact Ext.refl _
theorem caught_before(p q:Addr)(w:World){R:Ending->FrameMode->World->Prop}(h:∀ w1,Ext w w1->∃ w2,(storeCells p [.int .i64 0,.slice none 0 0]).run Tryz.prog w1 = .ok () w2/\∃ w3,(storeCells q [.int .i64 3]).run Tryz.prog w2 = .ok () w3)
    (hR:∀ w1 w2 w3,Ext w w1->(storeCells p [.int .i64 0,.slice none 0 0]).run Tryz.prog w1 = .ok () w2->(storeCells q [.int .i64 3]).run Tryz.prog w2 = .ok () w3->R (.returned (.tuple #[])) (.panicking [{ v:=.iface 154 (.agg #[]),recovered:=true }]) w3) :
    CallsD Tryz.prog 82 #[.pointer (some p),.pointer (some q)] (.panicking [{ v:=.iface 154 (.agg #[]),recovered:=false }]) w R:=by
 refine callsD_of_wpS Tryz.func82 rfl fun c₀ cs hu=>?_
 apply wpS_seq
 apply wpS_region
 simp[wpOpsS,go_sem,recoverD,hu,Tryz.ntmps82,Exit.thenS]
 refine (ours_passed w).mono ?_
 rintro e w1 ⟨rfl,hx⟩
 obtain⟨w2,h1,w3,h2⟩:=h w1 hx
 have hr:=hR w1 w2 w3 hx h1 h2
 refine wpS_cond (t:=true) (by simp[Act.eval,Act.put,Array.replicate]) ?_
 simp only[if_true]
 refine wpS_of_wp ?_
 refine wp_region_lit ?_
 unfold wpList
 rw[if_pos (by simp[Region.wanted])]
 left
 unfold Oper.wp
 rw[run_build2]
 show wpList _ _ _ [_,_] (Act.put _ (some 4) _) w1
 unfold wpList
 rw[if_pos (by simp[Region.wanted])]
 left
 unfold Oper.wp
 rw[run_store2 (p:=p) (z:=[.int .i64 0,.slice none 0 0]) (fun w=>by kernel_rfl) (by simp[Act.eval,Act.put,Array.replicate]) (by simp[Act.eval,Act.put,Array.replicate,Value.cells]) h1]
 show wpList _ _ _ [_] _ w2
 unfold wpList
 rw[if_pos (by simp[Region.wanted])]
 left
 unfold Oper.wp
 rw[run_store2 (p:=q) (z:=[.int .i64 3]) (fun w=>by kernel_rfl) (by simp[Act.eval,Act.put,Array.replicate]) (by simp[Act.eval,Value.cells]) h2]
 show bodyPostS _ _ _ _ _ .normal _ _ w3
 cases c₀
 simp_all[bodyPostS,results,Tryz.results82]
 try exact rfl
theorem def_before:DefSpec Tryz.prog 82 (.iface 154 (.agg #[])) [.int .i64 0,.slice none 0 0] [.int .i64 3]:=
 ⟨Tryz.call82,idle_before,fun p q w h=>caught_before p q w h fun _ _ _ hx h1 h2=>⟨rfl,rfl,_,_,hx,h1,h2⟩⟩
theorem idle_after(p q:Addr)(w:World):CallsD Tryz.prog 94 #[.pointer (some p),.pointer (some q)] .returning w fun e u' w'=>e = .returned (.tuple #[])/\u' = .returning/\Ext w w':=by
 refine callsD_of_wpS Tryz.func94 rfl fun c₀ cs hu=>?_
 apply wpS_seq
 apply wpS_region
 simp[wpOpsS,go_sem,recoverD,hu,Tryz.ntmps94,Exit.thenS]
 refine (ours_nil w).mono ?_
 rintro e w' ⟨rfl,rfl⟩
 refine wpS_cond (t:=false) (by simp[Act.eval,Act.put,Array.replicate]) ?_
 simp only[Bool.false_eq_true,if_false]
 refine wpS_of_wp (wp_skip ?_)
 cases c₀
 simp_all[bodyPostS,results,Tryz.results94]
 exact Ext.refl _
theorem caught_after(p q:Addr)(w:World){R:Ending->FrameMode->World->Prop}(h:∀ w1,Ext w w1->∃ w2,(storeCells p [.int .i64 0,.slice none 0 0]).run Tryz.prog w1 = .ok () w2/\∃ w3,(storeCells q [.int .i64 3]).run Tryz.prog w2 = .ok () w3)
    (hR:∀ w1 w2 w3,Ext w w1->(storeCells p [.int .i64 0,.slice none 0 0]).run Tryz.prog w1 = .ok () w2->(storeCells q [.int .i64 3]).run Tryz.prog w2 = .ok () w3->R (.returned (.tuple #[])) (.panicking [{ v:=.iface 154 (.agg #[]),recovered:=true }]) w3) :
    CallsD Tryz.prog 94 #[.pointer (some p),.pointer (some q)] (.panicking [{ v:=.iface 154 (.agg #[]),recovered:=false }]) w R:=by
 refine callsD_of_wpS Tryz.func94 rfl fun c₀ cs hu=>?_
 apply wpS_seq
 apply wpS_region
 simp[wpOpsS,go_sem,recoverD,hu,Tryz.ntmps94,Exit.thenS]
 refine (ours_passed w).mono ?_
 rintro e w1 ⟨rfl,hx⟩
 obtain⟨w2,h1,w3,h2⟩:=h w1 hx
 have hr:=hR w1 w2 w3 hx h1 h2
 refine wpS_cond (t:=true) (by simp[Act.eval,Act.put,Array.replicate]) ?_
 simp only[if_true]
 refine wpS_of_wp ?_
 refine wp_region_lit ?_
 unfold wpList
 rw[if_pos (by simp[Region.wanted])]
 left
 unfold Oper.wp
 rw[run_build2]
 show wpList _ _ _ [_,_] (Act.put _ (some 4) _) w1
 unfold wpList
 rw[if_pos (by simp[Region.wanted])]
 left
 unfold Oper.wp
 rw[run_store2 (p:=p) (z:=[.int .i64 0,.slice none 0 0]) (fun w=>by kernel_rfl) (by simp[Act.eval,Act.put,Array.replicate]) (by simp[Act.eval,Act.put,Array.replicate,Value.cells]) h1]
 show wpList _ _ _ [_] _ w2
 unfold wpList
 rw[if_pos (by simp[Region.wanted])]
 left
 unfold Oper.wp
 rw[run_store2 (p:=q) (z:=[.int .i64 3]) (fun w=>by kernel_rfl) (by simp[Act.eval,Act.put,Array.replicate]) (by simp[Act.eval,Value.cells]) h2]
 show bodyPostS _ _ _ _ _ .normal _ _ w3
 cases c₀
 simp_all[bodyPostS,results,Tryz.results94]
 try exact rfl
theorem def_after:DefSpec Tryz.prog 94 (.iface 154 (.agg #[])) [.int .i64 0,.slice none 0 0] [.int .i64 3]:=
 ⟨Tryz.call94,idle_after,fun p q w h=>caught_after p q w h fun _ _ _ hx h1 h2=>⟨rfl,rfl,_,_,hx,h1,h2⟩⟩
end Go.Proofs.YtaiondckookpiaaGreatDoor
namespace Go.Proofs.YtaiondckookpiaaGreatDoor
open Go Go.Vx
@[reducible] def w4(f:Nat->Bool):List D:=[.i .u64 ((wof f 0).toNat:Int),.i .u64 ((wof f 1).toNat:Int),.i .u64 ((wof f 2).toNat:Int),.i .u64 ((wof f 3).toNat:Int)]
set_option maxHeartbeats 4000000 in
theorem at_one(f:Nat->Bool)(i:Nat)(hi:i<256):FSpec Tryz.prog T 89 [.ep (w4 f),.i .i64 (i:Int)] (fun d rows=>d = .b (f i=true)/\rows=[]):=by
 refine FSpec.of_ok tok Tryz.func89 rfl Tryz.call89 (by simp) ?_
 obtain⟨q,r,hqr,hr,hq⟩:=split64 i (by omega)
 have hrem:=rem64 hqr hr
 have hquo:=quo64 hqr hr (by omega)
 have hrr:((r:Nat):Int)=((r:Nat):Int)/\r<64:=⟨rfl,hr⟩
 have hca:=at_word (f:=f) hqr hr
 rcases hq with rfl|rfl|rfl|rfl
 all_goals
  (try (conv=>whnf));repeat' (first|((with_reducible_and_instances (first|refine nShr (by assumption) ?_|refine nAnd1' rfl ?_));conv=>whnf)|refine Ok.seq ?_|((first|refine Ok.region tok ?_|refine⟨_,(hquo.symm).symm,?_⟩|refine⟨_,(hrem.symm).symm,?_⟩|refine Ok.ret ?_|refine aJ ?_|refine⟨_,rfl,?_⟩);conv=>whnf)|fail)
  refine Or.inl ?_;(conv=>whnf)
  exact⟨congrArg D.b (propext hca),rfl⟩
set_option maxHeartbeats 4000000 in
theorem at_two(f g:Nat->Bool)(i:Nat)(hi:i<256):FSpec Tryz.prog T 89 [.ep (w4 f++w4 g),.i .i64 (i:Int)] (fun d rows=>d = .b (f i=true)/\rows=[]):=by
 refine FSpec.of_ok tok Tryz.func89 rfl Tryz.call89 (by simp) ?_
 obtain⟨q,r,hqr,hr,hq⟩:=split64 i (by omega)
 have hrem:=rem64 hqr hr
 have hquo:=quo64 hqr hr (by omega)
 have hrr:((r:Nat):Int)=((r:Nat):Int)/\r<64:=⟨rfl,hr⟩
 have hca:=at_word (f:=f) hqr hr
 rcases hq with rfl|rfl|rfl|rfl
 all_goals
  (try (conv=>whnf));repeat' (first|((with_reducible_and_instances (first|refine nShr (by assumption) ?_|refine nAnd1' rfl ?_));conv=>whnf)|refine Ok.seq ?_|((first|refine Ok.region tok ?_|refine⟨_,(hquo.symm).symm,?_⟩|refine⟨_,(hrem.symm).symm,?_⟩|refine Ok.ret ?_|refine aJ ?_|refine⟨_,rfl,?_⟩);conv=>whnf)|fail)
  refine Or.inl ?_;(conv=>whnf)
  exact⟨congrArg D.b (propext hca),rfl⟩
theorem ints_crow(c:Str):∀ d ∈ crow c,∃ k n,d = .i k n:=by
 intro d hd
 simp only[List.mem_cons,List.not_mem_nil,or_false] at hd
 rcases hd with rfl|rfl|rfl|rfl|rfl|rfl|rfl|rfl|rfl<;>exact⟨_,_,rfl⟩
theorem pk2{box:List (List D)}{a b x y:D}(h1:Pk box a x)(h2:Pk box b y):∀ (j:Nat) d e,[a,b][j]? = some d->[x,y][j]? = some e->Pk box d e:=by
 intro j d e hd he
 match j,hd,he with
 | 0,hd,he=>cases hd;cases he;exact h1
 | 1,hd,he=>cases hd;cases he;exact h2
 | j+2,hd,_=>simp at hd
def hasC(c h:Str):Prop:=c ≠ []/\h.length=c.length/\(∀ b ∈ h,b=48\/b=49)/\inL h c
set_option maxHeartbeats 4000000 in
theorem has_at(c h:Str)(hc:CT c):FSpec Tryz.prog T 124 [.agg (crow c),.s h] (fun r _=>r = .b (hasC c h)):=by
 have hcl:=hc.len
 refine FSpec.of_ok tok Tryz.func124 rfl Tryz.call124 (by simp) ?_
 (try (conv=>whnf));repeat' (first|refine Ok.seq ?_|((first|refine Ok.region tok ?_|refine Ok.cond ?_);conv=>whnf)|refine Ok.block ?_|((first|refine Ok.skip ?_|refine Ok.ret ?_);conv=>whnf)|(refine bI ?_ ?_<;>intro<;>(conv=>whnf)<;>(try (exfalso;omega)))|fail)
 . rename_i h0
   refine Or.inl ?_;(conv=>whnf)
   show D.b False=_
   exact congrArg D.b (propext ⟨fun q=>q.elim,fun q=>q.1 (List.eq_nil_of_length_eq_zero (by omega))⟩)
 . rename_i h0 h1
   refine Or.inl ?_;(conv=>whnf)
   show D.b False=_
   exact congrArg D.b (propext ⟨fun q=>q.elim,fun q=>by have:=q.2.1;omega⟩)
 rename_i h0 h1
 have hl:h.length=c.length:=by omega
 have hne:c ≠ []:=fun e=>h0 (by rw[e];rfl)
 refine Ok.loopU [1,2,17] [18] 0 1 (fun (i:Nat)=>[.i .i64 (i:Nat)]) (fun _ b=>b) (fun _ r=>r) (fun (i:Nat)=>i<=c.length/\(∀ (k:Nat) a b,k<i->h[k]? = some a->c[k]? = some b->(a=48\/a=49)/\(b=120\/b=a))) (fun (i:Nat)=>c.length - i) (0) (⟨Nat.zero_le _,fun k _ _ hk=>absurd hk (by omega)⟩) ?_;(conv=>whnf);refine⟨by ((conv=>whnf);first|rfl|(simp[envCat,List.take_of_length_le,cells9,crow,trow];done)|(simp[envCat,List.take_of_length_le,cells9,crow,trow];rw[IntKind.wrap_i64];omega)),?_⟩
 rintro i ⟨hi,hall⟩
 (conv=>whnf)
 by_cases hil:i<c.length
 . obtain⟨a,ha⟩:∃ a,h[i]? = some a:=⟨_,List.getElem?_eq_getElem (by omega)⟩
   obtain⟨b,hb⟩:∃ b,c[i]? = some b:=⟨_,List.getElem?_eq_getElem hil⟩
   have haI:h[((i:Nat):Int).toNat]? = some a:=ha
   have s1:=at_two (car c) (one c) i (by omega)
   have s2:=at_one (one c) i (by omega)
   have miss:¬ ((a=48\/a=49)/\(b=120\/b=a))->¬ hasC c h:=fun hm q=>hm ⟨q.2.2.1 a (List.mem_of_getElem? ha),(inL_iff.1 q.2.2.2).2 i a b ha hb⟩
   have step:(a=48\/a=49)/\(b=120\/b=a)->∀ (k:Nat) x y,k<i+1->h[k]? = some x->c[k]? = some y->(x=48\/x=49)/\(y=120\/y=x):=fun hm k x y hk hx hy=>by
    by_cases hki:k=i
    . subst hki
      rw[ha] at hx
      rw[hb] at hy
      cases hx
      cases hy
      exact hm
    . exact hall k x y (by omega) hx hy
   by_cases hd:a=48\/a=49
   . have hbc:=hc.cub b (List.mem_of_getElem? hb)
     rw[(at_b hb).1] at s1
     rw[(at_b hb).2] at s2
     rcases hbc with rfl|rfl|rfl<;>rcases hd with rfl|rfl
     all_goals
      (try (conv=>whnf));repeat' (first|refine Ok.seq ?_|((first|refine Ok.region tok ?_|refine Ok.region_plan (id:=8) tok follows [(2,6,[3])] [.q 0,.q 1,.l 2,.q 3,.q 4,.q 5,.q 7,.q 8,.q 9,.q 10,.l 6,.q 11,.q 12] (by kernel_rfl) ?_|refine Ok.cond ?_);conv=>whnf)|refine Ok.block ?_|((first|refine Ok.skip ?_|refine Ok.ret ?_|refine nI ?_|refine⟨_,by assumption,?_⟩);conv=>whnf)|(refine Or.inr (Or.inr (Or.inr ?_));(conv=>whnf);refine effK.peek (by rfl) (pk2 (.bp _ _ ( crow c) rfl (fun d hd=>ints_crow _ d (List.mem_of_mem_drop hd))) (.i _ _)) (s1 ) ?_;rintro _ _ ⟨rfl,rfl⟩;(refine And.intro (by simp[gRowsP,grounds,D.ground]) ?_;conv=>whnf))|(refine Or.inr (Or.inr (Or.inr ?_));(conv=>whnf);refine effK.peek (by rfl) (pk2 (.bp _ _ ( crow c) rfl (fun d hd=>ints_crow _ d (List.mem_of_mem_drop hd))) (.i _ _)) (s2 ) ?_;rintro _ _ ⟨rfl,rfl⟩;(refine And.intro (by simp[gRowsP,grounds,D.ground]) ?_;conv=>whnf))|(refine bI ?_ ?_<;>intro<;>(conv=>whnf)<;>(try (exfalso;omega)))|((first|refine aJ ?_|refine num_any ?_);conv=>whnf)|fail)
      all_goals first
       | contradiction
       | (refine⟨i+1,by omega,⟨by omega,step (by decide)⟩,?_⟩
          (conv=>whnf)
          rfl)
       | (refine Or.inl ?_;(conv=>whnf)
          show D.b False=_
          exact congrArg D.b (propext ⟨fun q=>q.elim,fun q=>miss (by decide) q⟩))
   . have hb3:=u8_ne (fun e=>hd (.inl e):a ≠ 48)
     have hb4:=u8_ne (fun e=>hd (.inr e):a ≠ 49)
     rw[show (((48:UInt8).toNat:Nat):Int)=48 from rfl] at hb3
     rw[show (((49:UInt8).toNat:Nat):Int)=49 from rfl] at hb4
     (try (conv=>whnf));repeat' (first|refine Ok.seq ?_|((first|refine Ok.region tok ?_|refine Ok.cond ?_);conv=>whnf)|refine Ok.block ?_|((first|refine Ok.skip ?_|refine Ok.ret ?_|refine⟨_,by assumption,?_⟩);conv=>whnf)|(refine bI ?_ ?_<;>intro<;>(conv=>whnf)<;>(try (exfalso;omega)))|((first|refine aJ ?_|refine num_any ?_);conv=>whnf)|fail)
     all_goals first
      | contradiction
      | (refine Or.inl ?_;(conv=>whnf)
         show D.b False=_
         exact congrArg D.b (propext ⟨fun q=>q.elim,fun q=>miss (fun m=>hd m.1) q⟩))
 . have hie:i=c.length:=by omega
   subst hie
   (try (conv=>whnf));repeat' (first|refine Ok.seq ?_|((first|refine Ok.region tok ?_|refine Ok.cond ?_|refine Ok.exit ?_|refine Ok.ret ?_);conv=>whnf)|(refine bI ?_ ?_<;>intro<;>(conv=>whnf)<;>(try (exfalso;omega)))|fail)
   refine Or.inl ?_;(conv=>whnf)
   show D.b True=_
   refine congrArg D.b (propext ⟨fun _=>⟨hne,hl,fun b hb=>?_,inL_iff.2 ⟨hl,fun k x y hx hy=>(hall k x y (by have:=(List.getElem?_eq_some_iff.1 hy).1;omega) hx hy).2⟩⟩,fun _=>trivial⟩)
   obtain⟨k,hk⟩:=List.getElem?_of_mem hb
   have hkl:=(List.getElem?_eq_some_iff.1 hk).1
   exact (hall k b _ (by omega) hk (List.getElem?_eq_getElem (by omega))).1
end Go.Proofs.YtaiondckookpiaaGreatDoor
namespace Go.Proofs.YtaiondckookpiaaGreatDoor
open Go Go.Vx
def termHas(t:Term)(h:Str):Prop:=hasC t.p h/\∀ m ∈ t.less,¬ hasC m h
def hasS(ts:List Term)(h:Str):Prop:=∃ t ∈ ts,termHas t h
set_option maxHeartbeats 4000000 in
theorem termHas_at(x:TR)(hx:TN x)(h:Str):FSpec Tryz.prog T 76 [.agg (trow x),.s h] (fun r _=>r = .b (termHas x.t h)):=by
 have hn:=hx.n
 have hll:(x.t.less.map crow).length=x.t.less.length:=by simp
 refine FSpec.of_ok tok Tryz.func76 rfl Tryz.call76 (by simp) ?_
 (try (conv=>whnf));repeat' (first|refine Ok.seq ?_|((first|refine Ok.region tok ?_|refine Ok.cond ?_);conv=>whnf)|refine Ok.block ?_|((first|refine Ok.skip ?_|refine Ok.ret ?_);conv=>whnf)|(refine Or.inl ?_;(conv=>whnf);(repeat (refine aI ?_;conv=>whnf));refine⟨_,has_at x.t.p h hx.p.1,rfl,?_⟩;conv=>whnf)|(refine bI ?_ ?_<;>intro<;>(conv=>whnf)<;>(try (exfalso;omega)))|fail)
 . rename_i h0
   refine Or.inl ?_;(conv=>whnf)
   show D.b False=_
   exact congrArg D.b (propext ⟨fun q=>q.elim,fun q=>h0 q.1⟩)
 rename_i h0
 have hp:=Classical.not_not.1 h0
 refine Ok.loopU [1,13,14] [15] 0 1 (fun (i:Nat)=>[.i .i64 (i:Nat)]) (fun _ b=>b) (fun _ r=>r) (fun (i:Nat)=>i<=x.t.less.length/\∀ m ∈ x.t.less.take i,¬ hasC m h) (fun (i:Nat)=>x.t.less.length - i) (0) (⟨Nat.zero_le _,by simp⟩) ?_;(conv=>whnf);refine⟨by ((conv=>whnf);first|rfl|(simp[envCat,List.take_of_length_le,crow,trow,srow,drow];done)|(simp[envCat,List.take_of_length_le,crow,trow,srow,drow];rw[IntKind.wrap_i64];omega)),?_⟩
 rintro i ⟨hi,hno⟩
 (conv=>whnf)
 by_cases hil:i<x.t.less.length
 . obtain⟨m,hm⟩:∃ m,x.t.less[i]? = some m:=⟨_,List.getElem?_eq_getElem hil⟩
   have hmc:=hx.less m (List.mem_of_getElem? hm)
   (try (conv=>whnf));repeat' (first|refine Ok.seq ?_|((first|refine Ok.region tok ?_|refine Ok.cond ?_);conv=>whnf)|refine Ok.block ?_|((first|refine Ok.skip ?_|refine Ok.ret ?_|refine nI ?_|refine ix _ (by assumption) ?_);conv=>whnf)|(refine Or.inl ?_;(conv=>whnf);(repeat (refine aI ?_;conv=>whnf));refine⟨_,has_at m h hmc.1,rfl,?_⟩;conv=>whnf)|(refine bI ?_ ?_<;>intro<;>(conv=>whnf)<;>(try (exfalso;omega)))|fail)
   . rename_i h1
     refine Or.inl ?_;(conv=>whnf)
     show D.b False=_
     exact congrArg D.b (propext ⟨fun q=>q.elim,fun q=>q.2 m (List.mem_of_getElem? hm) h1⟩)
   . rename_i h1
     refine⟨i+1,by omega,⟨by omega,fun z hz=>?_⟩,?_⟩
     . rw[take_snoc hm] at hz
       rcases List.mem_append.1 hz with hz|hz
       . exact hno z hz
       . simp at hz;rw[hz];exact h1
     . (conv=>whnf)
       rfl
 . have hie:i=x.t.less.length:=by omega
   subst hie
   rw[List.take_length] at hno
   (try (conv=>whnf));repeat' (first|refine Ok.seq ?_|((first|refine Ok.region tok ?_|refine Ok.cond ?_|refine Ok.exit ?_|refine Ok.ret ?_);conv=>whnf)|(refine bI ?_ ?_<;>intro<;>(conv=>whnf)<;>(try (exfalso;omega)))|fail)
   refine Or.inl ?_;(conv=>whnf)
   show D.b True=_
   exact congrArg D.b (propext ⟨fun _=>⟨hp,hno⟩,fun _=>trivial⟩)
set_option maxHeartbeats 4000000 in
theorem hasS_at{n:Int}{ts:List Term}(hf:Fine n ts)(ks:List TR)(rm:List (List D))(h1:ks.map TR.t=ts)(h:Str):FSpec Tryz.prog T 23 [.agg [.i .i64 n,.lst 112 (ks.map trow) rm],.s h] (fun r _=>r = .b (hasS ts h)):=by
 have hll:(ks.map trow).length=ks.length:=by simp
 have hkl:=hf.mlen h1
 refine FSpec.of_ok tok Tryz.func23 rfl Tryz.call23 (by simp) ?_
 (try (conv=>whnf));repeat' (first|refine Ok.seq ?_|(refine Ok.region tok ?_;conv=>whnf)|refine Ok.block ?_|fail)
 refine Ok.loopU [1,8,9] [10] 0 1 (fun (i:Nat)=>[.i .i64 (i:Nat)]) (fun _ b=>b) (fun _ r=>r) (fun (i:Nat)=>i<=ks.length/\∀ x ∈ ks.take i,¬ termHas x.t h) (fun (i:Nat)=>ks.length - i) (0) (⟨Nat.zero_le _,by simp⟩) ?_;(conv=>whnf);refine⟨by ((conv=>whnf);first|rfl|(simp[envCat,List.take_of_length_le,crow,trow,srow,drow];done)|(simp[envCat,List.take_of_length_le,crow,trow,srow,drow];rw[IntKind.wrap_i64];omega)),?_⟩
 rintro i ⟨hi,hno⟩
 (conv=>whnf)
 by_cases hil:i<ks.length
 . obtain⟨x,hx⟩:∃ x,ks[i]? = some x:=⟨_,List.getElem?_eq_getElem hil⟩
   have hxm:=List.mem_of_getElem? hx
   (try (conv=>whnf));repeat' (first|refine Ok.seq ?_|((first|refine Ok.region tok ?_|refine Ok.cond ?_);conv=>whnf)|refine Ok.block ?_|((first|refine Ok.skip ?_|refine Ok.ret ?_|refine nI ?_|refine ix _ (by assumption) ?_);conv=>whnf)|(refine Or.inl ?_;(conv=>whnf);(repeat (refine aI ?_;conv=>whnf));refine⟨_,termHas_at x (hf.to h1 x hxm).tn h,rfl,?_⟩;conv=>whnf)|(refine bI ?_ ?_<;>intro<;>(conv=>whnf)<;>(try (exfalso;omega)))|fail)
   . rename_i h2
     refine Or.inl ?_;(conv=>whnf)
     show D.b True=_
     exact congrArg D.b (propext ⟨fun _=>⟨x.t,mem_of_map h1 hxm,h2⟩,fun _=>trivial⟩)
   . rename_i h2
     refine⟨i+1,by omega,⟨by omega,fun z hz=>?_⟩,?_⟩
     . rw[take_snoc hx] at hz
       rcases List.mem_append.1 hz with hz|hz
       . exact hno z hz
       . simp at hz;rw[hz];exact h2
     . (conv=>whnf)
       rfl
 . have hie:i=ks.length:=by omega
   subst hie
   rw[List.take_length] at hno
   (try (conv=>whnf));repeat' (first|refine Ok.seq ?_|((first|refine Ok.region tok ?_|refine Ok.cond ?_|refine Ok.exit ?_|refine Ok.ret ?_);conv=>whnf)|(refine bI ?_ ?_<;>intro<;>(conv=>whnf)<;>(try (exfalso;omega)))|fail)
   refine Or.inl ?_;(conv=>whnf)
   show D.b False=_
   refine congrArg D.b (propext ⟨fun q=>q.elim,fun⟨t,ht,q⟩=>?_⟩)
   rw[<- h1] at ht
   obtain⟨x,hx,rfl⟩:=List.mem_map.1 ht
   exact hno x hx q
def hdrP(n:Int)(h:Str):Prop:=(h.length:Int)=n/\n ≠ 0/\∀ b ∈ h,b=48\/b=49
theorem hasC_iff{n:Int}{c h:Str}(hc:c ≠ [])(hn:(c.length:Int)=n):hasC c h ↔ hdrP n h/\inT h c:=by
 have h0:c.length ≠ 0:=fun e=>hc (List.eq_nil_of_length_eq_zero e)
 constructor
 . rintro⟨_,h2,h3,h4⟩
   exact⟨⟨by omega,by omega,h3⟩,fun e=>h0 (by rw[<- h2,e];rfl),h4⟩
 . rintro⟨⟨h1,_,h3⟩,_,h4⟩
   exact⟨hc,inL_len h4,h3,h4⟩
theorem termHas_iff{n:Int}{t:Term}{h:Str}(hg:GoodT n.toNat t)(h0:0<=n)(hd:hdrP n h):termHas t h ↔ inT h t.p/\∀ m ∈ t.less,¬ inT h m:=by
 have hp:(t.p.length:Int)=n:=by have:=hg.ok.p;omega
 have hm:∀ m ∈ t.less,(m.length:Int)=n:=fun m hm=>by have:=hg.ok.wide.2 m hm;omega
 unfold termHas
 rw[hasC_iff hg.p.2 hp]
 constructor
 . rintro⟨⟨_,h1⟩,h2⟩
   exact⟨h1,fun m hmm q=>h2 m hmm ((hasC_iff (hg.less m hmm).2 (hm m hmm)).2 ⟨hd,q⟩)⟩
 . rintro⟨h1,h2⟩
   exact⟨⟨hd,h1⟩,fun m hmm q=>h2 m hmm ((hasC_iff (hg.less m hmm).2 (hm m hmm)).1 q).2⟩
set_option maxHeartbeats 4000000 in
theorem rhdr_at(n:Int)(h:Str)(hn:n<=256):FSpec Tryz.prog T 77 [.i .i64 n,.s h] (fun r _=>r = .b (hdrP n h)):=by
 refine FSpec.of_ok tok Tryz.func77 rfl Tryz.call77 (by simp) ?_
 (try (conv=>whnf));repeat' (first|refine Ok.seq ?_|((first|refine Ok.region tok ?_|refine Ok.cond ?_);conv=>whnf)|refine Ok.block ?_|((first|refine Ok.skip ?_|refine Ok.ret ?_);conv=>whnf)|(refine bI ?_ ?_<;>intro<;>(conv=>whnf)<;>(try (exfalso;omega)))|fail)
 . rename_i h0
   refine Or.inl ?_;(conv=>whnf)
   show D.b False=_
   exact congrArg D.b (propext ⟨fun q=>q.elim,fun q=>h0 q.1⟩)
 . rename_i h0 h1
   refine Or.inl ?_;(conv=>whnf)
   show D.b False=_
   exact congrArg D.b (propext ⟨fun q=>q.elim,fun q=>q.2.1 h1⟩)
 rename_i h0 h1
 have hl:(h.length:Int)=n:=Classical.not_not.1 h0
 refine Ok.loopU [1] [5] 0 0 (fun (i:Nat)=>[.i .i64 (i:Nat)]) (fun _ b=>b) (fun _ r=>r) (fun (i:Nat)=>i<=h.length/\∀ b ∈ h.take i,b=48\/b=49) (fun (i:Nat)=>h.length - i) (0) (⟨Nat.zero_le _,by simp⟩) ?_;(conv=>whnf);refine⟨by ((conv=>whnf);first|rfl|(simp[envCat,List.take_of_length_le,crow,trow,srow,drow];done)|(simp[envCat,List.take_of_length_le,crow,trow,srow,drow];rw[IntKind.wrap_i64];omega)),?_⟩
 rintro i ⟨hi,hall⟩
 (conv=>whnf)
 by_cases hil:i<h.length
 . obtain⟨a,ha⟩:∃ a,h[i]? = some a:=⟨_,List.getElem?_eq_getElem hil⟩
   have haI:h[((i:Nat):Int).toNat]? = some a:=ha
   by_cases hd:a=48\/a=49
   . have hd2:((a.toNat:Nat):Int)=48\/((a.toNat:Nat):Int)=49:=by
       rcases hd with rfl|rfl
       . exact .inl rfl
       . exact .inr rfl
     (try (conv=>whnf));repeat' (first|refine Ok.seq ?_|((first|refine Ok.region tok ?_|refine Ok.cond ?_);conv=>whnf)|refine Ok.block ?_|((first|refine Ok.skip ?_|refine nI ?_|refine⟨_,by assumption,?_⟩);conv=>whnf)|(refine bI ?_ ?_<;>intro<;>(conv=>whnf)<;>(try (exfalso;omega)))|((first|refine aJ ?_|refine num_any ?_);conv=>whnf)|fail)
     all_goals
      refine⟨i+1,by omega,⟨by omega,fun z hz=>?_⟩,?_⟩
      . rw[take_snoc ha] at hz
        rcases List.mem_append.1 hz with hz|hz
        . exact hall z hz
        . simp at hz;rw[hz];exact hd
      . (conv=>whnf)
        rfl
   . have hb3:=u8_ne (fun e=>hd (.inl e):a ≠ 48)
     have hb4:=u8_ne (fun e=>hd (.inr e):a ≠ 49)
     rw[show (((48:UInt8).toNat:Nat):Int)=48 from rfl] at hb3
     rw[show (((49:UInt8).toNat:Nat):Int)=49 from rfl] at hb4
     (try (conv=>whnf));repeat' (first|refine Ok.seq ?_|((first|refine Ok.region tok ?_|refine Ok.cond ?_);conv=>whnf)|refine Ok.block ?_|((first|refine Ok.skip ?_|refine Ok.ret ?_|refine⟨_,by assumption,?_⟩);conv=>whnf)|(refine bI ?_ ?_<;>intro<;>(conv=>whnf)<;>(try (exfalso;omega)))|((first|refine aJ ?_|refine num_any ?_);conv=>whnf)|fail)
     all_goals
      refine Or.inl ?_;(conv=>whnf)
      show D.b False=_
      exact congrArg D.b (propext ⟨fun q=>q.elim,fun q=>hd (q.2.2 a (List.mem_of_getElem? ha))⟩)
 . have hie:i=h.length:=by omega
   subst hie
   rw[List.take_length] at hall
   (try (conv=>whnf));repeat' (first|refine Ok.seq ?_|((first|refine Ok.region tok ?_|refine Ok.cond ?_|refine Ok.exit ?_|refine Ok.ret ?_);conv=>whnf)|(refine bI ?_ ?_<;>intro<;>(conv=>whnf)<;>(try (exfalso;omega)))|fail)
   refine Or.inl ?_;(conv=>whnf)
   show D.b True=_
   exact congrArg D.b (propext ⟨fun _=>⟨hl,h1,hall⟩,fun _=>trivial⟩)
end Go.Proofs.YtaiondckookpiaaGreatDoor
namespace Go.Proofs.YtaiondckookpiaaGreatDoor
open Go Go.Vx
set_option maxRecDepth 100000 in
set_option maxHeartbeats 8000000 in
theorem rhas_at{n:Int}{ts:List Term}(hf:Fine n ts)(ks:List TR)(rm:List (List D))(h1:ks.map TR.t=ts)(h:Str):FSpec Tryz.prog T 24 [.agg [.i .i64 n,.lst 120 (ks.map drow) rm],.s h] (fun r _=>r = .b (hasS ts h)):=by
 have hll:(ks.map drow).length=ks.length:=by simp
 have hkl:=hf.mlen h1
 have hn1:=hf.n1
 refine FSpec.of_ok tok Tryz.func24 rfl Tryz.call24 (by simp) ?_
 (try (conv=>whnf));repeat' (first|refine Ok.seq ?_|((first|refine Ok.region tok ?_|refine Ok.cond ?_);conv=>whnf)|refine Ok.block ?_|((first|refine Ok.skip ?_|refine Ok.ret ?_);conv=>whnf)|(refine Or.inl ?_;(conv=>whnf);(repeat (refine aI ?_;conv=>whnf));refine⟨_,rhdr_at n h hf.n1,rfl,?_⟩;conv=>whnf)|(refine bI ?_ ?_<;>intro<;>(conv=>whnf)<;>(try (exfalso;omega)))|fail)
 . rename_i h0
   refine Or.inl ?_;(conv=>whnf)
   show D.b False=_
   refine congrArg D.b (propext ⟨fun q=>q.elim,fun⟨t,ht,q⟩=>?_⟩)
   have hg:=hf.good t ht
   exact h0 ((hasC_iff hg.p.2 (by have:=hg.ok.p;have:=hf.n0;omega)).1 q.1).1
 rename_i h0
 have hd:=Classical.not_not.1 h0
 have hhl:h.length<=100000:=by have:=hd.1;omega
 have iff:∀ x ∈ ks,(termHas x.t h ↔ inT h x.t.p/\∀ m ∈ x.t.less,¬ inT h m):=fun x hx=>termHas_iff (hf.good _ (mem_of_map h1 hx)) hf.n0 hd
 refine Ok.loopU [1,2] [5] 0 1 (fun (i:Nat)=>[.i .i64 (i:Nat)]) (fun _ b=>b) (fun _ r=>r) (fun (i:Nat)=>i<=ks.length/\∀ x ∈ ks.take i,¬ termHas x.t h) (fun (i:Nat)=>ks.length - i) (0) (⟨Nat.zero_le _,by simp⟩) ?_;(conv=>whnf);refine⟨by ((conv=>whnf);first|rfl|(simp[envCat,List.take_of_length_le,crow,trow,srow,drow];done)|(simp[envCat,List.take_of_length_le,crow,trow,srow,drow];rw[IntKind.wrap_i64];omega)),?_⟩
 rintro i ⟨hi,hno⟩
 (conv=>whnf)
 by_cases hil:i<ks.length
 . obtain⟨x,hx⟩:∃ x,ks[i]? = some x:=⟨_,List.getElem?_eq_getElem hil⟩
   have hxI:ks[((i:Nat):Int).toNat]? = some x:=hx
   have hxm:=List.mem_of_getElem? hx
   have hxl:=hf.mless h1 x hxm
   have hxl2:(x.t.less.map srow).length=x.t.less.length:=by simp
   have hix:=iff x hxm
   have next:¬ termHas x.t h->∀ z ∈ ks.take (i+1),¬ termHas z.t h:=fun hq z hz=>by
    rw[take_snoc hx] at hz
    rcases List.mem_append.1 hz with hz|hz
    . exact hno z hz
    . simp at hz;rw[hz];exact hq
   (try (conv=>whnf));repeat' (first|refine Ok.seq ?_|((first|refine Ok.region tok ?_|refine Ok.cond ?_);conv=>whnf)|refine Ok.block ?_|((first|refine Ok.skip ?_|refine ix _ (by assumption) ?_);conv=>whnf)|(refine Or.inl ?_;(conv=>whnf);(repeat (refine aI ?_;conv=>whnf));refine⟨_,rinside_at h x.t.p hhl,rfl,?_⟩;conv=>whnf)|(refine bI ?_ ?_<;>intro<;>(conv=>whnf)<;>(try (exfalso;omega)))|fail)
   refine Ok.loopU [1,2,5] [6,7] 0 1 (fun (y:Nat × Prop)=>[.b y.2,.i .i64 (y.1:Nat)]) (fun _ b=>b) (fun _ r=>r) (fun (y:Nat × Prop)=>y.1<=x.t.less.length/\(y.2 ↔ inT h x.t.p/\∀ m ∈ x.t.less.take y.1,¬ inT h m)) (fun (y:Nat × Prop)=>x.t.less.length - y.1) ((0,inT h x.t.p)) (⟨Nat.zero_le _,by simp⟩) ?_;(conv=>whnf);refine⟨by ((conv=>whnf);first|rfl|(simp[envCat,List.take_of_length_le,crow,trow,srow,drow];done)|(simp[envCat,List.take_of_length_le,crow,trow,srow,drow];rw[IntKind.wrap_i64];omega)),?_⟩
   rintro⟨j,pin⟩ ⟨hj,hpin⟩
   dsimp only at hj hpin ⊢
   have stop:¬ pin->¬ termHas x.t h:=fun hq q=>hq (hpin.2 ⟨(hix.1 q).1,fun m hm=>(hix.1 q).2 m (List.mem_of_mem_take hm)⟩)
   (conv=>whnf)
   by_cases hjl:j<x.t.less.length
   . obtain⟨m,hm⟩:∃ m,x.t.less[j]? = some m:=⟨_,List.getElem?_eq_getElem hjl⟩
     have hmI:x.t.less[((j:Nat):Int).toNat]? = some m:=hm
     (try (conv=>whnf));repeat' (first|refine Ok.seq ?_|((first|refine Ok.region tok ?_|refine Ok.cond ?_);conv=>whnf)|refine Ok.block ?_|((first|refine Ok.skip ?_|refine Ok.exit ?_|refine Ok.ret ?_|refine nI ?_|refine ix _ (by assumption) ?_);conv=>whnf)|(refine Or.inl ?_;(conv=>whnf);(repeat (refine aI ?_;conv=>whnf));refine⟨_,rinside_at h m hhl,rfl,?_⟩;conv=>whnf)|(refine bI ?_ ?_<;>intro<;>(conv=>whnf)<;>(try (exfalso;omega)))|fail)
     . rename_i hp
       refine⟨(j+1,¬ inT h m),by dsimp only;omega,⟨by dsimp only;omega,?_⟩,?_⟩
       . dsimp only
         rw[take_snoc hm]
         have h2:=hpin.1 hp
         constructor
         . intro q
           refine⟨h2.1,fun z hz=>?_⟩
           rcases List.mem_append.1 hz with hz|hz
           . exact h2.2 z hz
           . simp at hz;rw[hz];exact q
         . intro q
           exact q.2 m (by simp)
       . (conv=>whnf)
         rfl
     . rename_i hp hp2
       exact absurd hp2 hp
     . rename_i hp
       refine⟨i+1,by omega,⟨by omega,next (stop hp)⟩,?_⟩
       (conv=>whnf)
       rfl
   . have hje:j=x.t.less.length:=by omega
     subst hje
     rw[List.take_length] at hpin
     rw[<- hix] at hpin
     (try (conv=>whnf));repeat' (first|refine Ok.seq ?_|((first|refine Ok.region tok ?_|refine Ok.cond ?_|refine Ok.skip ?_|refine Ok.exit ?_|refine Ok.ret ?_|refine nI ?_|refine ix _ (by assumption) ?_);conv=>whnf)|(refine bI ?_ ?_<;>intro<;>(conv=>whnf)<;>(try (exfalso;omega)))|fail)
     . rename_i hp
       refine Or.inl ?_;(conv=>whnf)
       show D.b True=_
       exact congrArg D.b (propext ⟨fun _=>⟨x.t,mem_of_map h1 hxm,hpin.1 hp⟩,fun _=>trivial⟩)
     . rename_i hp
       refine⟨i+1,by omega,⟨by omega,next fun q=>hp (hpin.2 q)⟩,?_⟩
       (conv=>whnf)
       rfl
 . have hie:i=ks.length:=by omega
   subst hie
   rw[List.take_length] at hno
   (try (conv=>whnf));repeat' (first|refine Ok.seq ?_|((first|refine Ok.region tok ?_|refine Ok.cond ?_|refine Ok.exit ?_|refine Ok.ret ?_);conv=>whnf)|(refine bI ?_ ?_<;>intro<;>(conv=>whnf)<;>(try (exfalso;omega)))|fail)
   refine Or.inl ?_;(conv=>whnf)
   show D.b False=_
   refine congrArg D.b (propext ⟨fun q=>q.elim,fun⟨t,ht,q⟩=>?_⟩)
   rw[<- h1] at ht
   obtain⟨x,hx,rfl⟩:=List.mem_map.1 ht
   exact hno x hx q
end Go.Proofs.YtaiondckookpiaaGreatDoor
namespace Go.Proofs.YtaiondckookpiaaGreatDoor
open Go Go.Vx
def bef1(a b:UInt8):UInt8:=if b=120 then a else 120
def befL(c r:Str):Str:=List.zipWith bef1 c r
def beforeT(c r:Str):Option Str:=if (meetT c r).isSome then some (befL c r) else none
theorem beforeT_some{c r x:Str}(h:beforeT c r=some x):(meetT c r).isSome=true/\x=befL c r:=by
 unfold beforeT at h
 split at h
 . rename_i h1;cases h;exact⟨h1,rfl⟩
 . cases h
theorem befL_len{c r:Str}(h:r.length=c.length):(befL c r).length=c.length:=by simp[befL,h]
theorem befL_get{c r:Str}{i:Nat}{a b:UInt8}(ha:c[i]? = some a)(hb:r[i]? = some b):(befL c r)[i]? = some (bef1 a b):=by
 simp[befL,List.getElem?_zipWith,ha,hb]
theorem befL_bits{c r:Str}(h:r.length=c.length)(hr:CT r)(i:Nat):car (befL c r) i=(car c i && !car r i)/\one (befL c r) i=(one c i && !car r i):=by
 by_cases hi:i<c.length
 . have e1:=List.getElem?_eq_getElem hi
   have e2:=List.getElem?_eq_getElem (show i<r.length by omega)
   have e3:=befL_get e1 e2
   rw[(at_b e1).1,(at_b e1).2,(at_b e2).1,(at_b e3).1,(at_b e3).2]
   have:=hr.cub _ (List.getElem_mem (show i<r.length by omega))
   generalize r[i]=b at this
   rcases this with rfl|rfl|rfl<;>simp[bef1,dig]
 . have h1:=at_out (t:=c) (i:=i) (by omega)
   have h2:=at_out (t:=befL c r) (i:=i) (by rw[befL_len h];omega)
   rw[h1.1,h1.2,h2.1,h2.2]
   simp
theorem wof_andNot{f g h:Nat->Bool}(e:∀ i,h i=(f i && !g i))(k:Nat):wof h k=wof f k &&& ~~~ wof g k:=by
 refine BitVec.eq_of_getLsbD_eq fun i hi=>?_
 rw[BitVec.getLsbD_and,BitVec.getLsbD_not,wof_get _ _ _ hi,wof_get _ _ _ hi,wof_get _ _ _ hi,e]
 simp[hi]
def bw(w:Nat)(f g:Nat->Bool)(k:Nat):BitVec 64:=if k<w then wof f k &&& ~~~ wof g k else wof f k
@[reducible] def bcells(n w:Nat)(c d:Str):List D:=[.i .i64 (n:Int),.i .u64 ((bw w (car c) (car d) 0).toNat:Int),.i .u64 ((bw w (car c) (car d) 1).toNat:Int),.i .u64 ((bw w (car c) (car d) 2).toNat:Int),.i .u64 ((bw w (car c) (car d) 3).toNat:Int),.i .u64 ((bw w (one c) (car d) 0).toNat:Int),.i .u64 ((bw w (one c) (car d) 1).toNat:Int),.i .u64 ((bw w (one c) (car d) 2).toNat:Int),.i .u64 ((bw w (one c) (car d) 3).toNat:Int)]
theorem bcells_end{c d:Str}(h:d.length=c.length)(hd:CT d):bcells c.length 4 c d=crow (befL c d):=by
 simp only[bcells,crow,cells9,bw,wof_andNot (fun i=>(befL_bits h hd i).1),wof_andNot (fun i=>(befL_bits h hd i).2),befL_len h]
 rfl
theorem befL_ct{c r:Str}(hc:CT c)(h:r.length=c.length):CT (befL c r):=by
 refine⟨by rw[befL_len h];exact hc.len,fun b hb=>?_⟩
 obtain⟨k,hk⟩:=List.getElem?_of_mem hb
 have hkl:k<c.length:=by have:=(List.getElem?_eq_some_iff.1 hk).1;rw[befL_len h] at this;exact this
 have e1:=List.getElem?_eq_getElem hkl
 have e2:=List.getElem?_eq_getElem (show k<r.length by omega)
 rw[befL_get e1 e2] at hk
 cases hk
 unfold bef1
 split
 . exact hc.cub _ (List.getElem_mem hkl)
 . simp
theorem bf_none{c d:Str}(h:¬ (meetT c d).isSome=true):(D.tup [.agg [.i .i64 0,.i .u64 0,.i .u64 0,.i .u64 0,.i .u64 0,.i .u64 0,.i .u64 0,.i .u64 0,.i .u64 0],.b False]) = .tup [.agg (crow ((beforeT c d).getD [])),.b ((beforeT c d).isSome=true)]:=by
 unfold beforeT
 rw[if_neg h]
 simp[crow_nil]
set_option maxHeartbeats 4000000 in
theorem before_at(c d:Str)(hc:CT c)(hd:CT d):FSpec Tryz.prog T 83 [.agg (crow c),.agg (crow d)] (fun r rows=>r = .tup [.agg (crow ((beforeT c d).getD [])),.b ((beforeT c d).isSome=true)]/\rows=[]):=by
 refine FSpec.of_ok tok Tryz.func83 rfl Tryz.call83 (by simp) ?_
 (try (conv=>whnf));repeat' (first|refine Ok.seq ?_|((first|refine Ok.region tok ?_|refine Ok.cond ?_);conv=>whnf)|refine Ok.block ?_|((first|refine Ok.skip ?_|refine Ok.ret ?_);conv=>whnf)|(refine Or.inr (Or.inl ?_);(conv=>whnf);(repeat (refine aI ?_;conv=>whnf));refine⟨_,meet_at c d hc hd,?_⟩;rintro _ _ ⟨rfl,rfl⟩;conv=>whnf)|(refine bI ?_ ?_<;>intro<;>(conv=>whnf)<;>(try (exfalso;omega)))|fail)
 . rename_i h
   refine Or.inl ?_;(conv=>whnf)
   exact⟨bf_none h,rfl⟩
 . rename_i h
   have h:=Classical.not_not.1 h
   have hl:d.length=c.length:=by
    obtain⟨m,hm⟩:=Option.isSome_iff_exists.1 h
    rw[meetT_eq (meetT_ct hm hc hd).2.2] at hm
    have:=meetL_len hm
    omega
   refine Ok.loopU [2,3,4] [18] 0 3 (fun (w:Nat)=>[.i .i64 (w:Nat)]) (fun (w:Nat) (_:List (List D))=>[bcells c.length w c d,crow d,[.i .i64 0,.i .u64 0,.i .u64 0,.i .u64 0,.i .u64 0,.i .u64 0,.i .u64 0,.i .u64 0,.i .u64 0]]) (fun _ r=>r) (fun (w:Nat)=>w<=4) (fun (w:Nat)=>4 - w) (0) (by omega) ?_;(conv=>whnf);refine⟨by ((conv=>whnf);first|rfl|(simp[envCat,List.take_of_length_le,cells9,bcells,bcell,crow];done)|(simp[envCat,List.take_of_length_le,cells9,bcells,bcell,crow];rw[IntKind.wrap_i64];omega)),?_⟩
   rintro w hw
   (conv=>whnf)
   by_cases hw4:w=4
   . subst hw4
     (try (conv=>whnf));repeat' (first|refine Ok.seq ?_|((first|refine Ok.region tok ?_|refine Ok.cond ?_|refine Ok.exit ?_|refine Ok.ret ?_);conv=>whnf)|(refine bI ?_ ?_<;>intro<;>(conv=>whnf)<;>(try (exfalso;omega)))|fail)
     refine Or.inl ?_;(conv=>whnf)
     refine⟨?_,rfl⟩
     unfold beforeT
     rw[if_pos h]
     show D.tup [.agg (bcells c.length 4 c d),.b True]=_
     rw[bcells_end hl hd]
     simp
   . rcases (by omega:w=0\/w=1\/w=2\/w=3) with rfl|rfl|rfl|rfl
     . (try (conv=>whnf));repeat' (first|((with_reducible_and_instances refine nAndNot ?_);conv=>whnf)|refine Ok.seq ?_|((first|refine Ok.region tok ?_|refine Ok.region_plan (id:=7) tok follows [(3,11,[]),(7,11,[])] [.q 0,.q 1,.q 2,.q 3,.q 4,.q 5,.q 6,.q 7,.q 8,.q 9,.q 10,.l 11] (by kernel_rfl) ?_|refine Ok.region_plan (id:=8) tok follows [(3,11,[]),(7,11,[])] [.q 0,.q 1,.q 2,.q 3,.q 4,.q 5,.q 6,.q 7,.q 8,.q 9,.q 10,.l 11] (by kernel_rfl) ?_|refine Ok.cond ?_);conv=>whnf)|refine Ok.block ?_|((first|refine Ok.skip ?_|refine nI ?_);conv=>whnf)|(refine bI ?_ ?_<;>intro<;>(conv=>whnf)<;>(try (exfalso;omega)))|((first|refine aJ ?_|refine⟨_,rfl,?_⟩);conv=>whnf)|fail)
       refine⟨1,by omega,by omega,?_⟩
       (conv=>whnf)
       rfl
     . (try (conv=>whnf));repeat' (first|((with_reducible_and_instances refine nAndNot ?_);conv=>whnf)|refine Ok.seq ?_|((first|refine Ok.region tok ?_|refine Ok.region_plan (id:=7) tok follows [(3,11,[]),(7,11,[])] [.q 0,.q 1,.q 2,.q 3,.q 4,.q 5,.q 6,.q 7,.q 8,.q 9,.q 10,.l 11] (by kernel_rfl) ?_|refine Ok.region_plan (id:=8) tok follows [(3,11,[]),(7,11,[])] [.q 0,.q 1,.q 2,.q 3,.q 4,.q 5,.q 6,.q 7,.q 8,.q 9,.q 10,.l 11] (by kernel_rfl) ?_|refine Ok.cond ?_);conv=>whnf)|refine Ok.block ?_|((first|refine Ok.skip ?_|refine nI ?_);conv=>whnf)|(refine bI ?_ ?_<;>intro<;>(conv=>whnf)<;>(try (exfalso;omega)))|((first|refine aJ ?_|refine⟨_,rfl,?_⟩);conv=>whnf)|fail)
       refine⟨2,by omega,by omega,?_⟩
       (conv=>whnf)
       rfl
     . (try (conv=>whnf));repeat' (first|((with_reducible_and_instances refine nAndNot ?_);conv=>whnf)|refine Ok.seq ?_|((first|refine Ok.region tok ?_|refine Ok.region_plan (id:=7) tok follows [(3,11,[]),(7,11,[])] [.q 0,.q 1,.q 2,.q 3,.q 4,.q 5,.q 6,.q 7,.q 8,.q 9,.q 10,.l 11] (by kernel_rfl) ?_|refine Ok.region_plan (id:=8) tok follows [(3,11,[]),(7,11,[])] [.q 0,.q 1,.q 2,.q 3,.q 4,.q 5,.q 6,.q 7,.q 8,.q 9,.q 10,.l 11] (by kernel_rfl) ?_|refine Ok.cond ?_);conv=>whnf)|refine Ok.block ?_|((first|refine Ok.skip ?_|refine nI ?_);conv=>whnf)|(refine bI ?_ ?_<;>intro<;>(conv=>whnf)<;>(try (exfalso;omega)))|((first|refine aJ ?_|refine⟨_,rfl,?_⟩);conv=>whnf)|fail)
       refine⟨3,by omega,by omega,?_⟩
       (conv=>whnf)
       rfl
     . (try (conv=>whnf));repeat' (first|((with_reducible_and_instances refine nAndNot ?_);conv=>whnf)|refine Ok.seq ?_|((first|refine Ok.region tok ?_|refine Ok.region_plan (id:=7) tok follows [(3,11,[]),(7,11,[])] [.q 0,.q 1,.q 2,.q 3,.q 4,.q 5,.q 6,.q 7,.q 8,.q 9,.q 10,.l 11] (by kernel_rfl) ?_|refine Ok.region_plan (id:=8) tok follows [(3,11,[]),(7,11,[])] [.q 0,.q 1,.q 2,.q 3,.q 4,.q 5,.q 6,.q 7,.q 8,.q 9,.q 10,.l 11] (by kernel_rfl) ?_|refine Ok.cond ?_);conv=>whnf)|refine Ok.block ?_|((first|refine Ok.skip ?_|refine nI ?_);conv=>whnf)|(refine bI ?_ ?_<;>intro<;>(conv=>whnf)<;>(try (exfalso;omega)))|((first|refine aJ ?_|refine⟨_,rfl,?_⟩);conv=>whnf)|fail)
       refine⟨4,by omega,by omega,?_⟩
       (conv=>whnf)
       rfl
end Go.Proofs.YtaiondckookpiaaGreatDoor
namespace Go.Proofs.YtaiondckookpiaaGreatDoor
open Go Go.Vx
theorem bef_fill{c r:Str}{i:Nat}{a b:UInt8}(ha:c[i]? = some a)(hb:r[i]? = some b):befL (c.take (i+1)) (r.take (i+1))++c.drop (i+1)=(befL (c.take i) (r.take i)++c.drop i).set i (bef1 a b):=by
 have hi:i<c.length:=(List.getElem?_eq_some_iff.1 ha).1
 have hi2:i<r.length:=(List.getElem?_eq_some_iff.1 hb).1
 have hl:(befL (c.take i) (r.take i)).length=i:=by simp[befL];omega
 rw[List.set_append,if_neg (by omega),hl,Nat.sub_self,List.drop_eq_getElem_cons hi,List.set_cons_zero,take_snoc ha,take_snoc hb]
 unfold befL
 rw[List.zipWith_append (by simp;omega)]
 simp
theorem bef_at{c r:Str}{i:Nat}{a:UInt8}(ha:c[i]? = some a)(hir:i<r.length):(befL (c.take i) (r.take i)++c.drop i)[i]? = some a:=by
 have hi:i<c.length:=(List.getElem?_eq_some_iff.1 ha).1
 have hl:(befL (c.take i) (r.take i)).length=i:=by simp[befL];omega
 rw[List.getElem?_append_right (by omega),hl,Nat.sub_self,List.getElem?_drop]
 exact ha
end Go.Proofs.YtaiondckookpiaaGreatDoor
